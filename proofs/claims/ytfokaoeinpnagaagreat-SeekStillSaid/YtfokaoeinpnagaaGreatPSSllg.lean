/- A part of the proof of SeekStill: cut, joined and given short names by a program of this session (wip/tools/pack.py); Lean checks it. No condition. -/
import Derived.Test.YtfokaoeinpnagaaGreatPSSllf
import Derived.Maps.RangeRun
import Derived.Below
import Derived.Deep.Draws
import Derived.Deep.AppendLies
import Derived.Maps.AppendAt
import Derived.OwnWalk
import Derived.Laws.BytesArg
import Derived.Laws.MakeOwn
import Derived.Laws.OwnMore
import Derived.Deep.OwnRows
import Derived.Tactics
import Derived.Lib.ConvBytes
import Derived.Laws.Slices
import Derived.WalkKit
import Derived.KernelRfl
import Derived.RowKit3
import Derived.Deep.LoopGhost
import Derived.Deep.QuietTactic
import Derived.BigQuiet
import Derived.WideLaws
import Derived.Deep.DeepCutAuto
import Derived.Deep.CutBlock
import Derived.Deep.RegionHeld3
import Derived.Laws.Rows
import Derived.Lib.AppendStr
import Derived.ArgAppend
import Derived.Laws.IdiomCopy
import Derived.RowKit
import Derived.OrdersHeld
import Derived.Laws.BitsLemmas
import Derived.ChangeKeysEq
import Derived.Lib.Strings
import Derived.Laws.World
import Derived.Laws.Entries
import Derived.Test.YtfokaoeinpnagaaGreatProg
import Derived.Laws.StructEq
import Derived.WalkSpells
import Derived.Lib.Builder
import Derived.Lib.UnsafeStr
import Derived.BigRegion
import Derived.Test.YtfokaoeinpnagaaGreatPSSlld
set_option linter.unusedSectionVars false
set_option linter.unusedSimpArgs false
set_option linter.unusedVariables false
set_option maxHeartbeats 16000000
set_option maxRecDepth 100000
namespace Go.Proofs.YtfokaoeinpnagaaGreat.Ev
section
open Go
open Go.ChangeMaps (setBlock)
def ofS : SV → FV
 | .int k n=>.int k n
 | .bool b=>.bool b
 | .str s=>.str s
def kvC : KV → CV
 | .one x=>.one (.f (ofS x))
 | .agg xs=>.agg (xs.map fun x=>.f (ofS x))
def Mh (step:St → KV → Option St) (σ:St):List KV → Option St
 | []=>some σ
 | k :: l=>(step σ k).bind fun τ=>Mh step τ l
open Classical in
noncomputable def Tp (step:St → KV → Option St) (σ:St) (l:List KV):Option St :=
 if ∃ τ,∀ m:List KV,m.Perm l → Mh step σ m = some τ then Mh step σ l else none
def D8 (ks os:List Nat) (σ:St):St:=⟨pick ks σ.tm,pick os σ.ob⟩
def FM (σ:St) (os:List Nat) (s:Nat):Option (List KV):=match get σ.tm s with
 | some (.c (.one (.mp key)))=>if os.contains key then none else match get σ.ob key with
  | some (.map _ ents)=>some (ents.map (·.1))
  | _=>none
 | _=>none
noncomputable def Hu (Γ:Env) (F:Nat) (ks os:List Nat) (s:Nat) (g6:List G) (k6:List Nat) (cb:CC) (σ:St) (k:KV):Option St :=
 (vN Γ false g6 ⟨put σ.tm s (.c (kvC k)),σ.ob⟩).bind fun t=>(ev Γ F cb ⟨pick k6 t.tm,t.ob⟩).bind fun p=>match p.1 with
  | .iK=>some (D8 ks os p.2)
  | _=>none
noncomputable def fin (cf:CF) (mq:List CV) (dV:List AV) (σ:St):Option (List AV × List AV):=(jF σ mq dV).bind fun b=>(slots b.2 cf.res).bind fun l=>(lV cf.ro b.2 l).map fun r=>(r.1,b.1)
noncomputable def aaf (Γ:Env) (F:Nat) (ca:CC) (g4:List G) (sm:Nat) (ks os:List Nat) (s:Nat) (g6:List G) (k6:List Nat) (cb cc:CC) (cf:CF) (dV:List AV):Option (List AV × List AV) :=
 if dV.length ≠ cf.np then none else (enter cf.bo 0 [] ⟨[],[]⟩ dV).bind fun e=>(ev Γ F ca e.2).bind fun p=>match p.1 with
  | .ext _=>none
  | .ret=>fin cf e.1 dV p.2
  | .iK=>(vN Γ false g4 p.2).bind fun t=>(FM t os sm).bind fun l=>(Tp (Hu Γ F ks os s g6 k6 cb) (D8 ks os t) l).bind fun t=>(ev Γ F cc t).bind fun q=>match q.1 with
   | .ext _=>none
   | _=>fin cf e.1 dV q.2
section
variable {P : Program} {Γ:Env} {aV Fz bg:Nat → Prop} {w0 w w':World} {aU bs:List Nat} {N N':Fr} {F:Nat} {κ eF iy:Nat → Value} {σ fB σ':St} {a a':Act} {X:Hx}
def blks (κ:Nat → Value) (ob:List (Nat × Ob)):List Nat:=ob.filterMap fun p=>blk (κ p.1)
theorem D9 {b:Nat} {ob:List (Nat × Ob)}:b ∈ blks κ ob ↔ ∃ p ∈ ob,blk (κ p.1) = some b:=List.mem_filterMap
theorem Rel.base (h:Rel aV w0 aU N Fz κ σ a w):Rel Fz w (blks κ σ.ob) N Fz κ σ a w :=
 ⟨h.tm,h.sz,h.lJ,h.fs,h.ob,h.uh,fun p hp b hb=>⟨(h.pos p hp b hb).1,(h.pos p hp b hb).2.1,.inl (D9.mpr ⟨p,hp,hb⟩)⟩,fun b hb=>⟨(h.fz b hb).1,.inl hb⟩,fun _ h=>h,ah1 _,fun _ _ _=>rfl,⟨rfl,rfl⟩⟩
theorem Rel.old (h:Rel aV w0 aU N Fz κ σ a w) {b:Nat} (hb:b ∈ blks κ σ.ob):¬ Fz b ∧ b < w.heap.size ∧ (b ∈ aU ∨ w0.heap.size ≤ b):=by
 obtain ⟨p,hp,hb⟩:=D9.mp hb
 exact h.pos p hp b hb
end
end
section
open Go
def jI (f:Func):Code:=match f.body with
 | some c=>c
 | none=>.skip
def nA : Nat → Code → Code
 | 0,.seq a _=>a
 | n + 1,.seq _ b=>nA n b
 | _,c=>c
def tlS : Nat → Code → Code
 | 0,c=>c
 | n + 1,.seq _ b=>tlS n b
 | _,c=>c
def uK : Nat → CC → CC
 | 0,.seq a _=>a
 | n + 1,.seq _ b=>uK n b
 | _,c=>c
def tlC : Nat → CC → CC
 | 0,c=>c
 | n + 1,.seq _ b=>tlC n b
 | _,c=>c
def BX : Nat → Code → CC → Bool
 | 0,_,_=>true
 | n + 1,.seq _ b,.seq _ y=>BX n b y
 | _,_,_=>false
theorem xS {P:Program} {X:Hx} {N:Nat → Bool} (H:List Hi):∀ (n k:Nat) (c:Code) (x:CC) (r:List Hi),BX n c x = true → (∀ i,i < n → comp P X N (nA i c) (H.drop (k + i)) = some (uK i x,H.drop (k + i + 1))) → comp P X N (tlS n c) (H.drop (k + n)) = some (tlC n x,r) → comp P X N c (H.drop k) = some (x,r)
 | 0,k,c,x,r,_,_,h=>h
 | n + 1,k,c,x,r,hs,hi,ht=>by
  unfold BX at hs
  split at hs
  ·rename_i h;cases h
  ·rename_i m a b y z e
   cases e
   have h0:=hi 0 (by omega)
   have h1:=xS H n (k + 1) b z r hs (fun i hlt=>by
    have:=hi (i + 1) (by omega)
    rw [show k + 1 + i = k + (i + 1) from by omega,show k + (i + 1) + 1 = k + (i + 1) + 1 from rfl]
    exact this) (by rw [show k + 1 + n = k + (n + 1) from by omega];exact ht)
   have h0':comp P X N a (H.drop k) = some (y,H.drop (k + 1)):=h0
   unfold comp
   rw [h0']
   simp only [Option.bind_some]
   rw [h1]
   rfl
  ·cases hs
end
section
open Go
section
variable {P : Program} {Fz bg:Nat → Prop} {w:World}
def QD : TV → TV
 | .own _ rows=>.f (.sl rows)
 | x=>x
def QE : AV → AV
 | .one x=>.one (QD x)
 | .agg xs=>.agg (xs.map QD)
def Ee : TV → Bool
 | .f _=>true
 | .own _ _=>true
 | _=>false
def H6 : AV → Bool
 | .one x=>Ee x
 | .agg xs=>xs.all Ee
theorem Ef {x:TV} {v:Value} {bs:List Nat} (h:mE Fz w x v bs) (hx:Ee x = true) (hw:∀ b,Fz b → bg b) (hb:∀ b ∈ bs,bg b):mE bg w (QD x) v []:=by
 cases x with
 | f y=>exact ⟨eO.mono hw (fun _ _=>rfl) y v h.1,rfl⟩
 | own sz rows=>exact ⟨iP.fz h hw hb,rfl⟩
 | iw=>cases hx
 | eH=>cases hx
 | ptr cs=>cases hx
 | mp sh ents=>cases hx
 | fp cs=>cases hx
 | fn f cs=>cases hx
 | any=>cases hx
theorem Ad : ∀ {xs:List TV} {vs:List Value} {bs:List Nat},j5 Fz w xs vs bs → xs.all Ee = true → (∀ b,Fz b → bg b) → (∀ b ∈ bs,bg b) → j5 bg w (xs.map QD) vs []
 | [],[],_,h,_,_,_=>rfl
 | x :: xs,v :: vs,_,⟨b1,b2,h1,h2,e⟩,hx,hw,hb=>by
  subst e
  rw [List.all_cons,ah5] at hx
  exact ⟨[],[],Ef h1 hx.1 hw (fun b h=>hb b (by simp [h])),Ad h2 hx.2 hw (fun b h=>hb b (by simp [h])),rfl⟩
 | [],_ :: _,_,h,_,_,_=>h.elim
 | _ :: _,[],_,h,_,_,_=>h.elim
theorem ME {x:AV} {v:Value} {bs:List Nat} (h:ou Fz w x v bs) (hx:H6 x = true) (hw:∀ b,Fz b → bg b) (hb:∀ b ∈ bs,bg b):ou bg w (QE x) v []:=by
 cases x with
 | one y=>exact Ef h hx hw hb
 | agg xs =>
  obtain ⟨cs,e,h1⟩:=h
  exact ⟨cs,e,Ad h1 hx hw hb⟩
theorem Ae : ∀ {xs:List AV} {vs:List Value} {bs:List Nat},eZ Fz w xs vs bs → (∀ x ∈ xs,H6 x = true) → (∀ b,Fz b → bg b) → (∀ b ∈ bs,bg b) → eZ bg w (xs.map QE) vs []
 | [],[],_,h,_,_,_=>rfl
 | x :: xs,v :: vs,_,⟨b1,b2,h1,h2,e⟩,hx,hw,hb=>by
  subst e
  exact ⟨[],[],ME h1 (hx x (by simp)) hw (fun b h=>hb b (by simp [h])),Ae h2 (fun y hy=>hx y (by simp [hy])) hw (fun b h=>hb b (by simp [h])),rfl⟩
 | [],_ :: _,_,h,_,_,_=>h.elim
 | _ :: _,[],_,h,_,_,_=>h.elim
theorem Sat.lend {f:FuncId} {g g':List AV → Option (List AV × List AV)} (h:Sat P f g) (hg:∀ dV r,g' dV = some r → (∀ x ∈ dV,H6 x = true) ∧ r.2 = dV ∧ ∃ l:List SV,r.1 = BP l ∧ g (dV.map QE) = some (r.1,dV.map QE)):Sat P f g':=by
 intro dV rs oP he Fz w vals bs ha hnd hap hfz
 obtain ⟨h1,h2,l,h3,h4⟩:=hg _ _ he
 simp only at h2 h3 h4
 subst h2
 subst h3
 have hfr:=Ae (bg:=fun b=>Fz b ∨ b ∈ bs) ha h1 (fun _ h=>.inl h) (fun _ h=>.inr h)
 refine (h _ _ _ h4 (fun b=>Fz b ∨ b ∈ bs) w vals [] hfr ajC (by simp) (fun b hb=>hb.elim (hfz b) (fun hm=>(hap b hm).2))).mono fun e w' ⟨Fz1,sw,b1,b2,he,hp⟩=>?_
 obtain ⟨e1,e2⟩:=sH hp.rs
 refine ⟨Fz,sw,bs,[],he,fun _ h=>h,fun b hb=>⟨aiz (hfz b hb) hp.big,.inl hb⟩,hp.big,fun b hb _=>hp.ext b hb (by simp),hp.kp,eZ.mono (fun _ h=>h) (fun b hb=>hp.ext b (hfz b hb) (by simp)) (fun b hb=>hp.ext b (hap b hb).2 (by simp)) ha,by rw [e1];exact pz,by simpa using hnd,fun b hb=>?_⟩
 have hb':b ∈ bs:=by simpa using hb
 exact ⟨(hap b hb').1,aiz (hap b hb').2 hp.big,.inl hb'⟩
def vk (l:List (FuncId × (List AV → Option (List AV × List AV)))) (Γ:Env):Env:=fun f dV=>match jd l f dV with
 | some r=>some r
 | none=>Γ f dV
theorem MF {l:List (FuncId × (List AV → Option (List AV × List AV)))} {Γ:Env} (h:∀ p ∈ l,Sat P p.1 p.2) (j6:gL P Γ):gL P (vk l Γ):=by
 intro f dV rs oP he
 unfold vk at he
 split at he
 ·rename_i r hr
  cases he
  exact sI h f dV rs oP hr
 ·exact j6 f dV rs oP he
theorem FP {l:List (FuncId × (List AV → Option (List AV × List AV)))} {Γ:Env} (h:∀ p ∈ l,∃ fn,P.funcs[p.1]? = some fn ∧ (fn.name == "runtime.NumGoroutine") = false ∧ fn.body.isSome = true) (j6:dG P Γ):dG P (vk l Γ):=by
 intro f dV r he
 unfold vk at he
 split at he
 ·rename_i r' hr
  exact nO h f dV r' hr
 ·exact j6 f dV r he
end
end
end Go.Proofs.YtfokaoeinpnagaaGreat.Ev
namespace Go.Proofs.YtfokaoeinpnagaaGreatW.aX
open Go.RowKit
structure ah (p:Prop):Prop where mk :: (out:p)
structure bM (w w':World):Prop where mk :: (out:∃ n,w' = w.drewN n)
theorem bM.refl (w:World):bM w w:=⟨⟨0,rfl⟩⟩
theorem bM.step {w w':World} (h:bM w w') (n:Nat):bM w (w'.drewN n):=by
 obtain ⟨m,rfl⟩:=h
 exact ⟨⟨m + n,World.drewN_drewN ..⟩⟩
theorem bM.grown {w w':World} (h:bM w w'):Grown w w':=by
 obtain ⟨n,rfl⟩:=h
 induction n with
 | zero=>exact Grown.refl _
 | succ n ih=>rw [← World.drew_drewN];exact Grown.drew ih
theorem bM.below {w w':World} (h:bM w w'):Below w.heap.size w w':=by
 obtain ⟨n,rfl⟩:=h
 induction n with
 | zero=>exact Below.refl _ _
 | succ n ih=>rw [← World.drew_drewN];exact ih.drew
def rd (xs:List Int) (i:Int):Int:=xs.getD i.toNat 0
def bt (s:ByteArray) (i:Int):Int:=if h:i.toNat < s.size then ((s[i.toNat]'h).toNat:Int) else 0
theorem vv (s:ByteArray) (i:Int):∀ h:i.toNat < s.size,((s[i.toNat]'h).toNat:Int) = bt s i:=fun h=>by simp [bt,h]
theorem gI (s:ByteArray) (i:Int):0 ≤ bt s i ∧ bt s i ≤ 255:=by
 unfold bt
 split
 ·rename_i h
  have:=(s[i.toNat]'h).toNat_lt
  omega
 ·omega
theorem av {w W:World} (h:Below w.heap.size w W) (o:Obj):Below w.heap.size w (W.alloc o):=h.alloc h.size o
theorem je {B:Nat} {w W:World} (h:Below B w W):Below B w W.drew:=⟨h.os,h.tape,h.output,h.size,h.block⟩
theorem aj {B:Nat} {w W:World} (h:Below B w W) (n:Nat):Below B w (W.drewN n):=⟨h.os,h.tape,h.output,h.size,h.block⟩
theorem FQ {B:Nat} {w w1 w2:World} (h:Below B w w1) (hB:B ≤ w1.heap.size) (k:Below w1.heap.size w1 w2):Below B w w2 :=
 h.trans ⟨k.os,k.tape,k.output,k.size,fun i hi=>k.block i (aiz hi hB)⟩
theorem xU {w w1:World} (h:Below w.heap.size w w1) (row:Option Nat):w.grownBy w1 row:=⟨h.os,h.tape,h.output,h.size,fun i hi _=>h.block i hi⟩
theorem mY {w w1:World} (h:Below w.heap.size w w1) {a:Addr} {v:Value} (hc:w.cell? a = some v):w1.cell? a = some v:=(h.cell (World.block_lt_of_cell? w a hc)).trans hc
theorem add_plain (g j:Nat):(⟨g,0,none⟩:Addr).add j = ⟨g,j,none⟩:=by unfold Addr.add;split <;> simp_all
def fZ (w:World) (k:IntKind) (A:Option Addr) (n:Nat) (xs:List Int):Prop :=
 xs.length = n ∧ n ≤ 9223372036854775807 ∧ (0 < n → ∃ ad,A = some ad ∧ ∀ j,j < n → w.cell? (ad.add j) = some (.int k (xs.getD j 0)))
theorem fZ.at_ {w:World} {k:IntKind} {A:Option Addr} {n:Nat} {xs:List Int} (h:fZ w k A n xs) (i:Int) (h0:0 ≤ i) (h1:i < n):∃ ad,A = some ad ∧ w.cell? (ad.add i.toNat) = some (.int k (rd xs i)):=by
 obtain ⟨ad,e,hc⟩:=h.2.2 (by omega)
 exact ⟨ad,e,hc _ (by omega)⟩
theorem fZ.below {w w1:World} {k:IntKind} {A:Option Addr} {n:Nat} {xs:List Int} (h:fZ w k A n xs) (hb:Below w.heap.size w w1):fZ w1 k A n xs :=
 ⟨h.1,h.2.1,fun hn=>by
  obtain ⟨ad,e,hc⟩:=h.2.2 hn
  exact ⟨ad,e,fun j hj=>mY hb (hc j hj)⟩⟩
theorem QL (W:World) (base:Nat) (e:TypeId) (size:Nat):W.ownsRow base e size (.slice none 0 0) 0 []:=⟨by simp,.inl ⟨rfl,rfl⟩⟩
theorem sO {w:World} {base:Nat} {e:TypeId} {size n:Nat} {v:Value} {xs:List Value} (h:w.ownsRow base e size v n xs) (k:Nat) (hk:v.ownBlock = some k):base ≤ k:=by
 rcases h.2 with ⟨rfl,_⟩ | ⟨g,cap,cur,rfl,hb,_⟩
 ·simp [Value.ownBlock] at hk
 ·have:g = k:=by simpa [Value.ownBlock] using hk
  omega
theorem ML {w:World} {base:Nat} {e:TypeId} {size n:Nat} {v:Value} {xs:List Value} (h:w.ownsRow base e size v n xs) (k:Nat) (hk:v.ownBlock = some k):k < w.heap.size:=by
 rcases h.2 with ⟨rfl,_⟩ | ⟨g,cap,cur,rfl,hb,hh,_⟩
 ·simp [Value.ownBlock] at hk
 ·have:g = k:=by simpa [Value.ownBlock] using hk
  subst this
  exact (ai5.1 hh).1
theorem sP {w w1:World} {base:Nat} {e:TypeId} {size n:Nat} {v:Value} {xs:List Value} (h:w.ownsRow base e size v n xs) (hb:Below w.heap.size w w1):w1.ownsRow base e size v n xs :=
 h.kept (xU hb none) (by cases v.ownBlock <;> simp)
theorem Jh {w w1:World} {base:Nat} {e:TypeId} {size n:Nat} {v:Value} {xs:List Value} (h:w.ownsRow base e size v n xs) {row:Option Nat} (hg:w.grownBy w1 row) (hne:v.ownBlock = none ∨ v.ownBlock ≠ row):w1.ownsRow base e size v n xs:=h.kept hg hne
section
variable {P : Program} {ops:Array Oper} {rest:List Oper} {o:Oper} {a:Act} {Q:Exit → Act → World → Prop}
end
section
variable {P : Program}
end
section
variable {P : Program} {ops:Array Oper} {rest:List Oper} {o:Oper} {a:Act} {Q:Exit → Act → World → Prop}
end
def bytesOf (s:ByteArray):List Int:=s.data.toList.map fun b=>(b.toNat:Int)
theorem fZ.Eh {w:World} {k:IntKind} {A:Option Addr} {n:Nat} {xs:List Int} (h:fZ w k A n xs) (i:Nat) (hi:i ≤ n):fZ w k A i (xs.take i):=by
 refine ⟨by rw [aia,h.1];omega,by have:=h.2.1;omega,fun hp=>?_⟩
 obtain ⟨ad,e,hc⟩:=h.2.2 (by omega)
 refine ⟨ad,e,fun j hj=>?_⟩
 rw [hc j (by omega)]
 simp [aix,hj]
def mF {α:Type} (a b:Option α):Prop:=∀ r,a = some r → b = some r
theorem mF.refl {α:Type} (a:Option α):mF a a:=fun _ h=>h
theorem mF.none {α:Type} (b:Option α):mF Option.none b:=fun _ h=>by cases h
theorem mF.trans {α:Type} {a b c:Option α} (h:mF a b) (k:mF b c):mF a c:=fun r hr=>k r (h r hr)
theorem mF.ite {α:Type} {c:Prop} [Decidable c] {a a' b b':Option α} (h:mF a a') (k:mF b b'):mF (if c then a else b) (if c then a' else b'):=by
 split
 ·exact h
 ·exact k
theorem mF.bind {α β:Type} {a a':Option α} {f f':α → Option β} (h:mF a a') (k:∀ x,mF (f x) (f' x)):mF (a.bind f) (a'.bind f'):=by
 intro r hr
 obtain ⟨x,hx,hf⟩:=Option.bind_eq_some_iff.1 hr
 exact Option.bind_eq_some_iff.2 ⟨x,h x hx,k x r hf⟩
theorem mF.map {α β:Type} {a a':Option α} (f:α → β) (h:mF a a'):mF (a.map f) (a'.map f):=by
 intro r hr
 obtain ⟨x,hx,hf⟩:=ajy.1 hr
 exact ajy.2 ⟨x,h x hx,hf⟩
theorem vB {α:Type} {g:Nat → Option α} (h:∀ k,mF (g k) (g (k + 1))) (k:Nat):∀ j,mF (g k) (g (k + j))
 | 0=>mF.refl _
 | j + 1=>(vB h k j).trans (h (k + j))
theorem uL {α:Type} {g:Nat → Option α} (h:∀ k,mF (g k) (g (k + 1))) {k k':Nat} (hk:k ≤ k') {r:α} (hr:g k = some r):g k' = some r:=by
 have:=vB h k (k' - k) r hr
 rwa [Nat.add_sub_cancel' hk] at this
def fG {α:Type} (R:α → List Value → Prop) (size:Nat) (ps:List α) (cs:List Value):Prop :=
 cs.length = ps.length * size ∧ ∀ j p,ps[j]? = some p → R p ((cs.drop (j * size)).take size)
theorem fG.none {α:Type} (R:α → List Value → Prop) (size:Nat):fG R size [] []:=⟨by simp,fun j p h=>by simp at h⟩
theorem fG.snoc {α:Type} {R:α → List Value → Prop} {size:Nat} {ps:List α} {cs c:List Value} {p:α} (h:fG R size ps cs) (hp:R p c) (hc:c.length = size):fG R size (ps ++ [p]) (cs ++ c):=by
 refine ⟨by rw [ah7,h.1,hc,ah7,List.length_singleton,Nat.add_mul,Nat.one_mul],fun j q hq=>?_⟩
 rcases ajf j ps.length with hj | hj
 ·rw [ajp hj] at hq
  have h1:j * size + size ≤ cs.length:=by rw [h.1,← aiN];exact ajv _ hj
  have h2:=h.2 j q hq
  rw [List.drop_append_of_le_length (by omega),ajL (by rw [aiv];omega)]
  exact h2
 ·have hj':j = ps.length:=by
   have:=(aiO.1 hq).1
   rw [ah7,List.length_singleton] at this
   omega
  subst hj'
  have hq':p = q:=by simpa using hq
  subst hq'
  rw [← h.1,List.drop_left,← hc,aiC]
  exact hp
theorem fG.zl {α:Type} {R R':α → List Value → Prop} {size:Nat} {ps:List α} {cs:List Value} (h:fG R size ps cs) (hR:∀ p c,R p c → R' p c):fG R' size ps cs:=⟨h.1,fun j p hj=>hR _ _ (h.2 j p hj)⟩
def l5 {α:Type} (R:α → List Value → Prop) (size:Nat) (w:World) (A:Option Addr) (n:Nat) (ps:List α):Prop :=
 ps.length = n ∧ n ≤ 9223372036854775807 ∧ (0 < n → ∃ ad,A = some ad ∧ ∀ j p,ps[j]? = some p → ∃ c,c.length = size ∧ R p c ∧ ∀ i u,c[i]? = some u → w.cell? (ad.add (j * size + i)) = some u)
theorem l5.zl {α:Type} {R R':α → List Value → Prop} {size:Nat} {w w1:World} {A:Option Addr} {n:Nat} {ps:List α} (h:l5 R size w A n ps) (hb:Below w.heap.size w w1) (hR:∀ p c,R p c → R' p c):l5 R' size w1 A n ps :=
 ⟨h.1,h.2.1,fun hn=>by
  obtain ⟨ad,e,hc⟩:=h.2.2 hn
  refine ⟨ad,e,fun j p hj=>?_⟩
  obtain ⟨c,hs,hr,hcell⟩:=hc j p hj
  exact ⟨c,hs,hR _ _ hr,fun i u hu=>mY hb (hcell i u hu)⟩⟩
theorem zm {α:Type} {R:α → List Value → Prop} {w:World} {base n size:Nat} {e:TypeId} {v:Value} {ps:List α} {cs:List Value} (h:w.ownsRow base e size v n cs) (hR:fG R size ps cs) (hn:ps.length = n) :
  ∃ A c,v = .slice A n c ∧ l5 R size w A n ps:=by
 rcases Nat.eq_zero_or_pos n with h0 | h0
 ·rcases h.2 with ⟨rfl,rfl⟩ | ⟨g,cap,cur,rfl,_⟩
  ·exact ⟨none,0,rfl,hn,by omega,fun hp=>absurd hp (by omega)⟩
  ·exact ⟨_,cap,rfl,hn,by omega,fun hp=>absurd hp (by omega)⟩
 ·obtain ⟨g,cap,rfl,_,_⟩:=h.form h0
  have hm:n ≤ 9223372036854775807:=by
   rcases h.2 with ⟨_,h1⟩ | ⟨g',cap',cur,he,_,_,h1,h2,_⟩
   ·omega
   ·simp only [maxLen] at h2
    omega
  refine ⟨_,cap,rfl,hn,hm,fun _=>⟨_,rfl,fun j p hj=>⟨(cs.drop (j * size)).take size,?_,hR.2 j p hj,fun i u hu=>?_⟩⟩⟩
  ·have hjl:=(aiO.1 hj).1
   have h1:j * size + size ≤ cs.length:=by rw [hR.1,← aiN];exact ajv _ hjl
   rw [aia,aiv]
   omega
  ·refine h.cells (g:=g) rfl _ u ?_
   rw [aiI] at hu
   split at hu
   ·rw [aiS] at hu
    exact hu
   ·cases hu
section
variable {P : Program} {ops:Array Oper} {rest:List Oper} {o:Oper} {a:Act} {Q:Exit → Act → World → Prop}
theorem l6 {w0 W:World} (base:Nat) (hgd:o.guard = none) (s x:Operand) (t e:TypeId) (z:Value) (size bytes:Nat)
  (ho:o.op = .call { callee:=.builtin .append,args:=#[s,x],argTypes:=#[t,t] })
  (ht:P.underlying t = some (.slice e)) (hinfo:(P.info? e).map (fun i=>(i.zero,i.size,i.bytes)) = some (some z,size,bytes)) (hz:z.cells.size = size) (hs0:0 < size) (hb0:0 < bytes)
  (v:Value) (n:Nat) (xs ys:List Value) (hs:a.eval s = v) (hx:a.eval x = .slice (some ⟨W.heap.size,0,none⟩) 1 1) (hys:ys.length = size) (h1:∀ u ∈ ys,u.oneCell' = true)
  (HO:W.ownsRow base e size v n xs) (HB:Below base w0 W) (hbase:base ≤ W.heap.size) (hl:(n + 1) * bytes ≤ 140737488355328)
  (h:∀ v1 w1,w1.ownsRow base e size v1 (n + 1) (xs ++ ys) → Below base w0 w1 → W.grownBy w1 v.ownBlock → (v1.ownBlock = v.ownBlock ∨ ∃ b,v1.ownBlock = some b ∧ W.heap.size ≤ b) → wpList P ops Q rest (a.put o.dst v1) w1) :
  wpList P ops Q (o :: rest) a (W.alloc (.cells ys.toArray e)):=by
 obtain ⟨i0,hi,hzz⟩:=ajy.1 hinfo
 simp only [ain] at hzz
 obtain ⟨hz0,hz1,hz2⟩:=hzz
 have hlen:n + 1 ≤ 140737488355328:=aij (Nat.le_mul_of_pos_right _ hb0) hl
 refine wpList_append_own_at (W.alloc (.cells ys.toArray e)) hgd s x t ho base e i0 z size bytes ht hi hz0 hz1 hz2 hz hs0 v n xs hs (HO.alloc _) ⟨W.heap.size,0,none⟩ 1 1 ys hx (by rw [hys];simp)
  (by simpa using World.news_of_block (cs:=ys.toArray) (t:=e) (fr:=(0,0)) (heap_alloc_new W (.cells ys.toArray e))) h1 (by simp only [maxLen];omega) hl (by simp;omega) ?_
 intro v1 w1 hown hg _ hat
 refine h v1 w1 hown ((HB.alloc hbase _).grown hg (by simp;omega) (sO HO)) (World.grownBy.trans (World.grownBy_alloc W _ _) hg) ?_
 rcases hat with hat | hat
 ·exact .inl hat
 ·exact .inr ⟨_,hat,by simp⟩
end
theorem own_ne {w:World} {base:Nat} {e t:TypeId} {size n g:Nat} {v:Value} {xs:List Value} {cs:Array Value} (h:w.ownsRow base e size v n xs) (hg:w.heap[g]? = some (.cells cs t (0,0))) (hne:e ≠ t):some g ≠ v.ownBlock:=by
 rcases h.2 with ⟨rfl,_⟩ | ⟨g',cap,cur,rfl,_,hh,_⟩
 ·simp [Value.ownBlock]
 ·intro he
  have:g = g':=by simpa [Value.ownBlock] using he
  subst this
  rw [hg] at hh
  injection hh with hh
  injection hh with _ ht
  exact hne ht.symm
theorem QM {w:World} {g:Nat} {t:TypeId} {cs:Array Value} (h:w.heap[g]? = some (.cells cs t (0,0))) (i:Nat) (u:Value):(w.setCell ⟨g,i,none⟩ u).heap[g]? = some (.cells (cs.setIfInBounds i u) t (0,0)):=by
 simp [World.setCell,Array.getElem?_modify,h]
theorem nP {w:World} {g:Nat} {t:TypeId} {cs:Array Value} (h:w.heap[g]? = some (.cells cs t (0,0))) {p:Addr} (hp:g ≠ p.block) (u:Value):(w.setCell p u).heap[g]? = some (.cells cs t (0,0)):=(Below.heap_setCell w p u g hp).trans h
theorem jw {w:World} {g:Nat} {o:Obj} (h:w.heap[g]? = some o):g < w.heap.size:=(ai5.1 h).1
theorem bJ {w:World} {g:Nat} {t:TypeId} {cs:Array Value} (h:w.heap[g]? = some (.cells cs t (0,0))) (i:Nat):w.cell? ⟨g,i,none⟩ = cs[i]?:=cell_of_row w g i cs t (0,0) h
theorem bE {w:World} {g:Nat} {t:TypeId} {cs:Array Value} (h:w.heap[g]? = some (.cells cs t (0,0))) (i:Nat):w.frozen? ⟨g,i,none⟩ = false:=by simp [World.frozen?,h]
theorem uM {w w1:World} {g:Nat} {o:Obj} {row:Option Nat} (h:w.heap[g]? = some o) (hg:w.grownBy w1 row) (hne:some g ≠ row):w1.heap[g]? = some o:=(hg.block g (jw h) hne).trans h
theorem VZ {w:World} {g g':Nat} {t t':TypeId} {cs cs':Array Value} (h:w.heap[g]? = some (.cells cs t (0,0))) (h':w.heap[g']? = some (.cells cs' t' (0,0))) (hne:t ≠ t'):g ≠ g':=by
 rintro rfl
 rw [h] at h'
 injection h' with h'
 injection h' with _ ht
 exact hne ht
def gJ (w w':World) (g:Nat) (row:Option Nat):Prop:=w.heap.size ≤ w'.heap.size ∧ ∀ i,i < w.heap.size → i ≠ g → some i ≠ row → w'.heap[i]? = w.heap[i]?
theorem gJ.refl (w:World) (g:Nat) (row:Option Nat):gJ w w g row:=⟨ah1 _,fun _ _ _ _=>rfl⟩
theorem gJ.of_below {w w1:World} (h:Below w.heap.size w w1) (g:Nat) (row:Option Nat):gJ w w1 g row:=⟨h.size,fun i hi _ _=>h.block i hi⟩
theorem gJ.trans {w w1 w2:World} {g:Nat} {row aY:Option Nat} (h:gJ w w1 g row) (k:gJ w1 w2 g aY) (hr:aY = row ∨ ∃ b,aY = some b ∧ w.heap.size ≤ b):gJ w w2 g row :=
 ⟨aij h.1 k.1,fun i hi hg hn=>by
  refine (k.2 i (aiz hi h.1) hg ?_).trans (h.2 i hi hg hn)
  rcases hr with rfl | ⟨b,rfl,hb⟩
  ·exact hn
  ·intro e
   injection e with e
   omega⟩
theorem gJ.blk {w w1:World} {g g':Nat} {row:Option Nat} {o:Obj} (h:gJ w w1 g row) (hb:w.heap[g']? = some o) (hg:g' ≠ g) (hr:some g' ≠ row):w1.heap[g']? = some o:=(h.2 g' (jw hb) hg hr).trans hb
theorem gJ.own {w w1:World} {g:Nat} {row:Option Nat} {base:Nat} {e:TypeId} {size n:Nat} {v:Value} {xs:List Value} (h:gJ w w1 g row) (ho:w.ownsRow base e size v n xs) (hg:v.ownBlock ≠ some g) (hr:v.ownBlock = none ∨ v.ownBlock ≠ row):w1.ownsRow base e size v n xs:=by
 obtain ⟨h1,h2⟩:=ho
 refine ⟨h1,?_⟩
 rcases h2 with h2 | ⟨b,cap,cur,rfl,hb,hh,r⟩
 ·exact .inl h2
 ·refine .inr ⟨b,cap,cur,rfl,hb,h.blk hh ?_ ?_,r⟩
  ·intro e
   exact hg (by rw [← e];rfl)
  ·rcases hr with hr | hr
   ·simp [Value.ownBlock] at hr
   ·exact hr
def Ev {α:Type} (g:Nat → Option α) (r:α):Prop:=∃ K,∀ k,K ≤ k → g k = some r
theorem Ev.of {α:Type} {g:Nat → Option α} {r:α} (hg:∀ k,mF (g k) (g (k + 1))) {k:Nat} (h:g k = some r):Ev g r:=⟨k,fun _ hk=>uL hg hk h⟩
theorem Ev.now {α:Type} (r:α):Ev (fun _=>some r) r:=⟨0,fun _ _=>rfl⟩
theorem Ev.rounds {α:Type} {g:Nat → Option α} {r:α} (h:Ev g r):∃ k,g k = some r:=by
 obtain ⟨K,h⟩:=h
 exact ⟨K,h K (ah1 _)⟩
theorem Ev.bind {α β:Type} {g:Nat → Option α} {f:Nat → α → Option β} {a:α} {r:β} (h:Ev g a) (k:Ev (fun n=>f n a) r):Ev (fun n=>(g n).bind (f n)) r:=by
 obtain ⟨K,h⟩:=h
 obtain ⟨K',k⟩:=k
 refine ⟨max K K',fun n hn=>?_⟩
 have h1:=h n (by omega)
 have h2:=k n (by omega)
 simp only [h1,Option.bind_some]
 exact h2
theorem Ev.step {α:Type} {g f:Nat → Option α} {r:α} (h:∀ k,g (k + 1) = f k) (k:Ev f r):Ev g r:=by
 obtain ⟨K,k⟩:=k
 refine ⟨K + 1,fun n hn=>?_⟩
 obtain ⟨m,rfl⟩:∃ m,n = m + 1:=⟨n - 1,by omega⟩
 rw [h]
 exact k m (by omega)
theorem Ev.congr {α:Type} {g f:Nat → Option α} {r:α} (h:∀ k,g k = f k) (k:Ev f r):Ev g r:=by
 obtain ⟨K,k⟩:=k
 exact ⟨K,fun n hn=>(h n).trans (k n hn)⟩
section
variable {P : Program} {ops:Array Oper} {o:Oper} {a:Act} {Q:Exit → Act → World → Prop} {K:Act → World → Prop}
theorem sQ {w0 W:World} (base:Nat) (hw:Region.wanted o (yielded ops a.tmps) = true) (s x:Operand) (t e:TypeId) (z:Value) (size bytes:Nat)
  (ho:o.op = .call { callee:=.builtin .append,args:=#[s,x],argTypes:=#[t,t] })
  (ht:P.underlying t = some (.slice e)) (hinfo:(P.info? e).map (fun i=>(i.zero,i.size,i.bytes)) = some (some z,size,bytes)) (hz:z.cells.size = size) (hs0:0 < size) (hb0:0 < bytes)
  (v:Value) (n:Nat) (xs ys:List Value) (hs:a.eval s = v) (hx:a.eval x = .slice (some ⟨W.heap.size,0,none⟩) 1 1) (hys:ys.length = size) (h1:∀ u ∈ ys,u.oneCell' = true)
  (HO:W.ownsRow base e size v n xs) (HB:Below base w0 W) (hbase:base ≤ W.heap.size) (hl:(n + 1) * bytes ≤ 140737488355328)
  (h:∀ v1 w1,w1.ownsRow base e size v1 (n + 1) (xs ++ ys) → Below base w0 w1 → W.grownBy w1 v.ownBlock → (v1.ownBlock = v.ownBlock ∨ ∃ b,v1.ownBlock = some b ∧ W.heap.size ≤ b) → K (a.put o.dst v1) w1) :
  if Region.wanted o (yielded ops a.tmps) = true then Oper.wp P o a (W.alloc (.cells ys.toArray e)) K Q else K (a.put o.dst undef) (W.alloc (.cells ys.toArray e)):=by
 obtain ⟨i0,hi,hzz⟩:=ajy.1 hinfo
 simp only [ain] at hzz
 obtain ⟨hz0,hz1,hz2⟩:=hzz
 have hlen:n + 1 ≤ 140737488355328:=aij (Nat.le_mul_of_pos_right _ hb0) hl
 rw [ahX hw]
 obtain ⟨v1,w1,hr,hown,hg,_,hat⟩:=run_append_own_at (P:=P) (W.alloc (.cells ys.toArray e)) base t o.type e i0 z size bytes ht hi hz0 hz1 hz2 hz hs0 v n xs (HO.alloc _) ⟨W.heap.size,0,none⟩ 1 1 ys (by rw [hys];simp)
  (by simpa using World.news_of_block (cs:=ys.toArray) (t:=e) (fr:=(0,0)) (heap_alloc_new W (.cells ys.toArray e))) h1 (by simp only [maxLen];omega) hl (by simp;omega)
 unfold Oper.wp execOp
 simp only [ho,resolve,invoke,builtin,Sem.run_bind,Sem.run_pure,Result.andThen_ok,aiW,ah8,ail,hs,hx,hr]
 refine h v1 w1 hown ((HB.alloc hbase _).grown hg (by simp;omega) (sO HO)) (World.grownBy.trans (World.grownBy_alloc W _ _) hg) ?_
 rcases hat with hat | hat
 ·exact .inl hat
 ·exact .inr ⟨_,hat,by simp⟩
end
theorem FR {w:World} {base base':Nat} {e:TypeId} {size n:Nat} {v:Value} {xs:List Value} (h:w.ownsRow base e size v n xs) (hb:base' ≤ base):w.ownsRow base' e size v n xs:=by
 obtain ⟨h1,h2⟩:=h
 refine ⟨h1,?_⟩
 rcases h2 with h2 | ⟨g,cap,cur,rfl,hg,r⟩
 ·exact .inl h2
 ·exact .inr ⟨g,cap,cur,rfl,aij hb hg,r⟩
section
variable {α : Type} {enc:α → Value} {d:α}
def encs (enc:α → Value) (xs:List α):List Value:=xs.map enc
def FT (d:α) (xs:List α) (i:Int):α:=xs.getD i.toNat d
theorem vC (xs:List α):(encs enc xs).length = xs.length:=by simp [encs]
theorem MN (xs:List α) (j:Nat) (h:j < xs.length):(encs enc xs)[j]? = some (enc (xs.getD j d)):=by
 simp [encs,aic h,aix]
def gB (enc:α → Value) (d:α) (w:World) (A:Option Addr) (n:Nat) (xs:List α):Prop :=
 xs.length = n ∧ n ≤ 9223372036854775807 ∧ (0 < n → ∃ ad,A = some ad ∧ ∀ j,j < n → w.cell? (ad.add j) = some (enc (xs.getD j d)))
theorem gB.at_ {w:World} {A:Option Addr} {n:Nat} {xs:List α} (h:gB enc d w A n xs) (i:Int) (h0:0 ≤ i) (h1:i < n):∃ ad,A = some ad ∧ w.cell? (ad.add i.toNat) = some (enc (FT d xs i)):=by
 obtain ⟨ad,e,hc⟩:=h.2.2 (by omega)
 exact ⟨ad,e,hc _ (by omega)⟩
theorem gB.below {w w1:World} {A:Option Addr} {n:Nat} {xs:List α} (h:gB enc d w A n xs) (hb:Below w.heap.size w w1):gB enc d w1 A n xs :=
 ⟨h.1,h.2.1,fun hn=>by
  obtain ⟨ad,e,hc⟩:=h.2.2 hn
  exact ⟨ad,e,fun j hj=>mY hb (hc j hj)⟩⟩
theorem gB.Eh {w:World} {A:Option Addr} {n:Nat} {xs:List α} (h:gB enc d w A n xs) (i:Nat) (hi:i ≤ n):gB enc d w A i (xs.take i):=by
 refine ⟨by rw [aia,h.1];omega,by have:=h.2.1;omega,fun hp=>?_⟩
 obtain ⟨ad,e,hc⟩:=h.2.2 (by omega)
 refine ⟨ad,e,fun j hj=>?_⟩
 rw [hc j (by omega)]
 simp [aix,hj]
theorem Ji {W:World} {base g n cap:Nat} {e:TypeId} {xs:List α} (h:W.ownsRow base e 1 (.slice (some ⟨g,0,none⟩) n cap) n (encs enc xs)) (i:Int) (h0:0 ≤ i) (h1:i < n) :
  W.cell? ⟨g,i.toNat,none⟩ = some (enc (FT d xs i)) ∧ W.frozen? ⟨g,i.toNat,none⟩ = false:=by
 have hl:xs.length = n:=by have:=h.1;simp [encs] at this;exact this
 constructor
 ·have hc:=h.cells (g:=g) rfl i.toNat _ (MN (d:=d) xs i.toNat (by omega))
  rwa [add_plain] at hc
 ·rcases h.2 with ⟨h',_⟩ | ⟨g',cap',cur,h',_,hh,_⟩
  ·cases h'
  ·have:g = g':=by injection h' with h';injection h' with h';injection h' with h'
   subst this
   simp [World.frozen?,hh]
theorem BZ {W:World} {base g n cap:Nat} {e:TypeId} {xs:List α} (h:W.ownsRow base e 1 (.slice (some ⟨g,0,none⟩) n cap) n (encs enc xs)) (i:Int) (x:α) :
  (W.setCell ⟨g,i.toNat,none⟩ (enc x)).ownsRow base e 1 (.slice (some ⟨g,0,none⟩) n cap) n (encs enc (xs.set i.toNat x)) ∧ W.grownBy (W.setCell ⟨g,i.toNat,none⟩ (enc x)) (some g):=by
 have hs:=h.stored i.toNat (enc x)
 have he:(encs enc xs).set i.toNat (enc x) = encs enc (xs.set i.toNat x):=by simp [encs,ajk]
 rwa [he] at hs
end
section
variable {α : Type} {P:Program} {ops:Array Oper} {rest:List Oper} {o:Oper} {a:Act} {Q:Exit → Act → World → Prop}
end
theorem aI {w:World} {g:Nat} {o:Obj} (h:w.heap[g]? = some o) (o':Obj):(w.alloc o').heap[g]? = some o:=(Below.heap_alloc w o' g (jw h)).trans h
theorem aQ {w:World} {g:Nat} {o:Obj} (h:w.heap[g]? = some o):w.drew.heap[g]? = some o:=h
theorem aK {w:World} {g:Nat} {o:Obj} (h:w.heap[g]? = some o) (n:Nat):(w.drewN n).heap[g]? = some o:=h
theorem dP {w w1:World} {g:Nat} {o:Obj} (h:w.heap[g]? = some o) (hb:Below w.heap.size w w1):w1.heap[g]? = some o:=(hb.block g (jw h)).trans h
theorem sS (w:World) (o:Obj):(w.alloc o).heap[w.heap.size]? = some o:=heap_alloc_new w o
section
variable {P : Program}
theorem jJ {fn:Func} {p u:Tmp} {ty:TypeId} (h:fn.results = #[.cell p ty,.tmp u]) (tmps:Array Value) (w:World) (g:Nat) (t:TypeId) (cs:Array Value) (fr:Nat × Nat) (d:TypeDesc)
  (hp:tmps.getD p undef = .pointer (some ⟨g,0,none⟩)) (hg:w.heap[g]? = some (.cells cs t fr))
  (hu:P.underlying ty = some d) (hd:(match d with | .struct _ | .array _ _=>true | _=>false) = true) (hi:(P.info? ty).map (·.size) = some cs.size) :
  (results fn tmps).run P w = .ok (.tuple #[.agg cs,tmps.getD u undef]) w:=by
 have hp':tmps[p]?.getD undef = .pointer (some ⟨g,0,none⟩):=by simpa using hp
 simp [results,h,hp',asAddr,run_loadVar_row w g t ty cs fr d hg hu hd hi]
end
theorem V3 {w:World} {base n m c size:Nat} {e:TypeId} {A:Option Addr} {xs:List Value} (h:w.ownsRow base e size (.slice A m c) n xs):m ≤ c:=by
 rcases h.2 with ⟨he,_⟩ | ⟨g,cap,cur,he,_,_,hnc,_⟩
 ·injection he with _ h2 h3
  omega
 ·injection he with _ h2 h3
  omega
def fO {α:Type} (R:α → List Value → Prop) (e:TypeId) (size:Nat) (w:World) (base:Nat) (v:Value) (ps:List α):Prop :=
 ∃ inner,w.ownsRow base e size v ps.length inner ∧ fG R size ps inner
section
variable {α : Type} {R R':α → List Value → Prop} {e:TypeId} {size:Nat} {w w1:World} {base:Nat} {v:Value} {ps:List α}
theorem fO.none_ (R:α → List Value → Prop) (e:TypeId) (size:Nat) (w:World) (base:Nat):fO R e size w base (.slice none 0 0) []:=⟨[],QL _ _ _ _,fG.none _ _⟩
theorem fO.zl (h:fO R e size w base v ps) (hR:∀ p c,R p c → R' p c):fO R' e size w base v ps:=by
 obtain ⟨inner,ho,hr⟩:=h
 exact ⟨inner,ho,hr.zl hR⟩
theorem fO.below (h:fO R e size w base v ps) (hb:Below w.heap.size w w1):fO R e size w1 base v ps:=by
 obtain ⟨inner,ho,hr⟩:=h
 exact ⟨inner,sP ho hb,hr⟩
theorem fO.other (h:fO R e size w base v ps) {row:Option Nat} (hg:w.grownBy w1 row) (hne:v.ownBlock = none ∨ v.ownBlock ≠ row):fO R e size w1 base v ps:=by
 obtain ⟨inner,ho,hr⟩:=h
 exact ⟨inner,Jh ho hg hne,hr⟩
theorem fO.keep (h:fO R e size w base v ps) {g:Nat} {t:TypeId} {cells:Array Value} (hb:w.heap[g]? = some (.cells cells t (0,0))) (ht:e ≠ t) (hk:gJ w w1 g none):fO R e size w1 base v ps:=by
 obtain ⟨inner,ho,hr⟩:=h
 exact ⟨inner,hk.own ho (Ne.symm (own_ne ho hb ht)) (by cases v.ownBlock <;> simp),hr⟩
theorem fO.reads (h:fO R e size w base v ps):∃ A c,v = .slice A ps.length c ∧ ps.length ≤ c ∧ l5 R size w A ps.length ps:=by
 obtain ⟨inner,ho,hr⟩:=h
 obtain ⟨A,c,rfl,hrow⟩:=zm ho hr rfl
 exact ⟨A,c,rfl,V3 ho,hrow⟩
theorem fO.MO (h:fO R e size w base v ps) {g:Nat} {t:TypeId} {cells:Array Value} (hb:w.heap[g]? = some (.cells cells t (0,0))) (ht:e ≠ t):some g ≠ v.ownBlock:=by
 obtain ⟨inner,ho,hr⟩:=h
 exact own_ne ho hb ht
theorem fO.lit (W:World) (base:Nat) {inner:List Value} (hr:fG R size ps inner) (hb:base ≤ W.heap.size) (hm:ps.length ≤ 9223372036854775807) :
  fO R e size (W.alloc (.cells inner.toArray e)) base (.slice (some ⟨W.heap.size,0,none⟩) ps.length ps.length) ps:=by
 have h:=World.ownsRow_lit (base:=base) (e:=e) (size:=size) W inner.toArray ps.length hb (by simpa [maxLen] using hm) (by simpa using hr.1)
 exact ⟨inner,by simpa using h,hr⟩
end
section
variable {P : Program} {ops:Array Oper} {rest:List Oper} {o:Oper} {a:Act} {Q:Exit → Act → World → Prop} {α:Type} {R:α → List Value → Prop}
theorem fO.append {w0 W:World} (base:Nat) (hgd:o.guard = none) (s x:Operand) (t e:TypeId) (z:Value) (size bytes:Nat)
  (ho:o.op = .call { callee:=.builtin .append,args:=#[s,x],argTypes:=#[t,t] })
  (ht:P.underlying t = some (.slice e)) (hinfo:(P.info? e).map (fun i=>(i.zero,i.size,i.bytes)) = some (some z,size,bytes)) (hz:z.cells.size = size) (hs0:0 < size) (hb0:0 < bytes)
  (v:Value) (ps:List α) (p:α) (cs:List Value) (hs:a.eval s = v) (hx:a.eval x = .slice (some ⟨W.heap.size,0,none⟩) 1 1) (hp:R p cs) (hcs:cs.length = size) (h1:∀ u ∈ cs,u.oneCell' = true)
  (HO:fO R e size W base v ps) (HB:Below base w0 W) (hbase:base ≤ W.heap.size) (hl:(ps.length + 1) * bytes ≤ 140737488355328)
  (h:∀ v1 w1,fO R e size w1 base v1 (ps ++ [p]) → Below base w0 w1 → W.grownBy w1 v.ownBlock → (v1.ownBlock = v.ownBlock ∨ ∃ b,v1.ownBlock = some b ∧ W.heap.size ≤ b) → wpList P ops Q rest (a.put o.dst v1) w1) :
  wpList P ops Q (o :: rest) a (W.alloc (.cells cs.toArray e)):=by
 obtain ⟨inner,hown,hr⟩:=HO
 refine l6 base hgd s x t e z size bytes ho ht hinfo hz hs0 hb0 v ps.length inner cs hs hx hcs h1 hown HB hbase hl ?_
 intro v1 w1 hown1 hb1 hg1 FU
 exact h v1 w1 ⟨inner ++ cs,by rw [ah7,List.length_singleton];exact hown1,hr.snoc hp hcs⟩ hb1 hg1 FU
end
section
variable {P : Program} {ops:Array Oper} {o:Oper} {a:Act} {Q:Exit → Act → World → Prop} {K:Act → World → Prop} {α:Type} {R:α → List Value → Prop}
end
section
variable {α : Type} {P:Program}
theorem gB.len_ {enc:α → Value} {d:α} {w:World} {A:Option Addr} {n:Nat} {xs:List α} (h:gB enc d w A n xs):gB enc d w A xs.length xs:=by rw [h.1];exact h
end
section
variable {P : Program} {ops:Array Oper} {rest:List Oper} {o:Oper} {a:Act} {Q:Exit → Act → World → Prop}
end
structure Kd (α:Type) where
 sz:Nat
 E:List Nat
 K:World → α → List Value → Prop
 M:World → Nat → (Nat → Prop) → α → List Value → Prop
 mM:∀ {w x cs},K w x cs → cs.length = sz
 nC:∀ {w x cs},K w x cs → ∀ u ∈ cs,u.oneCell' = true
 jU:∀ {w w1:World} {x cs},Below w.heap.size w w1 → K w x cs → K w1 x cs
 iF:∀ {w base ok x cs},M w base ok x cs → K w x cs
 jf:∀ {w base ok ok' x cs},(∀ k,ok k → ok' k) → M w base ok x cs → M w base ok' x cs
 jk:∀ {w:World} {base ok x cs},M w base ok x cs → M w base (fun k=>ok k ∧ base ≤ k ∧ k < w.heap.size ∧ ∃ q,q ∈ E ∧ ∃ cells,w.heap[k]? = some (.cells cells q (0,0))) x cs
 kH:∀ {w w1:World} {base ok x cs},(∀ k,ok k → w1.heap[k]? = w.heap[k]?) → M w base ok x cs → M w1 base ok x cs
 jV:∀ {w base base' ok x cs},base' ≤ base → M w base ok x cs → M w base' ok x cs
theorem MP {w w1:World} {base:Nat} {e:TypeId} {size n:Nat} {v:Value} {xs:List Value} (h:w.ownsRow base e size v n xs) (hm:∀ k,v.ownBlock = some k → w1.heap[k]? = w.heap[k]?):w1.ownsRow base e size v n xs:=by
 obtain ⟨h1,h2⟩:=h
 refine ⟨h1,?_⟩
 rcases h2 with h2 | ⟨g,cap,cur,rfl,hg,hh,r⟩
 ·exact .inl h2
 ·exact .inr ⟨g,cap,cur,rfl,hg,(hm g (by simp [Value.ownBlock])).trans hh,r⟩
theorem Af {w:World} {base:Nat} {e:TypeId} {size n:Nat} {v:Value} {xs:List Value} (h:w.ownsRow base e size v n xs) (k:Nat) (hk:v.ownBlock = some k):∃ cells,w.heap[k]? = some (.cells cells e (0,0)):=by
 rcases h.2 with ⟨rfl,_⟩ | ⟨g,cap,cur,rfl,hg,hh,r⟩
 ·simp [Value.ownBlock] at hk
 ·have:g = k:=by simpa [Value.ownBlock] using hk
  subst this
  exact ⟨cur,hh⟩
namespace Kd
def C {α:Type} (d:Kd α) (w:World) (A:Option Addr) (n:Nat) (xs:List α):Prop:=l5 (d.K w) d.sz w A n xs
def R {α:Type} (d:Kd α) (e:Nat) (w:World) (base:Nat) (ok:Nat → Prop) (v:Value) (xs:List α):Prop :=
 (∀ k,v.ownBlock = some k → ok k) ∧ fO (d.M w base (fun k=>ok k ∧ some k ≠ v.ownBlock)) e d.sz w base v xs
section
variable {α : Type} {d:Kd α} {e:Nat} {w w1:World} {base:Nat} {ok ok':Nat → Prop} {v:Value} {xs:List α}
theorem QN {A:Option Addr} {n:Nat} (h:d.C w A n xs) (hb:Below w.heap.size w w1):d.C w1 A n xs:=l5.zl h hb (fun _ _ hp=>d.jU hb hp)
theorem mO (d:Kd α) (e:Nat) (w:World) (base:Nat) (ok:Nat → Prop):d.R e w base ok (.slice none 0 0) []:=⟨fun k hk=>by simp [Value.ownBlock] at hk,fO.none_ _ _ _ _ _⟩
theorem pG (h:d.R e w base ok v xs) (hok:∀ k,ok k → ok' k):d.R e w base ok' v xs:=⟨fun k hk=>hok k (h.1 k hk),h.2.zl (fun _ _ hp=>d.jf (fun k hk=>⟨hok k hk.1,hk.2⟩) hp)⟩
theorem Ca (h:d.R e w base ok v xs):d.R e w base (fun k=>ok k ∧ base ≤ k ∧ k < w.heap.size ∧ ∃ q,q ∈ e :: d.E ∧ ∃ cells,w.heap[k]? = some (.cells cells q (0,0))) v xs:=by
 obtain ⟨h0,inner,ho,hr⟩:=h
 refine ⟨fun k hk=>?_,inner,ho,hr.zl (fun _ _ hp=>d.jf (fun k hk=>?_) (d.jk hp))⟩
 ·obtain ⟨cells,hc⟩:=Af ho k hk
  exact ⟨h0 k hk,sO ho k hk,ML ho k hk,e,ajh,cells,hc⟩
 ·obtain ⟨⟨h1,h2⟩,h3,h4,q,hq,hc⟩:=hk
  exact ⟨⟨h1,h3,h4,q,aiQ _ hq,hc⟩,h2⟩
theorem MQ (h:d.R e w base ok v xs) (hm:∀ k,ok k → w1.heap[k]? = w.heap[k]?):d.R e w1 base ok v xs:=by
 obtain ⟨h0,inner,ho,hr⟩:=h
 exact ⟨h0,inner,MP ho (fun k hk=>hm k (h0 k hk)),hr.zl (fun _ _ hp=>d.kH (fun k hk=>hm k hk.1) hp)⟩
theorem wB {base':Nat} (h:d.R e w base ok v xs) (hb:base' ≤ base):d.R e w base' ok v xs:=by
 obtain ⟨h0,inner,ho,hr⟩:=h
 exact ⟨h0,inner,FR ho hb,hr.zl (fun _ _ hp=>d.jV hb hp)⟩
theorem MR (h:d.R e w base ok v xs) (hm:∀ k,ok k → k < w.heap.size → w1.heap[k]? = w.heap[k]?):d.R e w1 base ok v xs :=
 pG (MQ (Ca h) (fun k hk=>hm k hk.1 hk.2.2.1)) (fun _ hk=>hk.1)
theorem V4 {x:α} {cs:List Value} (h:d.M w base ok x cs) (hm:∀ k,ok k → k < w.heap.size → w1.heap[k]? = w.heap[k]?):d.M w1 base ok x cs :=
 d.jf (fun _ hk=>hk.1) (d.kH (fun k hk=>hm k hk.1 hk.2.2.1) (d.jk h))
theorem lu (h:d.R e w base ok v xs) (hb:Below w.heap.size w w1):d.R e w1 base ok v xs:=MR h (fun k _ hk=>hb.block k hk)
theorem sU (h:d.R e w base ok v xs) {p:Addr} (hok:∀ k,ok k → k ≠ p.block) (u:Value):d.R e (w.setCell p u) base ok v xs:=MR h (fun k ho _=>Below.heap_setCell w p u k (hok k ho))
theorem sV (h:d.R e w base ok v xs) {g t:Nat} {cells:Array Value} (hb:w.heap[g]? = some (.cells cells t (0,0))) (ht:∀ q,q ∈ e :: d.E → q ≠ t):d.R e w base (fun k=>ok k ∧ k ≠ g) v xs :=
 pG (Ca h) (fun k hk=>⟨hk.1,by
  obtain ⟨_,_,_,q,hq,cells',hc⟩:=hk
  rintro rfl
  rw [hc] at hb
  injection hb with hb
  injection hb with _ hb
  exact ht q hq hb⟩)
theorem MS (h:d.R e w base ok v xs) {g t:Nat} {cells:Array Value} (hb:w.heap[g]? = some (.cells cells t (0,0))) (ht:∀ q,q ∈ e :: d.E → q ≠ t) (j:Nat) (u:Value):d.R e (w.setCell ⟨g,j,none⟩ u) base ok v xs :=
 pG (sU (p:=⟨g,j,none⟩) (sV h hb ht) (fun _ hk=>hk.2) u) (fun _ hk=>hk.1)
theorem Cb (h:d.R e w base ok v xs):∃ A c,v = .slice A xs.length c ∧ xs.length ≤ c ∧ d.C w A xs.length xs:=by
 obtain ⟨A,c,he,hl,hr⟩:=fO.reads h.2
 exact ⟨A,c,he,hl,hr.zl (Below.refl _ _) (fun _ _ hp=>d.iF hp)⟩
theorem Cc (h:d.R e w base ok v xs):∃ A c,v = .slice A xs.length c:=by
 obtain ⟨A,c,he,_⟩:=Cb h
 exact ⟨A,c,he⟩
theorem MU (h:d.R e w base ok v xs):∃ inner,w.ownsRow base e d.sz v xs.length inner:=by
 obtain ⟨_,inner,ho,_⟩:=h
 exact ⟨inner,ho⟩
theorem V5 (h:d.R e w base ok v xs) {g t:Nat} {cells:Array Value} (hb:w.heap[g]? = some (.cells cells t (0,0))) (ht:e ≠ t):some g ≠ v.ownBlock:=fO.MO h.2 hb ht
end
def scalar {α:Type} (enc:α → Value) (h1:∀ x,(enc x).oneCell' = true):Kd α where
 sz:=1
 E:=[]
 K:=fun _ x cs=>cs = [enc x]
 M:=fun _ _ _ x cs=>cs = [enc x]
 mM:=fun h=>by rw [h];rfl
 nC:=fun h u hu=>by
  rw [h] at hu
  rw [aiR.1 hu]
  exact h1 _
 jU:=fun _ h=>h
 iF:=fun h=>h
 jf:=fun _ h=>h
 jk:=fun h=>h
 kH:=fun _ h=>h
 jV:=fun _ h=>h
def int (k:IntKind):Kd Int:=scalar (Value.int k) (fun _=>rfl)
def bool : Kd Bool:=scalar Value.bool (fun _=>rfl)
def string : Kd ByteArray:=scalar Value.string (fun _=>rfl)
def slice {α:Type} (e:Nat) (d:Kd α):Kd (List α) where
 sz:=1
 E:=e :: d.E
 K:=fun w xs cs=>∃ A c,cs = [.slice A xs.length c] ∧ xs.length ≤ c ∧ d.C w A xs.length xs
 M:=fun w base ok xs cs=>∃ v,cs = [v] ∧ d.R e w base ok v xs
 mM:=by
  rintro w x cs ⟨A,c,rfl,_⟩
  rfl
 nC:=by
  rintro w x cs ⟨A,c,rfl,_⟩ u hu
  rw [aiR.1 hu]
  rfl
 jU:=by
  rintro w w1 x cs hb ⟨A,c,rfl,hl,hr⟩
  exact ⟨A,c,rfl,hl,QN hr hb⟩
 iF:=by
  rintro w base ok x cs ⟨v,rfl,h⟩
  obtain ⟨A,c,rfl,hl,hr⟩:=Cb h
  exact ⟨A,c,rfl,hl,hr⟩
 jf:=by
  rintro w base ok ok' x cs hok ⟨v,rfl,h⟩
  exact ⟨v,rfl,pG h hok⟩
 jk:=by
  rintro w base ok x cs ⟨v,rfl,h⟩
  exact ⟨v,rfl,Ca h⟩
 kH:=by
  rintro w w1 base ok x cs hm ⟨v,rfl,h⟩
  exact ⟨v,rfl,MQ h hm⟩
 jV:=by
  rintro w base base' ok x cs hb ⟨v,rfl,h⟩
  exact ⟨v,rfl,wB h hb⟩
def bot {α:Type} (sz:Nat) (E:List Nat):Kd α where
 sz:=sz
 E:=E
 K:=fun _ _ _=>False
 M:=fun _ _ _ _ _=>False
 mM:=fun h=>h.elim
 nC:=fun h=>h.elim
 jU:=fun _ h=>h
 iF:=fun h=>h
 jf:=fun _ h=>h
 jk:=fun h=>h
 kH:=fun _ h=>h
 jV:=fun _ h=>h
def upto {α:Type} (F:Kd α → Kd α) (sz:Nat) (E:List Nat):Nat → Kd α
 | 0=>bot sz E
 | n + 1=>F (upto F sz E n)
def fix {α:Type} (F:Kd α → Kd α) (sz:Nat) (E:List Nat) (hs:∀ n,(upto F sz E n).sz = sz) (hE:∀ n q,q ∈ (upto F sz E n).E → q ∈ E):Kd α where
 sz:=sz
 E:=E
 K:=fun w x cs=>∃ n,(upto F sz E n).K w x cs
 M:=fun w base ok x cs=>∃ n,(upto F sz E n).M w base ok x cs
 mM:=by
  rintro w x cs ⟨n,h⟩
  rw [(upto F sz E n).mM h,hs n]
 nC:=by
  rintro w x cs ⟨n,h⟩
  exact (upto F sz E n).nC h
 jU:=by
  rintro w w1 x cs hb ⟨n,h⟩
  exact ⟨n,(upto F sz E n).jU hb h⟩
 iF:=by
  rintro w base ok x cs ⟨n,h⟩
  exact ⟨n,(upto F sz E n).iF h⟩
 jf:=by
  rintro w base ok ok' x cs hok ⟨n,h⟩
  exact ⟨n,(upto F sz E n).jf hok h⟩
 jk:=by
  rintro w base ok x cs ⟨n,h⟩
  refine ⟨n,(upto F sz E n).jf ?_ ((upto F sz E n).jk h)⟩
  rintro k ⟨h2,h3,h4,q,hq,hc⟩
  exact ⟨h2,h3,h4,q,hE n q hq,hc⟩
 kH:=by
  rintro w w1 base ok x cs hm ⟨n,h⟩
  exact ⟨n,(upto F sz E n).kH hm h⟩
 jV:=by
  rintro w base base' ok x cs hb ⟨n,h⟩
  exact ⟨n,(upto F sz E n).jV hb h⟩
theorem xV {α:Type} {d:Kd α} {e base:Nat} {ok Jj:Nat → Prop} {W w1:World} {v v1:Value} {xs:List α} {p:α} {inner cs:List Value} (h0:∀ k,v.ownBlock = some k → ok k) (hr:fG (d.M W base (fun k=>ok k ∧ some k ≠ v.ownBlock)) d.sz xs inner) (hp:d.M W base Jj p cs) (MV:∀ k,Jj k → ok k ∧ some k ≠ v.ownBlock) (hfresh:∀ k,W.heap.size ≤ k → ok k)
  (hown:w1.ownsRow base e d.sz v1 (xs.length + 1) (inner ++ cs)) (hg:W.grownBy w1 v.ownBlock) (hat:v1.ownBlock = v.ownBlock ∨ ∃ b,v1.ownBlock = some b ∧ W.heap.size ≤ b):d.R e w1 base ok v1 (xs ++ [p]):=by
 have hne:∀ k,some k ≠ v.ownBlock → k < W.heap.size → some k ≠ v1.ownBlock:=by
  intro k hk hlt
  rcases hat with hat | ⟨b,hb,hle⟩
  ·rw [hat];exact hk
  ·rw [hb]
   intro he
   injection he with he
   omega
 have step:∀ {q:α} {c:List Value} {o:Nat → Prop},d.M W base o q c → (∀ k,o k → ok k ∧ some k ≠ v.ownBlock) → d.M w1 base (fun k=>ok k ∧ some k ≠ v1.ownBlock) q c:=by
  intro q c o hq ho
  have h1:=d.kH (w1:=w1) (fun k hk=>hg.block k hk.2.2.1 (ho k hk.1).2) (d.jk hq)
  exact d.jf (fun k hk=>⟨(ho k hk.1).1,hne k (ho k hk.1).2 hk.2.2.1⟩) h1
 refine ⟨fun k hk=>?_,inner ++ cs,by rw [ah7,List.length_singleton];exact hown,?_⟩
 ·rcases hat with hat | ⟨b,hb,hle⟩
  ·exact h0 k (hat ▸ hk)
  ·rw [hb] at hk
   injection hk with hk
   exact hfresh k (by omega)
 ·exact (hr.zl (fun _ _ hq=>step hq (fun _ hk=>hk))).snoc (step hp MV) (d.mM (d.iF hp))
section
variable {P : Program} {ops:Array Oper} {rest:List Oper} {o:Oper} {a:Act} {Q:Exit → Act → World → Prop} {α:Type}
theorem MW (d:Kd α) {w0 W:World} (base:Nat) (hgd:o.guard = none) (s x:Operand) (t e:TypeId) (z:Value) (bytes:Nat)
  (ho:o.op = .call { callee:=.builtin .append,args:=#[s,x],argTypes:=#[t,t] })
  (ht:P.underlying t = some (.slice e)) (hinfo:(P.info? e).map (fun i=>(i.zero,i.size,i.bytes)) = some (some z,d.sz,bytes)) (hz:z.cells.size = d.sz) (hs0:0 < d.sz) (hb0:0 < bytes)
  (v:Value) (xs:List α) (p:α) (cs:List Value) (ok Jj:Nat → Prop) (hs:a.eval s = v) (hx:a.eval x = .slice (some ⟨W.heap.size,0,none⟩) 1 1) (hp:d.M W base Jj p cs) (MV:∀ k,Jj k → ok k ∧ some k ≠ v.ownBlock) (hfresh:∀ k,W.heap.size ≤ k → ok k)
  (HO:d.R e W base ok v xs) (HB:Below base w0 W) (hbase:base ≤ W.heap.size) (hl:(xs.length + 1) * bytes ≤ 140737488355328)
  (h:∀ v1 w1,d.R e w1 base ok v1 (xs ++ [p]) → Below base w0 w1 → W.grownBy w1 v.ownBlock → (v1.ownBlock = v.ownBlock ∨ ∃ b,v1.ownBlock = some b ∧ W.heap.size ≤ b) → wpList P ops Q rest (a.put o.dst v1) w1) :
  wpList P ops Q (o :: rest) a (W.alloc (.cells cs.toArray e)):=by
 obtain ⟨h0,inner,hown,hr⟩:=HO
 refine l6 base hgd s x t e z d.sz bytes ho ht hinfo hz hs0 hb0 v xs.length inner cs hs hx (d.mM (d.iF hp)) (d.nC (d.iF hp)) hown HB hbase hl ?_
 intro v1 w1 hown1 hb1 hg1 FU
 exact h v1 w1 (xV h0 hr hp MV hfresh hown1 hg1 FU) hb1 hg1 FU
end
section
variable {P : Program} {ops:Array Oper} {o:Oper} {a:Act} {Q:Exit → Act → World → Prop} {Kc:Act → World → Prop} {α:Type}
theorem zn (d:Kd α) {w0 W:World} (base:Nat) (hw:Region.wanted o (yielded ops a.tmps) = true) (s x:Operand) (t e:TypeId) (z:Value) (bytes:Nat)
  (ho:o.op = .call { callee:=.builtin .append,args:=#[s,x],argTypes:=#[t,t] })
  (ht:P.underlying t = some (.slice e)) (hinfo:(P.info? e).map (fun i=>(i.zero,i.size,i.bytes)) = some (some z,d.sz,bytes)) (hz:z.cells.size = d.sz) (hs0:0 < d.sz) (hb0:0 < bytes)
  (v:Value) (xs:List α) (p:α) (cs:List Value) (ok Jj:Nat → Prop) (hs:a.eval s = v) (hx:a.eval x = .slice (some ⟨W.heap.size,0,none⟩) 1 1) (hp:d.M W base Jj p cs) (MV:∀ k,Jj k → ok k ∧ some k ≠ v.ownBlock) (hfresh:∀ k,W.heap.size ≤ k → ok k)
  (HO:d.R e W base ok v xs) (HB:Below base w0 W) (hbase:base ≤ W.heap.size) (hl:(xs.length + 1) * bytes ≤ 140737488355328)
  (h:∀ v1 w1,d.R e w1 base ok v1 (xs ++ [p]) → Below base w0 w1 → W.grownBy w1 v.ownBlock → (v1.ownBlock = v.ownBlock ∨ ∃ b,v1.ownBlock = some b ∧ W.heap.size ≤ b) → Kc (a.put o.dst v1) w1) :
  if Region.wanted o (yielded ops a.tmps) = true then Oper.wp P o a (W.alloc (.cells cs.toArray e)) Kc Q else Kc (a.put o.dst undef) (W.alloc (.cells cs.toArray e)):=by
 obtain ⟨h0,inner,hown,hr⟩:=HO
 refine sQ base hw s x t e z d.sz bytes ho ht hinfo hz hs0 hb0 v xs.length inner cs hs hx (d.mM (d.iF hp)) (d.nC (d.iF hp)) hown HB hbase hl ?_
 intro v1 w1 hown1 hb1 hg1 FU
 exact h v1 w1 (xV h0 hr hp MV hfresh hown1 hg1 FU) hb1 hg1 FU
end
theorem Ei {α:Type} {enc:α → Value} (xs:List α):fG (fun (x:α) (cs:List Value)=>cs = [enc x]) 1 xs (encs enc xs):=by
 refine ⟨by simp [encs],fun j p hj=>?_⟩
 obtain ⟨hl,hp⟩:=aiO.1 hj
 have hl':j < (encs enc xs).length:=by rw [vC];exact hl
 rw [Nat.mul_one,ajz hl']
 simp [encs,hp]
theorem MX {α:Type} {enc:α → Value} {h1:∀ x,(enc x).oneCell' = true} {e:Nat} {w:World} {base:Nat} {ok:Nat → Prop} {v:Value} {xs:List α} (ho:w.ownsRow base e 1 v xs.length (encs enc xs)) (hok:∀ k,v.ownBlock = some k → ok k):(scalar enc h1).R e w base ok v xs:=⟨hok,encs enc xs,ho,Ei xs⟩
theorem sW {α:Type} {enc:α → Value} {h1:∀ x,(enc x).oneCell' = true} {e:Nat} {w:World} {base:Nat} {ok:Nat → Prop} {v:Value} {xs:List α} (h:(scalar enc h1).R e w base ok v xs):w.ownsRow base e 1 v xs.length (encs enc xs):=by
 obtain ⟨_,inner,ho,hr⟩:=h
 have:inner = encs enc xs:=by
  apply ai4
  intro j
  rcases ajf j xs.length with hj | hj
  ·have h2:=hr.2 j _ (aic hj)
   have hl:j < inner.length:=by have:=hr.1;simp [scalar] at this;omega
   have h3:(inner.drop (j * 1)).take 1 = [enc xs[j]]:=h2
   rw [Nat.mul_one,ajz hl] at h3
   have h4:inner[j] = enc xs[j]:=by
    have h5:=aio List.head? h3
    rw [List.take_succ_cons] at h5
    exact aiE h5
   rw [aic hl,h4]
   simp [encs,aic hj]
  ·have h3:inner.length = xs.length:=by have:=hr.1;simp [scalar] at this;omega
   rw [ajm (by omega),ajm (by rw [vC];omega)]
 rw [← this]
 exact ho
end Kd
namespace Kd
section
variable {α : Type} {F:Kd α → Kd α} {sz:Nat} {E:List Nat} {hs:∀ n,(upto F sz E n).sz = sz} {hE:∀ n q,q ∈ (upto F sz E n).E → q ∈ E}
end
end Kd
namespace Kd
end Kd
namespace Kd
section
variable {α β:Type} {d:Kd α} {d':Kd β} {e e':Nat} {w w1 W:World} {base b b':Nat} {ok ok' okv oku:Nat → Prop} {v u:Value} {xs:List α} {ys:List β}
theorem gU (h:d.R e w base ok v xs) (o:Obj):d.R e (w.alloc o) base ok v xs:=lu h (av (Below.refl _ _) o)
theorem iQ (h:d.R e w base ok v xs):d.R e w.drew base ok v xs:=lu h (je (Below.refl _ _))
theorem iW (h:d.R e w base ok v xs) (m:Nat):d.R e (w.drewN m) base ok v xs:=lu h (aj (Below.refl _ _) m)
theorem aaz (d:Kd α) (w:World):d.C w none ([]:List α).length []:=⟨rfl,by simp,fun h=>absurd h (Nat.lt_irrefl 0)⟩
theorem aaA {A:Option Addr} {n:Nat} (h:d.C w A n xs):n ≤ 9223372036854775807:=h.2.1
theorem xW {A:Option Addr} {n c:Nat} (h:d.R e w base ok (.slice A n c) xs):n = xs.length ∧ n ≤ c ∧ d.C w A xs.length xs:=by
 obtain ⟨A',c',he,hl,hr⟩:=Cb h
 injection he with h1 h2 h3
 subst h1
 exact ⟨h2,by omega,hr⟩
theorem afp (h:d.R e w base ok v xs):∀ k,v.ownBlock = some k → k < w.heap.size:=by
 obtain ⟨inner,ho⟩:=MU h
 exact ML ho
theorem V6 (h:d.R e w base ok v xs):∀ k,v.ownBlock = some k → base ≤ k:=by
 obtain ⟨inner,ho⟩:=MU h
 exact sO ho
theorem V7 (h:d.R e w base ok v xs) (hp:0 < xs.length):∃ g cap,v = .slice (some ⟨g,0,none⟩) xs.length cap ∧ base ≤ g ∧ g < w.heap.size ∧ ∃ cells,w.heap[g]? = some (.cells cells e (0,0)):=by
 obtain ⟨inner,ho⟩:=MU h
 obtain ⟨g,cap,he,hb,hl⟩:=ho.form hp
 obtain ⟨cells,hc⟩:=Af ho g (by rw [he];simp [Value.ownBlock])
 exact ⟨g,cap,he,hb,hl,cells,hc⟩
theorem Ed (hu:d'.R e' W b oku u ys):∀ k,W.heap.size ≤ k → some k ≠ u.ownBlock:=fun k hk he=>by have:=afp hu k he.symm;omega
end
section
variable {w W:World} {A:Option Addr} {n:Nat}
variable {α : Type} {enc:α → Value} {h1:∀ x,(enc x).oneCell' = true} {e base g cap:Nat} {ok:Nat → Prop} {xs:List α}
theorem MZ (d:α) (h:(scalar enc h1).R e W base ok (.slice (some ⟨g,0,none⟩) xs.length cap) xs) (i:Int) (h0:0 ≤ i) (hi:i < xs.length):W.cell? ⟨g,i.toNat,none⟩ = some (enc (FT d xs i)) ∧ W.frozen? ⟨g,i.toNat,none⟩ = false:=Ji (sW h) i h0 hi
theorem aaB (h:(scalar enc h1).R e W base ok (.slice (some ⟨g,0,none⟩) xs.length cap) xs) (i:Int) (x:α):(scalar enc h1).R e (W.setCell ⟨g,i.toNat,none⟩ (enc x)) base ok (.slice (some ⟨g,0,none⟩) xs.length cap) (xs.set i.toNat x) ∧ W.grownBy (W.setCell ⟨g,i.toNat,none⟩ (enc x)) (some g):=by
 obtain ⟨ho,hg⟩:=BZ (sW h) i x
 exact ⟨MX (by rw [ajA];exact ho) h.1,hg⟩
end
section
variable {P : Program} {ops:Array Oper} {rest:List Oper} {o:Oper} {a:Act} {Q:Exit → Act → World → Prop}
theorem Jk {W w1:World} {v:Value} (hgd:o.guard = none) (hrun:(execOp a.eval o).run P W = .ok (.value v) w1) (h:wpList P ops Q rest (a.put o.dst v) w1):wpList P ops Q (o :: rest) a W:=by
 refine wpList_plain hgd fun K hK=>?_
 unfold Oper.wp
 rw [hrun]
 exact hK _ _ h
variable {α : Type}
end
end Kd
section
variable {P : Program}
end
def aaC (w:World) (base:Nat) (e:TypeId) (size:Nat) (v:Value) (n:Nat) (xs:List Value):Prop :=
 xs.length = n * size ∧
 ((n = 0 ∧ ∃ A,v = .slice A 0 0 ∧ ∀ a,A = some a → base ≤ a.block ∧ ∃ cur,w.heap[a.block]? = some (.cells cur e (0,0))) ∨
 ∃ g off cap cur,v = .slice (some ⟨g,off * size,none⟩) n cap ∧ base ≤ g ∧ w.heap[g]? = some (.cells cur e (0,0)) ∧ n ≤ cap ∧ off + cap ≤ maxLen ∧ cur.size = (off + cap) * size ∧ (cur.toList.drop (off * size)).take (n * size) = xs)
section
variable {w w1:World} {base n size:Nat} {e:TypeId} {v:Value} {xs:List Value}
theorem M0 (h:w.ownsRow base e size v n xs):aaC w base e size v n xs:=by
 obtain ⟨h1,h2⟩:=h
 refine ⟨h1,?_⟩
 rcases h2 with ⟨rfl,h0⟩ | ⟨g,cap,cur,rfl,hb,hh,hnc,hcm,hcs,ht⟩
 ·exact .inl ⟨h0,none,rfl,fun a ha=>by cases ha⟩
 ·exact .inr ⟨g,0,cap,cur,by rw [ai8],hb,hh,hnc,by rw [aip];exact hcm,by rw [aip];exact hcs,by rw [ai8,ai9];exact ht⟩
end
section
variable {P : Program}
end
namespace Kd
def Q {α:Type} (d:Kd α) (e:Nat) (w:World) (base:Nat) (ok:Nat → Prop) (v:Value) (xs:List α):Prop :=
 (∀ k,v.ownBlock = some k → ok k) ∧ ∃ inner,aaC w base e d.sz v xs.length inner ∧ fG (d.M w base (fun k=>ok k ∧ some k ≠ v.ownBlock)) d.sz xs inner
section
variable {α : Type} {d:Kd α} {e:Nat} {w w1 W:World} {base:Nat} {ok ok':Nat → Prop} {v:Value} {xs:List α}
theorem V8 (h:d.R e w base ok v xs):d.Q e w base ok v xs:=by
 obtain ⟨h0,inner,ho,hr⟩:=h
 exact ⟨h0,inner,M0 ho,hr⟩
theorem sZ (d:Kd α) (e:Nat) (w:World) (base:Nat) (ok:Nat → Prop):d.Q e w base ok (.slice none 0 0) []:=V8 (mO d e w base ok)
end
section
variable {P : Program} {ops:Array Oper} {rest:List Oper} {o:Oper} {a:Act} {Q':Exit → Act → World → Prop} {Kc:Act → World → Prop} {α:Type}
end
end Kd
namespace Kd
section
variable {α : Type} {d:Kd α} {e e':Nat} {w w1 W:World} {base:Nat} {ok:Nat → Prop} {u v:Value} {xs:List α}
end
end Kd
namespace Kd
section
variable {α : Type} {d:Kd α} {e base g n cap:Nat} {ok Jj:Nat → Prop} {W:World} {xs:List α}
end
end Kd
namespace Kd
section
variable {α : Type} {F:Kd α → Kd α} {sz:Nat} {E:List Nat} {hs:∀ n,(upto F sz E n).sz = sz} {hE:∀ n q,q ∈ (upto F sz E n).E → q ∈ E}
end
end Kd
namespace Kd
section
variable {P : Program} {ops:Array Oper} {rest:List Oper} {o:Oper} {a:Act} {Q:Exit → Act → World → Prop} {α:Type}
end
end Kd
namespace Kd
section
variable {P : Program} {ops:Array Oper} {rest:List Oper} {o:Oper} {a:Act} {Q:Exit → Act → World → Prop} {α:Type}
end
end Kd
namespace Kd
section
variable {α : Type} {k:Kd α} {w:World} {A:Option Addr} {xs:List α} {m c:Nat}
end
end Kd
section
variable {P : Program}
end
theorem dZ {w W:World} (h:Below w.heap.size w W):w.heap.size ≤ W.heap.size:=h.size
theorem dJ {w W w2:World} (h:Below w.heap.size w W) (k:Below W.heap.size W w2):Below w.heap.size w w2:=FQ h h.size k
theorem fZ.nil (W:World) (k:IntKind):fZ W k none ([]:List Int).length []:=⟨rfl,by simp,fun h=>absurd h (Nat.lt_irrefl 0)⟩
theorem fZ.drewN {W:World} {k:IntKind} {A:Option Addr} {n:Nat} {xs:List Int} (h:fZ W k A n xs) (m:Nat):fZ (W.drewN m) k A n xs:=h
theorem aT {w W:World} {g j:Nat} {v:Value} (h:Below w.heap.size w W) (hg:w.heap.size ≤ g):Below w.heap.size w (W.setCell ⟨g,j,none⟩ v):=h.setCell hg _
theorem Ag {w W:World} {g:Nat} (h:gJ w W g none) {a:Addr} {v:Value} (hc:w.cell? a = some v) (hne:a.block ≠ g):W.cell? a = some v:=by
 have:=h.2 a.block (World.block_lt_of_cell? w a hc) hne (by simp)
 simpa [World.cell?,this] using hc
theorem add_block (a:Addr) (i:Nat):(a.add i).block = a.block:=by unfold Addr.add;split <;> rfl
theorem gB.nil {α:Type} (enc:α → Value) (d:α) (W:World):gB enc d W none ([]:List α).length []:=⟨rfl,by simp,fun h=>absurd h (Nat.lt_irrefl 0)⟩
theorem gB.drewN {α:Type} {enc:α → Value} {d:α} {W:World} {A:Option Addr} {n:Nat} {xs:List α} (h:gB enc d W A n xs) (m:Nat):gB enc d (W.drewN m) A n xs:=h
theorem fZ.keep {w W:World} {k:IntKind} {A:Option Addr} {n g:Nat} {xs:List Int} (h:fZ w k A n xs) (hk:gJ w W g none) (hf:∀ ad,A = some ad → 0 < n → ad.block ≠ g):fZ W k A n xs :=
 ⟨h.1,h.2.1,fun hn=>by
  obtain ⟨ad,e,hc⟩:=h.2.2 hn
  exact ⟨ad,e,fun j hj=>Ag hk (hc j hj) (by rw [add_block];exact hf ad e hn)⟩⟩
theorem gB.keep {α:Type} {enc:α → Value} {d:α} {w W:World} {A:Option Addr} {n g:Nat} {xs:List α} (h:gB enc d w A n xs) (hk:gJ w W g none) (hf:∀ ad,A = some ad → 0 < n → ad.block ≠ g):gB enc d W A n xs :=
 ⟨h.1,h.2.1,fun hn=>by
  obtain ⟨ad,e,hc⟩:=h.2.2 hn
  exact ⟨ad,e,fun j hj=>Ag hk (hc j hj) (by rw [add_block];exact hf ad e hn)⟩⟩
theorem cell_far {W:World} {p a:Addr} (h:a.block ≠ p.block) (u:Value):(W.setCell p u).cell? a = W.cell? a:=by
 have:=Below.heap_setCell W p u a.block h
 simp [World.cell?,this]
theorem gK {w:World} {g:Nat} {t:TypeId} {cs cs':Array Value} (h:w.heap[g]? = some (.cells cs t (0,0))) (i:Nat) (u:Value) (e:cs.setIfInBounds i u = cs'):(w.setCell ⟨g,i,none⟩ u).heap[g]? = some (.cells cs' t (0,0)):=e ▸ QM h i u
theorem rZ {W:World} {base n c:Nat} {e:TypeId} {size g:Nat} {ad:Addr} {xs:List Value} (_:W.ownsRow base e size (.slice (some ad) n c) n xs) (hne:some g ≠ (Value.slice (some ad) n c).ownBlock):ad.block ≠ g:=by
 rintro rfl
 exact hne (by simp [Value.ownBlock])
theorem aA {base:Nat} {w W:World} (h:Below base w W):Below base w W.drew:=h.drew
namespace Kd
section
variable {α β:Type} {d:Kd α} {d':Kd β} {e e' base base' n:Nat} {ok ok':Nat → Prop} {w W w1 W1:World} {v u:Value} {xs:List α} {ys:List β} {A:Option Addr} {c:Nat}
theorem rZ {ad:Addr} {g:Nat} (hne:some g ≠ (Value.slice (some ad) n c).ownBlock):ad.block ≠ g:=by
 rintro rfl
 exact hne (by simp [Value.ownBlock])
end
section
variable {α : Type} {enc:α → Value} {h1:∀ x,(enc x).oneCell' = true} {w W:World} {A:Option Addr} {n g:Nat} {xs:List α}
end
end Kd
namespace Kd
section
variable {α : Type} {d:Kd α} {e base g:Nat} {ok:Nat → Prop} {w w1:World} {v:Value} {xs:List α} {o:Obj}
end
end Kd
section
variable {P : Program} {ops:Array Oper} {rest:List Oper} {o:Oper} {a:Act} {Q:Exit → Act → World → Prop}
theorem kI {W:World} (hgd:o.guard = none) {N:Tmp} (_hd:o.dst = some N) {cs:Array Value} {t:TypeId}
  (hrun:(execOp a.eval o).run P W = .ok (.value (.pointer (some ⟨W.heap.size,0,none⟩))) (W.alloc (.cells cs t (0,0))))
  (h:∀ g,g = W.heap.size → ∀ w1,w1.heap[g]? = some (.cells cs t (0,0)) → Below W.heap.size W w1 → wpList P ops Q rest (a.put o.dst (.pointer (some ⟨g,0,none⟩))) w1):wpList P ops Q (o :: rest) a W :=
 Kd.Jk hgd hrun (h _ rfl _ (sS W _) (av (Below.refl _ _) _))
end
namespace Kd
section
variable {α : Type} {enc:α → Value} {h1:∀ x,(enc x).oneCell' = true} {e base g n cap:Nat} {ok:Nat → Prop} {W:World} {xs:List α}
theorem Ce (d:α) (h:(scalar enc h1).R e W base ok (.slice (some ⟨g,0,none⟩) n cap) xs) (i:Int) (h0:0 ≤ i) (hi:i < n):W.cell? ⟨g,i.toNat,none⟩ = some (enc (FT d xs i)) ∧ W.frozen? ⟨g,i.toNat,none⟩ = false:=by
 obtain ⟨rfl,_⟩:=xW h
 exact MZ d h i h0 hi
end
end Kd
section
variable {P : Program} {ops:Array Oper} {rest:List Oper} {o:Oper} {a:Act} {Q:Exit → Act → World → Prop}
end
namespace Kd
section
variable {α : Type} {enc:α → Value} {h1:∀ x,(enc x).oneCell' = true} {e base g n cap:Nat} {ok:Nat → Prop} {W:World} {xs:List α}
theorem V9 (h:(scalar enc h1).R e W base ok (.slice (some ⟨g,0,none⟩) n cap) xs) (i:Int) (x:α):(scalar enc h1).R e (W.setCell ⟨g,i.toNat,none⟩ (enc x)) base ok (.slice (some ⟨g,0,none⟩) n cap) (xs.set i.toNat x) ∧ W.grownBy (W.setCell ⟨g,i.toNat,none⟩ (enc x)) (some g):=by
 obtain ⟨rfl,_⟩:=xW h
 exact aaB h i x
end
end Kd
section
variable {P : Program} {ops:Array Oper} {rest:List Oper} {o:Oper} {a:Act} {Q:Exit → Act → World → Prop} {W:World}
theorem l7 {N:Tmp} (_hN:o.dst = some N) (h:wpList P ops Q (o :: rest) a W):wpList P ops Q (o :: rest) a W:=h
end
section
variable {P : Program} {ops:Array Oper} {o:Oper} {a:Act} {Q:Exit → Act → World → Prop} {Kc:Act → World → Prop}
namespace Kd
variable {α : Type}
end Kd
end
section
variable {P : Program} {tmps:Array Value} {w:World}
end
namespace Kd
section
variable {P : Program} {α:Type}
end
section
variable {P : Program} {ops:Array Oper} {rest:List Oper} {o:Oper} {a:Act} {Q:Exit → Act → World → Prop} {Kc:Act → World → Prop} {α:Type}
end
end Kd
end Go.Proofs.YtfokaoeinpnagaaGreatW.aX
namespace Go.Proofs.YtfokaoeinpnagaaGreatW.dQ
section
variable {P : Program} {ops:Array Oper} {Q:Exit → Act → World → Prop} {md:Region.Mode} {S:World → Prop} {ds:List Nat}
def Region.kT (md:Region.Mode) (ops:Array Oper) (i:Nat):Nat → Nat → Bool
 | 0,_=>false
 | fuel + 1,d=>match ops[d]? with
  | some o=>o.after.any fun e=>Region.binds md e && (e.on == i || Region.kT md ops i fuel e.on)
  | none=>false
def Region.tq (md:Region.Mode) (ops:Array Oper) (listed:Array Bool):Bool :=
 (List.range ops.size).all fun j=>!listed.getD j false || match ops[j]? with
  | some o=>o.after.all fun e=>!Region.binds md e || listed.getD e.on false
  | none=>true
def Region.lastB (md:Region.Mode) (ops:Array Oper) (listed:Array Bool) (ds:List Nat) (i:Nat):Bool :=
 ds.all fun d=>listed.getD d true || Region.kT md ops i ops.size d
def iG (md:Region.Mode) (ops:Array Oper) (listed:Array Bool):Prop :=
 ∀ j oj,ops[j]? = some oj → listed.getD j false = true → ∀ e ∈ oj.after,Region.binds md e = true → listed.getD e.on false = true
theorem Region.Cg {listed:Array Bool} (h:Region.tq md ops listed = true):iG md ops listed:=by
 intro j oj hj hl e he hb
 have hlt:j < ops.size:=(ai5.1 hj).1
 have h1:=aib.1 h j (aiA.2 hlt)
 simp only [hl,hj,ajw,Bool.false_or] at h1
 have h2:=Array.all_eq_true_iff_forall_mem.1 h1 e he
 simpa [hb] using h2
theorem iG.set {listed:Array Bool} {i:Nat} (h:iG md ops listed) (hi:i ∈ Region.ready md ops listed):iG md ops (listed.setIfInBounds i true):=by
 obtain ⟨_,oi,hoi,hall⟩:=mem_ready.1 hi
 intro j oj hj hl e he hb
 by_cases hij:i = j
 ·subst hij
  have:oj = oi:=aiE (hj.symm.trans hoi)
  subst this
  exact getD_set_true (hall e he hb)
 ·rw [getD_set_ne false hij] at hl
  exact getD_set_true (h j oj hj hl e he hb)
theorem Region.tu {listed:Array Bool} {i:Nat} (hc:iG md ops listed):∀ (fuel d:Nat),Region.kT md ops i fuel d = true → listed.getD d false = true → listed.getD i false = true
 | 0,_,h,_=>by simp [Region.kT] at h
 | fuel + 1,d,h,hl=>by
  unfold Region.kT at h
  cases ho:ops[d]? with
  | none=>rw [ho] at h;simp at h
  | some o =>
   rw [ho] at h
   obtain ⟨e,he,h1⟩:=Array.any_eq_true'.1 h
   simp only [ah5,aiV,aiH] at h1
   have hle:=hc d o ho hl e he h1.1
   rcases h1.2 with h2 | h2
   ·rw [← h2];exact hle
   ·exact Region.tu hc fuel e.on h2 hle
theorem Region.vS {listed:Array Bool} {i d fuel:Nat} (hc:iG md ops listed) (hr:Region.kT md ops i fuel d = true) (hun:listed.getD i true = false):d ∉ Region.ready md ops listed:=by
 intro hd
 obtain ⟨_,o,ho,hall⟩:=mem_ready.1 hd
 have hi:listed.getD i false = true:=by
  cases fuel with
  | zero=>simp [Region.kT] at hr
  | succ n =>
   unfold Region.kT at hr
   rw [ho] at hr
   obtain ⟨e,he,h1⟩:=Array.any_eq_true'.1 hr
   simp only [ah5,aiV,aiH] at h1
   have hle:=hall e he h1.1
   rcases h1.2 with h2 | h2
   ·rw [← h2];exact hle
   ·exact Region.tu hc n e.on h2 hle
 rcases ajf i listed.size with h' | h'
 ·simp [h'] at hun hi
  rw [hun] at hi
  cases hi
 ·simp [aja h'] at hun
def dh (P:Program) (md:Region.Mode) (ops:Array Oper) (Q:Exit → Act → World → Prop) (S:World → Prop) (ds:List Nat):Nat → Array Bool → Act → World → Prop
 | 0,listed,a,w=>Region.ready md ops listed = [] ∧ Q .normal a w
 | fuel + 1,listed,a,w =>
  (Region.ready md ops listed = [] → Q .normal a w) ∧
  ∀ i ∈ Region.ready md ops listed,wpOp P ops Q i (fun a' w'=>(i ∉ ds → S w → S w') ∧ dh P md ops Q S ds fuel (listed.setIfInBounds i true) a' w') a w
theorem qM : ∀ (fuel:Nat) (listed:Array Bool) (a:Act) (w:World),dh P md ops Q S ds fuel listed a w → wpAny P md ops Q fuel listed a w
 | 0,_,_,_,h=>h
 | fuel + 1,_,_,_,h=>⟨h.1,fun i hi=>wpOp_mono (fun a' w' h'=>qM fuel _ a' w' h'.2) (h.2 i hi)⟩
theorem vT {i:Nat} {oi:Oper} {v:Value} (hi:ops[i]? = some oi) (hsel:∀ (j:Nat) (o:Oper) cs b,ops[j]? = some o → o.op ≠ .select cs b)
  (hQ:∀ c a w,Q (.panic c) (a.put oi.dst v) w → Q (.panic c) a w) (n:Nat) :
  ∀ (fuel:Nat) (listed:Array Bool) (a:Act) (w:World),
   (∀ j oj,ops[j]? = some oj → j ≠ i → listed.getD j true = false → (∀ e ∈ oj.after,Region.binds md e = true → e.on ≠ i) → oi.apart ops oj = true) →
   iG md ops listed → (∀ d ∈ ds,listed.getD d true = false → Region.kT md ops i n d = true) →
   i ∈ Region.ready md ops listed → YieldsIf P ops S oi v a → S w →
   dh P md ops Q S ds fuel (listed.setIfInBounds i true) (a.put oi.dst v) w → dh P md ops Q S ds (fuel + 1) listed a w:=by
 intro fuel
 induction fuel with
 | zero =>
  intro listed a w _ _ _ hr hy hS H
  refine ⟨fun h=>(by rw [h] at hr;cases hr),fun j hj=>?_⟩
  by_cases hji:j = i
  ·subst hji;exact hy.wpOp hi hS ⟨fun _ h=>h,H⟩
  ·have:=ready_mono hj hji
   rw [H.1] at this
   cases this
 | succ fuel ih =>
  intro listed a w hfree hc hd hr hy hS H
  refine ⟨fun h=>(by rw [h] at hr;cases hr),fun j hj=>?_⟩
  by_cases hji:j = i
  ·subst hji;exact hy.wpOp hi hS ⟨fun _ h=>h,H⟩
  ·have h1:=H.2 j (ready_mono hj hji)
   obtain ⟨hjun,oj,hoj,hall⟩:=mem_ready.1 hj
   have Jl:=(mem_ready.1 hr).1
   have hnot:∀ e ∈ oj.after,Region.binds md e = true → e.on ≠ i:=fun e he hb heq=>by
    have h1:=hall e he hb
    rw [heq] at h1
    rcases ajf i listed.size with h' | h'
    ·simp [h'] at Jl h1;rw [Jl] at h1;cases h1
    ·simp [aja h'] at h1
   have hjd:j ∉ ds:=fun hm=>Region.vS hc (hd j hm hjun) Jl hj
   have h2:=wpOp_putIf hoj (hfree j oj hoj hji hjun hnot) (fun cs b=>hsel i oi cs b hi) (fun cs b=>hsel j oj cs b hoj) hQ hy h1
   have hfree':∀ k ok,ops[k]? = some ok → k ≠ i → (listed.setIfInBounds j true).getD k true = false →
     (∀ e ∈ ok.after,Region.binds md e = true → e.on ≠ i) → oi.apart ops ok = true:=fun k ok hk hki hun hno=>by
    refine hfree k ok hk hki ?_ hno
    by_cases hjk:j = k
    ·subst hjk;exact hjun
    ·rw [getD_set_ne true hjk] at hun;exact hun
   have hd':∀ d ∈ ds,(listed.setIfInBounds j true).getD d true = false → Region.kT md ops i n d = true:=fun d hm hun=>by
    refine hd d hm ?_
    by_cases hjk:j = d
    ·subst hjk;exact hjun
    ·rw [getD_set_ne true hjk] at hun;exact hun
   refine wpOp_mono (fun a' w' h3=>⟨h3.2.1,ih (listed.setIfInBounds j true) a' w' hfree' (hc.set hj) hd' (ready_mono hr (Ne.symm hji)) h3.1 (h3.2.1 hjd hS) ?_⟩) h2
   rw [Array.setIfInBounds_comm _ _ hji]
   exact h3.2.2
theorem zo {i:Nat} {oi:Oper} {v:Value} (hi:ops[i]? = some oi) (hsel:∀ (j:Nat) (o:Oper) cs b,ops[j]? = some o → o.op ≠ .select cs b)
  (hQ:∀ c a w,Q (.panic c) (a.put oi.dst v) w → Q (.panic c) a w) :
  ∀ (fuel:Nat) (listed:Array Bool) (a:Act) (w:World),
   (∀ j oj,ops[j]? = some oj → j ≠ i → listed.getD j true = false → (∀ e ∈ oj.after,Region.binds md e = true → e.on ≠ i) → oi.apart ops oj = true) →
   i ∈ Region.ready md ops listed → Yields P ops oi v a →
   dh P md ops Q S ds fuel (listed.setIfInBounds i true) (a.put oi.dst v) w → dh P md ops Q S ds (fuel + 1) listed a w:=by
 intro fuel
 induction fuel with
 | zero =>
  intro listed a w _ hr hy H
  refine ⟨fun h=>(by rw [h] at hr;cases hr),fun j hj=>?_⟩
  by_cases hji:j = i
  ·subst hji;exact (hy.yieldsIf (S:=fun _=>True)).wpOp hi trivial ⟨fun _ h=>h,H⟩
  ·have:=ready_mono hj hji
   rw [H.1] at this
   cases this
 | succ fuel ih =>
  intro listed a w hfree hr hy H
  refine ⟨fun h=>(by rw [h] at hr;cases hr),fun j hj=>?_⟩
  by_cases hji:j = i
  ·subst hji;exact (hy.yieldsIf (S:=fun _=>True)).wpOp hi trivial ⟨fun _ h=>h,H⟩
  ·have h1:=H.2 j (ready_mono hj hji)
   obtain ⟨hjun,oj,hoj,hall⟩:=mem_ready.1 hj
   have Jl:=(mem_ready.1 hr).1
   have hnot:∀ e ∈ oj.after,Region.binds md e = true → e.on ≠ i:=fun e he hb heq=>by
    have h1:=hall e he hb
    rw [heq] at h1
    rcases ajf i listed.size with h' | h'
    ·simp [h'] at Jl h1;rw [Jl] at h1;cases h1
    ·simp [aja h'] at h1
   have h2:=wpOp_put hoj (hfree j oj hoj hji hjun hnot) (fun cs b=>hsel i oi cs b hi) (fun cs b=>hsel j oj cs b hoj) hQ hy h1
   have hfree':∀ k ok,ops[k]? = some ok → k ≠ i → (listed.setIfInBounds j true).getD k true = false →
     (∀ e ∈ ok.after,Region.binds md e = true → e.on ≠ i) → oi.apart ops ok = true:=fun k ok hk hki hun hno=>by
    refine hfree k ok hk hki ?_ hno
    by_cases hjk:j = k
    ·subst hjk;exact hjun
    ·rw [getD_set_ne true hjk] at hun;exact hun
   refine wpOp_mono (fun a' w' h3=>⟨h3.2.1,ih (listed.setIfInBounds j true) a' w' hfree' (ready_mono hr (Ne.symm hji)) h3.1 ?_⟩) h2
   rw [Array.setIfInBounds_comm _ _ hji]
   exact h3.2.2
theorem xX {i:Nat} {oi:Oper} {v:Value} {fuel:Nat} {listed:Array Bool} {a:Act} {w:World} (hi:ops[i]? = some oi)
  (hs:Region.noSelect ops = true) (hf:Region.free md ops listed i = true) (hr:(Region.ready md ops listed).contains i = true)
  (hc:Region.tq md ops listed = true) (hl:Region.lastB md ops listed ds i = true)
  (hQ:∀ c a w,Q (.panic c) (a.put oi.dst v) w → Q (.panic c) a w) (hy:YieldsIf P ops S oi v a) (hS:S w)
  (h:dh P md ops Q S ds fuel (listed.setIfInBounds i true) (a.put oi.dst v) w):dh P md ops Q S ds (fuel + 1) listed a w :=
 vT hi (Region.noSelect_spec hs) hQ ops.size fuel listed a w (Region.free_spec hi hf) (Region.Cg hc)
  (fun d hm hun=>by have:=aib.1 hl d hm;rw [hun] at this;simpa using this) (by simpa using hr) hy hS h
theorem zq {rs:List Nat} {fuel:Nat} {listed:Array Bool} {a:Act} {w:World} (hr:Region.ready md ops listed = rs) (hne:rs ≠ [])
  (h:∀ i ∈ rs,wpOp P ops Q i (fun a' w'=>(i ∉ ds → S w → S w') ∧ dh P md ops Q S ds fuel (listed.setIfInBounds i true) a' w') a w):dh P md ops Q S ds (fuel + 1) listed a w :=
 ⟨fun h0=>absurd (hr ▸ h0) hne,hr ▸ h⟩
theorem xY {listed:Array Bool} {a:Act} {w:World} (hr:Region.ready md ops listed = []) (h:Q .normal a w) :
  ∀ fuel,dh P md ops Q S ds fuel listed a w
 | 0=>⟨hr,h⟩
 | _ + 1=>⟨fun _=>h,by rw [hr];simp⟩
theorem xZ {id:Nat} {a:Act} {w:World} (hm:P.follows .mixedOrders = true)
  (h:dh P .any ops Q S ds ops.size (Array.replicate ops.size false) a { w with drawn:=w.drawn + 1 }):(Code.region id ops true).wp P Q a w :=
 wp_region_any hm (qM _ _ _ _ h)
end
section
variable {P : Program} {ops:Array Oper} {Q:Exit → Act → World → Prop} {md:Region.Mode} {S:World → Prop} {ds:List Nat}
def jM (P:Program) (md:Region.Mode) (ops:Array Oper) (Q:Exit → Act → World → Prop) (S:World → Prop) (ds:List Nat) (fuel:Nat) (listed:Array Bool) (a:Act) (w:World) (rs:List Nat):Prop :=
 ∀ i ∈ rs,wpOp P ops Q i (fun a' w'=>(i ∉ ds → S w → S w') ∧ dh P md ops Q S ds fuel (listed.setIfInBounds i true) a' w') a w
theorem jM.nil {fuel:Nat} {listed:Array Bool} {a:Act} {w:World}:jM P md ops Q S ds fuel listed a w []:=fun _ h=>by cases h
theorem jM.cons {fuel:Nat} {listed:Array Bool} {a:Act} {w:World} {i:Nat} {o:Oper} {rs:List Nat} (ho:ops[i]? = some o) (hd:i ∉ ds)
  (h:∀ K':Act → World → Prop,Shut (∀ a w,S w → (S w → dh P md ops Q S ds fuel (listed.setIfInBounds i true) a w) → K' a w) → if Region.wanted o (yielded ops a.tmps) = true then Oper.wp P o a w K' Q else K' (a.put o.dst undef) w)
  (hs:jM P md ops Q S ds fuel listed a w rs):jM P md ops Q S ds fuel listed a w (i :: rs):=fun j hj=>by
 rcases aif.1 hj with rfl | hj
 ·exact wpOp_step ho (fun K' hK=>h K' (fun a w hS hW=>hK a w ⟨fun _ _=>hS,hW hS⟩))
 ·exact hs j hj
theorem vU {rs:List Nat} {fuel:Nat} {listed:Array Bool} {a:Act} {w:World} (hr:Region.ready md ops listed = rs) (hne:rs ≠ [])
  (h:jM P md ops Q S ds fuel listed a w rs):dh P md ops Q S ds (fuel + 1) listed a w:=zq hr hne h
theorem M4 {id n:Nat} {a:Act} {w:World} (l:Array Bool) (hm:P.follows .mixedOrders = true) (hn:ops.size = n) (hl:Array.replicate n false = l) (hS:S w.drew)
  (h:S w.drew → dh P .any ops Q S ds n l a w.drew):(Code.region id ops true).wp P Q a w:=by
 subst hn
 subst hl
 exact xZ hm (h hS)
def takeB (md:Region.Mode) (ops:Array Oper) (ds:List Nat) (l l':Array Bool) (i:Nat):Bool :=
 Region.noSelect ops && Region.free md ops l i && (Region.ready md ops l).contains i && Region.tq md ops l && Region.lastB md ops l ds i && (l.setIfInBounds i true == l')
theorem Eh {i:Nat} {N:Option Tmp} {oi:Oper} {v:Value} {fuel:Nat} {l:Array Bool} {a:Act} {w:World} (l':Array Bool) (hi:ops[i]? = some oi) (hN:oi.dst = N) (hc:takeB md ops ds l l' i = true)
  (hQ:∀ c a w,Q (.panic c) (a.put oi.dst v) w → Q (.panic c) a w) (hy:YieldsIf P ops S oi v a) (hS:S w) {a':Act} (ha:a.put N v = a')
  (h:dh P md ops Q S ds fuel l' a' w):dh P md ops Q S ds (fuel + 1) l a w:=by
 subst ha
 subst hN
 simp only [takeB,ah5,aiH] at hc
 obtain ⟨⟨⟨⟨⟨h1,h2⟩,h3⟩,h4⟩,h5⟩,h6⟩:=hc
 subst h6
 exact xX hi h1 h2 h3 h4 h5 hQ hy hS h
def QO (md:Region.Mode) (ops:Array Oper) (l l':Array Bool) (i:Nat):Bool :=
 Region.noSelect ops && Region.free md ops l i && (Region.ready md ops l).contains i && (l.setIfInBounds i true == l')
theorem kY {i:Nat} {N:Option Tmp} {oi:Oper} {v:Value} {fuel:Nat} {l:Array Bool} {a:Act} {w:World} (l':Array Bool) (hi:ops[i]? = some oi) (hN:oi.dst = N) (hc:QO md ops l l' i = true)
  (hQ:∀ c a w,Q (.panic c) (a.put oi.dst v) w → Q (.panic c) a w) (hy:Yields P ops oi v a) {a':Act} (ha:a.put N v = a')
  (h:dh P md ops Q S ds fuel l' a' w):dh P md ops Q S ds (fuel + 1) l a w:=by
 subst ha
 subst hN
 simp only [QO,ah5,aiH] at hc
 obtain ⟨⟨⟨h1,h2⟩,h3⟩,h6⟩:=hc
 subst h6
 exact zo hi (Region.noSelect_spec h1) hQ fuel l a w (Region.free_spec hi h2) (by simpa using h3) hy h
def Ci (md:Region.Mode) (ops:Array Oper) (l l':Array Bool) (i:Nat):Bool:=(Region.ready md ops l == [i]) && (l.setIfInBounds i true == l')
theorem Wh {i:Nat} {N:Option Tmp} {oi:Oper} {fuel:Nat} {l:Array Bool} {a:Act} {w:World} (l':Array Bool) (hi:ops[i]? = some oi) (hN:oi.dst = N) (hc:Ci md ops l l' i = true) (hd:i ∉ ds)
  (h:∀ K:Act → World → Prop,Shut (∀ a' w',S w' → (S w' → dh P md ops Q S ds fuel l' a' w') → K a' w') → if Region.wanted oi (yielded ops a.tmps) = true then Oper.wp P oi a w K Q else K (a.put N undef) w) :
  dh P md ops Q S ds (fuel + 1) l a w:=by
 subst hN
 simp only [Ci,ah5,aiH] at hc
 obtain ⟨h1,h2⟩:=hc
 subst h2
 exact vU h1 (by simp) (jM.cons hi hd (fun K hK=>h K hK) jM.nil)
theorem Tw {l:Array Bool} {a:Act} {w:World} {n:Nat} (hr:(Region.ready md ops l == []) = true) (h:Q .normal a w):dh P md ops Q S ds n l a w:=xY (by simpa using hr) h n
theorem Tx {fuel:Nat} {l:Array Bool} {a a':Act} {w:World} (ha:a = a') (h:dh P md ops Q S ds fuel l a' w):dh P md ops Q S ds fuel l a w:=by
 subst ha
 exact h
theorem QS {f:FuncId} {fn:Func} (hf:P.funcs[f]? = some fn) (hname:(fn.name == "runtime.NumGoroutine") = false) (hb:fn.body.isSome = true) (args:Array Value) (w:World):(callFunc f args).run P w = .ok (.enter f args) w:=by
 have h1:fn.name ≠ "runtime.NumGoroutine" := by simpa using hname
 obtain ⟨c,hc⟩:=ajl.1 hb
 simp [callFunc,hf,h1,hc]
theorem jW {rest:List Oper} {oi:Oper} {a:Act} {w:World} (N:Option Tmp) (hd:oi.dst = N) (hg:oi.guard = none) {f:FuncId} {fn:Func} {ZZ9:Array Operand} {ts:Array TypeId} (hf:P.funcs[f]? = some fn) (hname:(fn.name == "runtime.NumGoroutine") = false) (hb:fn.body.isSome = true) (args:Array Value)
  (hop:oi.op = .call { callee:=.value (.func f),args:=ZZ9,argTypes:=ts }) (hargs:ZZ9.map a.eval = args)
  (h:Calls P f args w fun e w'=>∃ v,e = .returned v ∧ wpList P ops Q rest (a.put N v) w'):wpList P ops Q (oi :: rest) a w:=by
 refine wpList_plain hg fun K hK=>?_
 have he:=QS hf hname hb args w
 have hrun:(execOp a.eval oi).run P w = .ok (.enter f args) w:=by
  unfold execOp
  simp [hop,resolve,Deferred.ofValue,invoke,Act.eval,hargs,he]
 unfold Oper.wp
 rw [hrun,Oper.upon_enter]
 refine h.mono fun e w'' hh=>?_
 obtain ⟨v,rfl,hk⟩:=hh
 subst hd
 exact hK _ _ hk
theorem Wi {oi:Oper} {N:Option Tmp} {a:Act} {w w1:World} {v:Value} {K:Act → World → Prop} (hw:Region.wanted oi (yielded ops a.tmps) = true) (hN:oi.dst = N) (hrun:(execOp a.eval oi).run P w = .ok (.value v) w1)
  (h:K (a.put N v) w1):if Region.wanted oi (yielded ops a.tmps) = true then Oper.wp P oi a w K Q else K (a.put N undef) w:=by
 rw [ahX hw]
 subst hN
 unfold Oper.wp
 rw [hrun]
 exact h
theorem aaD {oi:Oper} {a:Act} {w w1:World} {K:Act → World → Prop} (hw:Region.wanted oi (yielded ops a.tmps) = true) (hN:oi.dst = none) (hrun:(execOp a.eval oi).run P w = .ok .skip w1)
  (h:K a w1):if Region.wanted oi (yielded ops a.tmps) = true then Oper.wp P oi a w K Q else K (a.put none undef) w:=by
 rw [ahX hw]
 unfold Oper.wp
 rw [hrun]
 show K (a.put oi.dst undef) w1
 rw [hN]
 exact h
theorem iD (n:Int):IntKind.i64.wrap n = Go.RowKit.wrap64 n:=by unfold Go.RowKit.wrap64;exact IntKind.wrap_i64 n
theorem jg (n:Int):IntKind.i32.wrap n = Go.RowKit.wrap32 n:=by unfold Go.RowKit.wrap32;exact IntKind.wrap_i32 n
end
end Go.Proofs.YtfokaoeinpnagaaGreatW.dQ
namespace Go.Proofs.YtfokaoeinpnagaaGreatW.aX
section
open Go.RowKit
namespace Kd
def tag {α:Type} (f:Nat → Nat) (d:Kd α):Kd (α × Nat) where
 sz:=d.sz
 E:=d.E
 K:=fun w x cs=>d.K w x.1 cs
 M:=fun w base ok x cs=>d.M w base (fun k=>ok k ∧ f k = x.2) x.1 cs
 mM:=fun h=>d.mM h
 nC:=fun h=>d.nC h
 jU:=fun hb h=>d.jU hb h
 iF:=fun h=>d.iF h
 jf:=fun hok h=>d.jf (fun k hk=>⟨hok k hk.1,hk.2⟩) h
 jk:=fun h=>d.jf (fun _ hk=>⟨⟨hk.1.1,hk.2⟩,hk.1.2⟩) (d.jk h)
 kH:=fun hm h=>d.kH (fun k hk=>hm k hk.1) h
 jV:=fun hb h=>d.jV hb h
def raw (sz:Nat):Kd (List Value) where
 sz:=sz
 E:=[]
 K:=fun _ x cs=>cs = x ∧ cs.length = sz ∧ ∀ u ∈ cs,u.oneCell' = true
 M:=fun _ _ _ x cs=>cs = x ∧ cs.length = sz ∧ ∀ u ∈ cs,u.oneCell' = true
 mM:=fun h=>h.2.1
 nC:=fun h=>h.2.2
 jU:=fun _ h=>h
 iF:=fun h=>h
 jf:=fun _ h=>h
 jk:=fun h=>h
 kH:=fun _ h=>h
 jV:=fun _ h=>h
def S {α:Type} (d:Kd α) (e:Nat) (w:World) (base:Nat) (ok:Nat → Prop) (v:Value) (xs:List α):Prop:=∃ f,(tag f d).R e w base ok v xs.zipIdx
section
variable {α β:Type} {d:Kd α} {d':Kd β} {e e':Nat} {w w1 W:World} {base b:Nat} {ok ok' okv oku:Nat → Prop} {u v:Value} {xs:List α} {ys:List β}
theorem tC (d:Kd α) (e:Nat) (w:World) (base:Nat) (ok:Nat → Prop):S d e w base ok (.slice none 0 0) []:=⟨fun _=>0,mO _ _ _ _ _⟩
end
section
variable {α β:Type} {d:Kd α} {d':Kd β} {e e' g:Nat} {w w1 W:World} {base b:Nat} {ok ok' okv oku:Nat → Prop} {u v:Value} {xs:List α} {ys:List β}
end
section
open Classical in
variable {P : Program} {ops:Array Oper} {rest:List Oper} {o:Oper} {a:Act} {Q:Exit → Act → World → Prop} {Kc:Act → World → Prop} {α:Type}
end
def gap {α:Type} (f:Nat → Nat) (d:Kd α) (i:Nat) (c:List Value):Kd (α × Nat) where
 sz:=d.sz
 E:=d.E
 K:=fun w x cs=>(x.2 = i → cs = c ∧ cs.length = d.sz ∧ ∀ u ∈ cs,u.oneCell' = true) ∧ (x.2 ≠ i → d.K w x.1 cs)
 M:=fun w base ok x cs=>(x.2 = i → cs = c ∧ cs.length = d.sz ∧ ∀ u ∈ cs,u.oneCell' = true) ∧ (x.2 ≠ i → d.M w base (fun k=>ok k ∧ f k = x.2) x.1 cs)
 mM:=fun {w x cs} h=>by
  by_cases hx:x.2 = i
  ·exact (h.1 hx).2.1
  ·exact d.mM (h.2 hx)
 nC:=fun {w x cs} h=>by
  by_cases hx:x.2 = i
  ·exact (h.1 hx).2.2
  ·exact d.nC (h.2 hx)
 jU:=fun hb h=>⟨h.1,fun hx=>d.jU hb (h.2 hx)⟩
 iF:=fun h=>⟨h.1,fun hx=>d.iF (h.2 hx)⟩
 jf:=fun hok h=>⟨h.1,fun hx=>d.jf (fun k hk=>⟨hok k hk.1,hk.2⟩) (h.2 hx)⟩
 jk:=fun h=>⟨h.1,fun hx=>d.jf (fun _ hk=>⟨⟨hk.1.1,hk.2⟩,hk.1.2⟩) (d.jk (h.2 hx))⟩
 kH:=fun hm h=>⟨h.1,fun hx=>d.kH (fun k hk=>hm k hk.1) (h.2 hx)⟩
 jV:=fun hb h=>⟨h.1,fun hx=>d.jV hb (h.2 hx)⟩
def H {α:Type} (d:Kd α) (e:Nat) (w:World) (base:Nat) (ok:Nat → Prop) (v:Value) (xs:List α) (i:Int) (oki:Nat → Prop) (c:List Value):Prop :=
 (∀ k,oki k → ok k) ∧ ∃ f,(gap f d i.toNat c).R e w base (fun k=>ok k ∧ ¬ oki k) v xs.zipIdx
section
variable {α β:Type} {d:Kd α} {e e' g n cap:Nat} {w w1 W:World} {base:Nat} {ok ok' oki Jj:Nat → Prop} {u v:Value} {xs:List α} {i:Int} {c:List Value}
open Classical in
end
section
variable {P : Program} {ops:Array Oper} {rest:List Oper} {o:Oper} {a:Act} {Q:Exit → Act → World → Prop} {α:Type}
end
end Kd
end
section
open Go.RowKit
namespace Kd
structure Heap {α:Type} (d:Kd α):Prop where
 K:∀ {w w1:World} {x:α} {cs:List Value},(∀ k,k < w.heap.size → w1.heap[k]? = w.heap[k]?) → d.K w x cs → d.K w1 x cs
theorem Jm {w w1:World} (hb:∀ k,k < w.heap.size → w1.heap[k]? = w.heap[k]?) {a:Addr} {v:Value} (h:w.cell? a = some v):w1.cell? a = some v:=by
 have:=hb a.block (World.block_lt_of_cell? w a h)
 simpa [World.cell?,this] using h
theorem Heap.C {α:Type} {d:Kd α} (hd:Heap d) {w w1:World} {A:Option Addr} {n:Nat} {xs:List α} (hb:∀ k,k < w.heap.size → w1.heap[k]? = w.heap[k]?) (h:d.C w A n xs):d.C w1 A n xs :=
 ⟨h.1,h.2.1,fun hn=>by
  obtain ⟨ad,e,hc⟩:=h.2.2 hn
  refine ⟨ad,e,fun j p hj=>?_⟩
  obtain ⟨c,hs,hr,hcell⟩:=hc j p hj
  exact ⟨c,hs,hd.K hb hr,fun i u hu=>Jm hb (hcell i u hu)⟩⟩
section
variable {α : Type} {d:Kd α} {e base g n c:Nat} {ok:Nat → Prop} {w w0 W:World} {A:Option Addr} {xs:List α}
end
end Kd
end
section
open Go.RowKit
def Kept (w W:World) (S:Nat → Prop):Prop:=w.heap.size ≤ W.heap.size ∧ ∀ i,i < w.heap.size → ¬ S i → W.heap[i]? = w.heap[i]?
section
variable {w W W2:World} {S S2 S':Nat → Prop}
theorem Kept.refl (w:World) (S:Nat → Prop):Kept w w S:=⟨ah1 _,fun _ _ _=>rfl⟩
theorem Kept.of_below (h:Below w.heap.size w W) (S:Nat → Prop):Kept w W S:=⟨h.size,fun i hi _=>h.block i hi⟩
theorem Kept.mono (h:Kept w W S) (hs:∀ k,S k → S' k):Kept w W S':=⟨h.1,fun i hi hn=>h.2 i hi (fun hk=>hn (hs i hk))⟩
theorem Kept.then_ (h:Kept w W S) (k:Kept W W2 S2) (hs:∀ k,S2 k → S k ∨ w.heap.size ≤ k):Kept w W2 S :=
 ⟨aij h.1 k.1,fun i hi hn=>(k.2 i (aiz hi h.1) (fun h2=>(hs i h2).elim hn (fun h3=>by omega))).trans (h.2 i hi hn)⟩
theorem Kept.below (h:Kept w W S) (hb:Below W.heap.size W W2):Kept w W2 S:=h.then_ (Kept.of_below hb (fun _=>False)) (fun _ hk=>hk.elim)
theorem Kept.alloc (h:Kept w W S) (o:Obj):Kept w (W.alloc o) S:=h.below (av (Below.refl _ _) o)
theorem Kept.drew (h:Kept w W S):Kept w W.drew S:=h
theorem Kept.drewN (h:Kept w W S) (m:Nat):Kept w (W.drewN m) S:=h
theorem Kept.setCell (h:Kept w W S) {p:Addr} (hp:S p.block ∨ w.heap.size ≤ p.block) (u:Value):Kept w (W.setCell p u) S :=
 h.then_ (S2:=fun k=>k = p.block) ⟨by simp [World.setCell],fun i _ hn=>Below.heap_setCell W p u i hn⟩ (fun k hk=>by rw [hk];exact hp)
theorem Kept.keep {g:Nat} (h:gJ w W g none) (k:Kept W W2 S2) (hs:∀ k,S2 k → w.heap.size ≤ k):gJ w W2 g none :=
 ⟨aij h.1 k.1,fun i hi hg hr=>(k.2 i (aiz hi h.1) (fun h2=>by have:=hs i h2;omega)).trans (h.2 i hi hg hr)⟩
end
namespace Kd
section
variable {α : Type} {d:Kd α} {e base n c:Nat} {ok oki S S2:Nat → Prop} {w w0 W W1 W2:World} {v:Value} {A:Option Addr} {xs:List α} {i:Int} {cs:List Value}
end
end Kd
end
section
open Go.RowKit
def q9 (P:World → Prop) (W:World) (ok:Nat → Prop):Prop:=∀ W':World,(∀ k,ok k → k < W.heap.size → W'.heap[k]? = W.heap[k]?) → P W'
theorem QT {W W1:World} {k:Nat} (h:W1.heap[k]? = W.heap[k]?) (hlt:k < W.heap.size):k < W1.heap.size:=by
 rw [ait hlt] at h
 exact (ai5.1 h).1
namespace q9
variable {P Q:World → Prop} {W W1:World} {ok ok':Nat → Prop}
theorem now (h:q9 P W ok):P W:=h W (fun _ _ _=>rfl)
theorem mono (h:q9 P W ok) (hok:∀ k,ok k → ok' k):q9 P W ok':=fun W' hW=>h W' (fun k hk hlt=>hW k (hok k hk) hlt)
theorem bound (h:q9 P W ok):q9 P W (fun k=>ok k ∧ k < W.heap.size):=fun W' hW=>h W' (fun k hk hlt=>hW k ⟨hk,hlt⟩ hlt)
theorem step (h:q9 P W ok) (hm:∀ k,ok k → k < W.heap.size → W1.heap[k]? = W.heap[k]?):q9 P W1 ok:=fun W' hW=>h W' (fun k hk hlt=>(hW k hk (QT (hm k hk hlt) hlt)).trans (hm k hk hlt))
theorem imp (h:q9 P W ok) (hi:∀ W',P W' → Q W'):q9 Q W ok:=fun W' hW=>hi W' (h W' hW)
theorem old (h:q9 P W ok) (hb:Below W.heap.size W W1):q9 P W1 (fun k=>ok k ∧ k < W.heap.size):=(h.bound).step (fun k _ hlt=>hb.block k hlt)
end q9
namespace Kd
def F {α:Type} (d:Kd α) (W:World) (ok:Nat → Prop) (A:Option Addr) (n:Nat) (xs:List α):Prop:=q9 (fun W=>d.C W A n xs) W ok
def FK {α:Type} (d:Kd α) (W:World) (ok:Nat → Prop) (x:α) (c:List Value):Prop:=q9 (fun W=>d.K W x c) W ok
section
variable {α β:Type} {d:Kd α} {e base n n' cc g N:Nat} {ok ok' Jj S:Nat → Prop} {w w0 w1 W W1:World} {A A':Option Addr} {u v v1:Value} {xs:List α} {xs':List β} {d':Kd β} {x:α} {c:List Value}
theorem aaE (d:Kd α) (W:World) (ok:Nat → Prop):F d W ok none ([]:List α).length []:=fun W' _=>aaz d W'
theorem QU (h:d.M W base ok x c):FK d W ok x c:=fun _ hW=>d.iF (V4 h hW)
end
end Kd
end
section
open Go.RowKit
namespace Kd
def chunks (sz:Nat) (n:Nat) (inner:List Value):List (List Value):=(List.range n).map fun j=>(inner.drop (j * sz)).take sz
theorem jC (sz n:Nat) (inner:List Value):(chunks sz n inner).length = n:=by simp [chunks]
theorem Jo {sz n:Nat} {inner:List Value} {j:Nat} (hj:j < n):(chunks sz n inner)[j]? = some ((inner.drop (j * sz)).take sz):=by simp [chunks,hj]
theorem yc {sz n:Nat} {inner:List Value} {j:Nat} {c:List Value} (h:(chunks sz n inner)[j]? = some c):c = (inner.drop (j * sz)).take sz:=by
 have hj:j < n:=by have:=(aiO.1 h).1;rwa [jC] at this
 rw [Jo hj] at h
 injection h with h
 exact h.symm
theorem M5 {α:Type} {Rr:α → List Value → Prop} {sz:Nat} {xs:List α} {inner:List Value} (h:fG Rr sz xs inner) (hR:∀ x c,Rr x c → c.length = sz ∧ ∀ u ∈ c,u.oneCell' = true):fG (fun x cs=>cs = x ∧ cs.length = sz ∧ ∀ u ∈ cs,u.oneCell' = true) sz (chunks sz xs.length inner) inner:=by
 refine ⟨by rw [jC];exact h.1,fun j p hj=>?_⟩
 have hjl:j < xs.length:=by have:=(aiO.1 hj).1;rwa [jC] at this
 have hp:=yc hj
 exact ⟨hp.symm,hR _ _ (h.2 j _ (aic hjl))⟩
section
variable {α : Type} {d:Kd α} {e base n cc g:Nat} {ok ok' Jj S:Nat → Prop} {w w1 W W1:World} {A:Option Addr} {u v v1:Value} {xs:List α} {x:α} {c:List Value}
def N {α:Type} (d:Kd α) (e:Nat) (w:World) (base:Nat) (ok:Nat → Prop) (v:Value) (xs:List α):Prop :=
 (∀ k,v.ownBlock = some k → ok k) ∧ ∃ rows:List (List Value),rows.length = xs.length ∧ (raw d.sz).R e w base (fun k=>some k = v.ownBlock) v rows ∧ ∀ (j:Nat) (x:α) (c:List Value),xs[j]? = some x → rows[j]? = some c → FK d w (fun k=>ok k ∧ some k ≠ v.ownBlock) x c
theorem R_N (h:d.R e w base ok v xs):N d e w base ok v xs:=by
 obtain ⟨h0,inner,ho,hr⟩:=h
 refine ⟨h0,chunks d.sz xs.length inner,jC _ _ _,⟨fun k hk=>hk.symm,inner,by rw [jC];exact ho,M5 hr (fun x c hp=>⟨d.mM (d.iF hp),d.nC (d.iF hp)⟩)⟩,fun j x c hx hc=>?_⟩
 rw [yc hc]
 exact QU (hr.2 j x hx)
theorem tF (d:Kd α) (e:Nat) (w:World) (base:Nat) (ok:Nat → Prop):N d e w base ok (.slice none 0 0) []:=R_N (mO _ _ _ _ _)
end
end Kd
end
end Go.Proofs.YtfokaoeinpnagaaGreatW.aX
namespace Go.Proofs.YtfokaoeinpnagaaGreatW.eX
open Go.RowKit Go.Proofs.YtfokaoeinpnagaaGreatW.aX
namespace Kd
open Go.Proofs.YtfokaoeinpnagaaGreatW.aX.Kd
end Kd
namespace Kd
open Go.Proofs.YtfokaoeinpnagaaGreatW.aX.Kd
section
variable {α : Type} {d:Kd α} {e base g N:Nat} {ok:Nat → Prop} {W w1:World} {u v:Value} {xs:List α}
end
end Kd
theorem jX (k k':IntKind) (x y:Int):Builtin.max2 (.int k x) (.int k' y) = pure (.int k (if x < y then y else x)):=by simp only [Builtin.max2,gt_iff_lt]
theorem jY (k k':IntKind) (x y:Int):Builtin.min2 (.int k x) (.int k' y) = pure (.int k (if y < x then y else x)):=by simp only [Builtin.min2]
theorem lC (ats:Array TypeId) (ty:TypeId) (a b:Value):Builtin.max_ ats ty #[a,b] = (Builtin.max2 a b >>= fun s=>pure s):=by simp only [Builtin.max_,ajP,List.foldlM_nil]
theorem lD (ats:Array TypeId) (ty:TypeId) (a b:Value):Builtin.min_ ats ty #[a,b] = (Builtin.min2 a b >>= fun s=>pure s):=by simp only [Builtin.min_,ajP,List.foldlM_nil]
theorem jl (ats:Array TypeId) (ty:TypeId) (a b c:Value):Builtin.max_ ats ty #[a,b,c] = (Builtin.max2 a b >>= fun s=>Builtin.max2 s c >>= fun s=>pure s):=by simp only [Builtin.max_,ajP,List.foldlM_nil]
theorem jm (ats:Array TypeId) (ty:TypeId) (a b c:Value):Builtin.min_ ats ty #[a,b,c] = (Builtin.min2 a b >>= fun s=>Builtin.min2 s c >>= fun s=>pure s):=by simp only [Builtin.min_,ajP,List.foldlM_nil]
theorem jZ (ats:Array TypeId) (ty:TypeId) (a b c d:Value):Builtin.max_ ats ty #[a,b,c,d] = (Builtin.max2 a b >>= fun s=>Builtin.max2 s c >>= fun s=>Builtin.max2 s d >>= fun s=>pure s):=by simp only [Builtin.max_,ajP,List.foldlM_nil]
theorem j3 (ats:Array TypeId) (ty:TypeId) (a b c d:Value):Builtin.min_ ats ty #[a,b,c,d] = (Builtin.min2 a b >>= fun s=>Builtin.min2 s c >>= fun s=>Builtin.min2 s d >>= fun s=>pure s):=by simp only [Builtin.min_,ajP,List.foldlM_nil]
end Go.Proofs.YtfokaoeinpnagaaGreatW.eX
namespace Go.Proofs.YtfokaoeinpnagaaGreatW.aX
open Go.RowKit
section
variable {P : Program} {ops:Array Oper} {rest:List Oper} {o:Oper} {a:Act} {Q:Exit → Act → World → Prop} {W:World}
theorem eP {f:FuncId} {ZZ9:Array Operand} {ts:Array TypeId} (_ho:o.op = .call { callee:=.value (.func f),args:=ZZ9,argTypes:=ts }) (h:wpList P ops Q (o :: rest) a W):wpList P ops Q (o :: rest) a W:=h
theorem Cj {b:Builtin} {xs:Array Operand} {ts:Array TypeId} (_ho:o.op = .call { callee:=.builtin b,args:=xs,argTypes:=ts }) (h:wpList P ops Q (o :: rest) a W):wpList P ops Q (o :: rest) a W:=h
end
def mx (a b:Int):Int:=if a < b then b else a
def mn (a b:Int):Int:=if b < a then b else a
def shl (k:IntKind) (x y:Int):Int:=k.wrap (x * 2 ^ min y.toNat k.bits)
def shr (k:IntKind) (x y:Int):Int:=x / 2 ^ min y.toNat k.bits
namespace Kd
section
variable {α : Type} {d:Kd α} {e base:Nat} {ok:Nat → Prop} {W w1:World} {v:Value} {xs:List α}
end
section
variable {α : Type} {d:Kd α} {e base g n cap:Nat} {ok oki Jj:Nat → Prop} {W:World} {xs:List α} {i:Int} {c:List Value}
end
section
variable {α : Type} {d:Kd α} {e base b b' g N:Nat} {ok ok1:Nat → Prop} {W W2 w1:World} {u v:Value} {xs ys:List α} {S:Nat → Prop}
end
end Kd
end Go.Proofs.YtfokaoeinpnagaaGreatW.aX
namespace Go.Proofs.YtfokaoeinpnagaaGreatW.aX
open Go.RowKit
namespace Kd
def V {α:Type} (d:Kd α) (_e:Nat) (W:World) (_base:Nat) (ok:Nat → Prop) (v:Value) (xs:List α):Prop:=∃ A c,v = .slice A xs.length c ∧ xs.length ≤ c ∧ F d W ok A xs.length xs
section
variable {α β:Type} {d:Kd α} {e base base' n m c g N' lo hi:Nat} {ok ok' S:Nat → Prop} {w W w1:World} {A:Option Addr} {ad:Addr} {u v v1:Value} {xs:List α}
theorem bQ (h:V d e W base ok v xs) (hF:∀ A,F d W ok A xs.length xs → F d w1 ok' A xs.length xs):V d e w1 base' ok' v xs:=by
 obtain ⟨A,c,hv,hl,hf⟩:=h
 exact ⟨A,c,hv,hl,hF A hf⟩
theorem tH (d:Kd α) (e:Nat) (W:World) (base:Nat) (ok:Nat → Prop):V d e W base ok (.slice none 0 0) []:=⟨none,0,rfl,ah1 _,aaE d W ok⟩
end
end Kd
end Go.Proofs.YtfokaoeinpnagaaGreatW.aX
namespace Go.Proofs.YtfokaoeinpnagaaGreat.B
section
open Go.RowKit Go.Proofs.YtfokaoeinpnagaaGreatW.aX
theorem lF {n:Int} (h0:-9223372036854775808 ≤ n) (h1:n ≤ 9223372036854775807):wrap64 n = n:=by unfold wrap64;omega
theorem toList_inj {s t:ByteArray}:s.toList = t.toList ↔ s = t:=by
 constructor
 ·intro h
  rw [Lib.toList_data,Lib.toList_data] at h
  exact ajc (Array.toList_inj.mp h)
 ·rintro rfl;rfl
theorem toList_nil {s:ByteArray}:s.toList = ([]:List UInt8) ↔ s.size = 0:=by
 rw [Lib.toList_data]
 constructor
 ·intro h
  show s.data.size = 0
  rw [← Array.length_toList,h];rfl
 ·intro h
  have h':s.data.size = 0:=h
  rw [← Array.length_toList] at h'
  exact ajt h'
theorem eq_empty {s:ByteArray} (h:s.size = 0):s = ⟨#[]⟩:=toList_inj.mp ((toList_nil.mpr h).trans (toList_nil.mpr rfl).symm)
theorem nQ (s:ByteArray) (i:Int):bt s i = ((s.data.toList[i.toNat]?.getD 0).toNat:Int):=by
 unfold bt
 by_cases h:i.toNat < s.size
 ·rw [dif_pos h]
  have h':i.toNat < s.data.toList.length:=by rw [Array.length_toList];exact h
  rw [aic h']
  rfl
 ·rw [dif_neg h]
  have h':¬ i.toNat < s.data.toList.length:=by rw [Array.length_toList];exact h
  rw [ajm (by omega)]
  rfl
theorem yg {a b:ByteArray} {i:Int} (h0:0 ≤ i) (h:i < (a.size:Int)):bt (a ++ b) i = bt a i:=by
 rw [nQ,nQ,ajQ,Array.toList_append,ajp]
 rw [Array.length_toList];show i.toNat < a.size;omega
theorem nR {s:ByteArray} {a b:Nat} {j:Int} (hj:0 ≤ j) (h:j < ((s.extract a b).size:Int)):bt (s.extract a b) j = bt s (a + j):=by
 have h':=h
 simp only [aiF] at h'
 rw [nQ,nQ,Lib.extract_data,aiI,ahX (by omega),aiS]
 rw [show a + j.toNat = ((a:Int) + j).toNat from by omega]
theorem M6 {s t:ByteArray} (hz:s.size = t.size) (h:∀ i:Int,0 ≤ i → i < (s.size:Int) → bt s i = bt t i):s = t:=by
 have es:s.data.toList.length = s.size:=by rw [Array.length_toList];rfl
 have et:t.data.toList.length = t.size:=by rw [Array.length_toList];rfl
 refine ajc (Array.toList_inj.mp (List.ext_getElem (by omega) fun i h1 h2=>?_))
 have:=h i (by omega) (by omega)
 rw [nQ,nQ] at this
 have e:((i:Int)).toNat = i:=by omega
 rw [e,aic h1,aic h2] at this
 exact UInt8.toNat_inj.mp (Int.ofNat.inj this)
theorem QV (xs:List Int) (i:Int) (h:∀ x ∈ xs,0 ≤ x ∧ x ≤ 255):bt (strOfNums xs) i = xs[i.toNat]?.getD 0:=by
 rw [nQ,strOfNums_data,ah3]
 by_cases hi:i.toNat < xs.length
 ·rw [aic hi]
  have:=h _ (List.getElem_mem hi)
  simp [UInt8.toNat_ofNat']
  omega
 ·rw [ajm (by omega)]
  rfl
theorem tJ (a b:ByteArray):(a ++ b).extract a.size (a ++ b).size = b:=by
 rw [ByteArray.extract_append]
 have e:a.extract a.size (a ++ b).size = ⟨#[]⟩:=eq_empty (by simp only [aiF];omega)
 rw [e,aiw,show a.size - a.size = 0 from by omega,show a.size + b.size - a.size = b.size from by omega,ByteArray.extract_zero_size]
 exact ajc (by rw [ajQ];simp)
theorem empty_append (s:ByteArray):(⟨#[]⟩:ByteArray) ++ s = s:=by
 refine ajc ?_
 rw [ajQ];simp
theorem append_empty (s:ByteArray):s ++ (⟨#[]⟩:ByteArray) = s:=by
 refine ajc ?_
 rw [ajQ];simp
theorem M7 : (⟨#[]⟩:ByteArray).size = 0:=rfl
theorem size_ext {s:ByteArray} {i n:Int} (h0:0 ≤ i) (hn:0 ≤ n) (hs:i + n ≤ (s.size:Int)):((s.extract i.toNat (i + n).toNat).size:Int) = n:=by
 simp only [aiF];omega
theorem M8 {s:ByteArray} {i n j:Int} (h0:0 ≤ i) (hj:0 ≤ j) (hn:j < n) (hs:i + n ≤ (s.size:Int)):bt (s.extract i.toNat (i + n).toNat) j = bt s (i + j):=by
 rw [nR hj (by rw [size_ext h0 (by omega) hs];exact hn)]
 congr 1
 omega
theorem eT (a b:Bool):(a == !b) = (a != b):=by cases a <;> cases b <;> rfl
theorem eU (a b:Bool):(a != !b) = (a == b):=by cases a <;> cases b <;> rfl
section
open Go
variable {P : Program} {d c j:Nat} {e:TypeId} {xs ys:Array Value} {js:List Nat} {a b:Value} {r s:Bool} {w:World}
theorem M9 (ha:(part e xs (j * c)).run P w = .ok a w) (hb:(part e ys (j * c)).run P w = .ok b w) (he:(Op.equalIn d e a b).run P w = .ok r w):(Op.eqItems d e c xs ys [j]).run P w = .ok r w:=by
 simp only [Op.eqItems,Sem.run_bind,ha,hb,he,Result.andThen_ok]
 cases r <;> simp
theorem Ej (ha:(part e xs (j * c)).run P w = .ok a w) (hb:(part e ys (j * c)).run P w = .ok b w) (he:(Op.equalIn d e a b).run P w = .ok r w) (hr:(Op.eqItems d e c xs ys js).run P w = .ok s w):(Op.eqItems d e c xs ys (j :: js)).run P w = .ok (r && s) w:=by
 rw [Op.eqItems]
 simp only [Sem.run_bind,ha,hb,he,Result.andThen_ok]
 cases r
 ·simp
 ·simpa using hr
theorem Na {t:TypeId} {n:Nat} (hu:P.underlying t = some (.array n e)) (hi:(P.info? e).isSome = true) (hc:P.cellsOf e = 1) (h:(Op.eqItems d e 1 xs ys (List.range n)).run P w = .ok r w):(Op.equalIn (d + 1) t (.agg xs) (.agg ys)).run P w = .ok r w:=by
 obtain ⟨i,hi⟩:=ajl.mp hi
 rw [run_equalIn_array (P:=P) w d xs ys hu hi,hc]
 exact h
end
end
section
open Go.RowKit Go.Proofs.YtfokaoeinpnagaaGreatW.aX
def El (w:World) (g:Nat) (xs:List Int):Prop:=∀ j,j < xs.length → w.cell? ⟨g,j,none⟩ = some (.int .u8 (xs.getD j 0)) ∧ w.frozen? ⟨g,j,none⟩ = false
def nS (c:Int):Int:=if 65 ≤ c ∧ c ≤ 90 then c + 32 else c
def numsOf (s:ByteArray):List Int:=s.data.toList.map fun b=>(b.toNat:Int)
theorem numsOf_length (s:ByteArray):(numsOf s).length = s.size:=by simp [numsOf]
theorem numsOf_at (s:ByteArray) (j:Nat):(numsOf s).getD j 0 = bt s j:=by
 rw [nQ,numsOf,aix,ah3]
 rw [show ((j:Int)).toNat = j from by omega]
 cases s.data.toList[j]? <;> rfl
def vV (s:ByteArray):ByteArray:=strOfNums ((numsOf s).map nS)
def kg (k:Nat) (xs:List Int):List Int:=(xs.take k).map nS ++ xs.drop k
theorem lG (k:Nat) (xs:List Int):(kg k xs).length = xs.length:=by simp [kg];omega
theorem FX (xs:List Int):kg 0 xs = xs:=by simp [kg]
theorem Jp (xs:List Int):kg xs.length xs = xs.map nS:=by simp [kg]
theorem Nb (k:Nat) (xs:List Int) (h:k < xs.length):(kg k xs).getD k 0 = xs.getD k 0:=by
 simp only [kg,aix]
 rw [ajG (by simp;omega)]
 simp only [ahZ,aia,aiS]
 congr 2
 omega
theorem Jq (k:Nat) (xs:List Int) (h:k < xs.length):(kg k xs).set k (nS (xs.getD k 0)) = kg (k + 1) xs:=by
 apply ai4
 intro i
 rw [List.getElem?_set]
 have hl:=lG k xs
 by_cases e:k = i
 ·subst e
  rw [ahX rfl,ahX (by omega)]
  simp only [kg]
  rw [ajp (by simp;omega),ah3,aiI,ahX (by omega),aix,aic h]
  rfl
 ·rw [ahY e]
  simp only [kg]
  by_cases h2:i < k
  ·rw [ajp (by simp;omega),ajp (by simp;omega),ah3,ah3,aiI,aiI,ahX h2,ahX (by omega)]
  ·by_cases h3:i < xs.length
   ·rw [ajG (by simp;omega),ajG (by simp;omega),aiS,aiS]
    congr 1
    simp only [ahZ,aia]
    omega
   ·rw [ajm (by simp;omega),ajm (by simp;omega)]
theorem Jr (s:ByteArray) (k:Nat):0 ≤ bt s k ∧ bt s k ≤ 255:=gI s k
theorem FY (w:World) (e:TypeId) (s:ByteArray):El (Lib.bytesWorld w e s) w.heap.size (numsOf s):=by
 intro j hj
 rw [numsOf_length] at hj
 refine ⟨?_,?_⟩
 ·rw [Lib.bytesWorld_cell w e s j hj,numsOf_at,nQ,aix]
  rfl
 ·have hlt:j < (Lib.bytesCells w e s).size:=by
   have:s.size ≤ (Lib.bytesCells w e s).size:=by simp [Lib.bytesCells]
   omega
  simp [World.frozen?,Lib.bytesWorld_at_new]
  omega
theorem rowAt_set {w:World} {g:Nat} {xs:List Int} (h:El w g xs) (k:Nat) (v:Int) (hk:k < xs.length):El (w.setCell ⟨g,k,none⟩ (.int .u8 v)) g (xs.set k v):=by
 intro j hj
 rw [ajA] at hj
 obtain ⟨h1,h2⟩:=h j hj
 refine ⟨?_,by rw [World.frozen?_setCell];exact h2⟩
 by_cases e:j = k
 ·subst e
  rw [World.cell?_setCell_same w _ _ h1]
  simp [aix,hj]
 ·rw [World.cell?_setCell_other w _ _ _ (by intro hc;injection hc with _ h3 _;exact e h3.symm),h1]
  simp [aix,List.getElem?_set,Ne.symm e]
theorem FZ {B:Nat} {a w:World} (h:Below B a w) (hB:B ≤ w.heap.size) (e:TypeId) (s:ByteArray):Below B a (Lib.bytesWorld w e s) :=
 ⟨h.os,h.tape,h.output,by rw [Lib.bytesWorld_size];have:=h.size;omega,fun k hk=>(Lib.bytesWorld_at_old w e s k (by omega)).trans (h.block k hk)⟩
end
section
open Go.RowKit Go.Proofs.YtfokaoeinpnagaaGreatW.aX
def sg (b:Int):ByteArray:=strOfNums [b]
def root : ByteArray:=⟨#[0]⟩
theorem nT (b:Int):(sg b).size = 1:=by unfold sg;rw [strOfNums_size];rfl
theorem lN : root.size = 1:=rfl
theorem Nc (b:Int) (h:0 ≤ b ∧ b ≤ 255):bt (sg b) 0 = b:=by
 unfold sg;rw [QV [b] 0 (by simpa using h)];rfl
def zu : List ByteArray → ByteArray
 | []=>⟨#[]⟩
 | x :: l=>sg x.size ++ x ++ zu l
def enc (l:List ByteArray):ByteArray:=zu l ++ root
def F4 (x:ByteArray):Prop:=1 ≤ x.size ∧ x.size ≤ 63
instance (x : ByteArray):Decidable (F4 x):=by unfold F4;infer_instance
theorem tK : enc [] = root:=empty_append _
theorem pI (x:ByteArray) (l:List ByteArray):enc (x :: l) = sg x.size ++ x ++ enc l:=by unfold enc;rw [zu,ByteArray.append_assoc]
theorem Em (l m:List ByteArray):zu (l ++ m) = zu l ++ zu m:=by
 induction l with
 | nil=>simp only [List.nil_append,zu];exact (empty_append _).symm
 | cons x l ih=>simp only [List.cons_append,zu,ih,ByteArray.append_assoc]
theorem lH (l:List ByteArray):1 ≤ (enc l).size:=by unfold enc;rw [aiw,lN];omega
theorem Nf {b:Int} {x r:ByteArray} (h:0 ≤ b ∧ b ≤ 255):bt (sg b ++ x ++ r) 0 = b:=by
 rw [ByteArray.append_assoc,yg (by omega) (by rw [nT];omega),Nc b h]
theorem Js {b:Int} {x r:ByteArray}:(sg b ++ x ++ r).extract 1 (1 + x.size) = x:=by
 rw [ByteArray.append_assoc,show (1:Nat) = (sg b).size + 0 from by rw [nT],show (sg b).size + 0 + x.size = (sg b).size + x.size from by omega,ByteArray.extract_append_size_add,ByteArray.extract_append_eq_left rfl]
theorem En {b:Int} {x r:ByteArray}:(sg b ++ x ++ r).extract (1 + x.size) (sg b ++ x ++ r).size = r:=by
 have:(sg b ++ x).size = 1 + x.size:=by rw [aiw,nT]
 have h:=tJ (sg b ++ x) r
 rw [this] at h
 exact h
theorem kM {b:Int} {x r:ByteArray}:(sg b ++ x ++ r).size = 1 + x.size + r.size:=by simp only [aiw,nT]
theorem aaF (n:ByteArray) (k:Nat) (hk:(k:Int) = bt n 0) (hlt:1 + k ≤ n.size):n = sg k ++ n.extract 1 (1 + k) ++ n.extract (1 + k) n.size:=by
 have h1:n.extract 0 1 = sg k:=by
  have hz:(n.extract 0 1).size = 1:=by rw [aiF];omega
  refine M6 (by rw [hz,nT]) fun i h0 hi=>?_
  have:i = 0:=by omega
  subst this
  have hr:=gI n 0
  rw [nR (by omega) (by rw [hz];omega),Nc _ (by omega),hk]
  rfl
 rw [← h1,ByteArray.extract_append_extract,show min 0 1 = 0 from rfl,show max 1 (1 + k) = 1 + k from by omega,ByteArray.extract_append_extract]
 rw [show min 0 (1 + k) = 0 from by omega,show max (1 + k) n.size = n.size from by omega,ByteArray.extract_zero_size]
def ko : Nat → ByteArray → Option (List ByteArray)
 | 0,_=>none
 | k + 1,n =>
  if n.size = 0 then none
  else if n = root then some []
  else if 1 ≤ bt n 0 ∧ bt n 0 ≤ 63 ∧ bt n 0 + 1 < (n.size:Int) then
   (ko k (n.extract (1 + (bt n 0).toNat) n.size)).map (n.extract 1 (1 + (bt n 0).toNat) :: ·)
  else none
theorem kN : ∀ (k:Nat) (n:ByteArray) (l:List ByteArray),ko k n = some l → n = enc l ∧ ∀ x ∈ l,F4 x
 | 0,_,_,h=>by simp [ko] at h
 | k + 1,n,l,h=>by
  rw [ko] at h
  split at h
  ·cases h
  ·split at h
   ·rename_i hr
    cases h
    exact ⟨by rw [tK];exact hr,by simp⟩
   ·split at h
    ·rename_i hc
     obtain ⟨m,hm,rfl⟩:=zmm h
     obtain ⟨e,hok⟩:=kN k _ m hm
     have hz:(n.extract 1 (1 + (bt n 0).toNat)).size = (bt n 0).toNat:=by rw [aiF];omega
     refine ⟨?_,?_⟩
     ·rw [pI,hz,← e]
      exact aaF n _ (by omega) (by omega)
     ·intro x hx
      rcases aif.mp hx with rfl | hx
      ·unfold F4;omega
      ·exact hok x hx
    ·cases h
theorem vD (x:ByteArray) (l:List ByteArray) (h:F4 x):enc (x :: l) ≠ root:=by
 intro e
 have:=aio ByteArray.size e
 have h2:=lH l
 have h1:=h.1
 rw [pI,kM,lN] at this
 omega
theorem p9 : ∀ (k:Nat) (l:List ByteArray),(∀ x ∈ l,F4 x) → (enc l).size ≤ k → ko k (enc l) = some l
 | 0,l,_,hk=>by have:=lH l;omega
 | k + 1,[],_,_=>by
  rw [ko,tK,ahY (by rw [lN];omega),ahX rfl]
 | k + 1,x :: l,hok,hk=>by
  have hx:=hok x (by simp)
  have h1:=lH l
  have hr:=vD x l hx
  obtain ⟨hx1,hx2⟩:=hx
  rw [pI] at hk hr ⊢
  rw [kM] at hk
  rw [ko,ahY (by rw [kM];omega),ahY hr,Nf (by omega),kM,ahX (by omega)]
  have e:((x.size:Int)).toNat = x.size:=by omega
  have hc:=@En (x.size:Int) x (enc l)
  rw [kM] at hc
  rw [e,Js,hc,p9 k l (fun y hy=>hok y (by simp [hy])) (by omega)]
  rfl
def vW (n:ByteArray):Option (List ByteArray):=if n.size ≤ 255 then ko 255 n else none
theorem Ah {n:ByteArray} {l:List ByteArray} (h:vW n = some l):n = enc l ∧ (∀ x ∈ l,F4 x) ∧ n.size ≤ 255:=by
 unfold vW at h
 split at h
 ·exact ⟨(kN _ _ _ h).1,(kN _ _ _ h).2,by assumption⟩
 ·cases h
theorem yh {l:List ByteArray} (hok:∀ x ∈ l,F4 x) (hz:(enc l).size ≤ 255):vW (enc l) = some l:=by
 unfold vW
 rw [ahX hz,p9 _ _ hok hz]
theorem Eo : ∀ (k:Nat) (n:ByteArray),n.size ≤ k → ko k n = ko n.size n:=by
 intro k n hk
 cases h:ko k n with
 | some l =>
  obtain ⟨e,hok⟩:=kN _ _ _ h
  subst e
  exact (p9 _ _ hok (ah1 _)).symm
 | none =>
  cases h2:ko n.size n with
  | none=>rfl
  | some l =>
   obtain ⟨e,hok⟩:=kN _ _ _ h2
   rw [e] at h hk
   rw [p9 k l hok hk] at h
   cases h
theorem F5 {n:ByteArray} (h:1 ≤ n.size):ko n.size n = if n = root then some [] else if 1 ≤ bt n 0 ∧ bt n 0 ≤ 63 ∧ bt n 0 + 1 < (n.size:Int) then
   (ko (n.extract (1 + (bt n 0).toNat) n.size).size (n.extract (1 + (bt n 0).toNat) n.size)).map (n.extract 1 (1 + (bt n 0).toNat) :: ·) else none:=by
 obtain ⟨k,hk⟩:∃ k,n.size = k + 1:=⟨n.size - 1,by omega⟩
 conv=>lhs;rw [hk,ko]
 rw [ahY (by omega)]
 split
 ·rfl
 ·split
  ·rw [Eo k _ (by rw [aiF];omega)]
  ·rfl
def jL (n:ByteArray):Bool:=(vW n).isSome
def up (n:ByteArray):ByteArray × Bool:=match vW n with
 | some (_ :: l)=>(enc l,true)
 | _=>(⟨#[]⟩,false)
def same (a b:ByteArray):Bool:=jL a && jL b && decide (vV a = vV b)
theorem wC {n:ByteArray}:jL n = true ↔ ∃ l,n = enc l ∧ (∀ x ∈ l,F4 x) ∧ n.size ≤ 255:=by
 unfold jL
 constructor
 ·intro h
  obtain ⟨l,hl⟩:=ajl.mp h
  exact ⟨l,Ah hl⟩
 ·rintro ⟨l,rfl,h1,h2⟩
  rw [yh h1 h2];rfl
theorem Wj {x:ByteArray} {l:List ByteArray} (hok:∀ y ∈ x :: l,F4 y) (hz:(enc (x :: l)).size ≤ 255):up (enc (x :: l)) = (enc l,true):=by
 unfold up;rw [yh hok hz]
theorem QW : up root = (⟨#[]⟩,false):=by
 unfold up;rw [← tK,yh (by simp) (by rw [tK,lN];omega)]
theorem Wm {n:ByteArray} (h:jL n = false):up n = (⟨#[]⟩,false):=by
 unfold jL at h
 unfold up
 cases hl:vW n with
 | none=>rfl
 | some l=>rw [hl] at h;cases h
theorem QX {n:ByteArray} (h:(up n).2 = true):∃ x l,n = enc (x :: l) ∧ (∀ y ∈ x :: l,F4 y) ∧ n.size ≤ 255 ∧ (up n).1 = enc l:=by
 unfold up at h ⊢
 split at h
 ·rename_i x l hl
  obtain ⟨e,h1,h2⟩:=Ah hl
  exact ⟨x,l,e,h1,h2,rfl⟩
 ·cases h
end
end Go.Proofs.YtfokaoeinpnagaaGreat.B
namespace Go.Proofs.YtfokaoeinpnagaaGreatW.dQ
open Go.Proofs.YtfokaoeinpnagaaGreatW.aX (ah)
def qg (md:Region.Mode) (o:Oper):List Nat:=(o.after.toList.filter (fun e=>Region.binds md e)).map (fun e=>e.on)
def Ck (md:Region.Mode) (ops:Array Oper) (i:Nat) (oi:Oper):List Nat:=(List.range ops.size).filter fun j=>!(j == i) && match ops[j]? with
 | some oj=>!(oj.after.any (fun e=>Region.binds md e && e.on == i) || oi.apart ops oj)
 | none=>false
def mG (md:Region.Mode) (ops:Array Oper):Bool × List (List Nat × List Nat):=(Region.noSelect ops,(List.range ops.size).map fun i=>match ops[i]? with
 | some o=>(qg md o,Ck md ops i o)
 | none=>([],[]))
def mP (T:List (List Nat × List Nat)) (l:List Bool) (i:Nat):Bool:=!l.getD i true && match T[i]? with
 | some r=>r.1.all (fun j=>l.getD j false)
 | none=>false
def yj (T:List (List Nat × List Nat)) (l:List Bool):List Nat:=(List.range T.length).filter (mP T l)
def Ep (T:List (List Nat × List Nat)) (l:List Bool) (i:Nat):Bool:=match T[i]? with
 | some r=>r.2.all (fun j=>l.getD j true)
 | none=>false
def wD (T:List (List Nat × List Nat)) (l:List Bool):Bool:=(List.range T.length).all fun j=>!l.getD j false || match T[j]? with
 | some r=>r.1.all (fun k=>l.getD k false)
 | none=>true
def uN (T:List (List Nat × List Nat)) (i:Nat):Nat → Nat → Bool
 | 0,_=>false
 | fuel + 1,d=>match T[d]? with
  | some r=>r.1.any fun j=>j == i || uN T i fuel j
  | none=>false
def lastT (T:List (List Nat × List Nat)) (l:List Bool) (ds:List Nat) (i:Nat):Bool:=ds.all fun d=>l.getD d true || uN T i T.length d
section
variable {md : Region.Mode} {ops:Array Oper} {T:Bool × List (List Nat × List Nat)} {l l' li lj lk:Array Bool} {ds:List Nat} {i j k:Nat}
theorem gd (l:Array Bool) (j:Nat) (b:Bool):l.getD j b = l.toList.getD j b:=by simp [aiM,aix]
theorem Ai (o:Oper) (p:Nat → Bool):o.after.all (fun e=>!Region.binds md e || p e.on) = (qg md o).all p:=by
 unfold qg
 rw [← Array.all_toList]
 induction o.after.toList with
 | nil=>rfl
 | cons e r ih =>
  rw [List.all_cons,ih,List.filter_cons]
  cases h:Region.binds md e <;> simp
theorem Jt (o:Oper) (p:Nat → Bool):o.after.any (fun e=>Region.binds md e && p e.on) = (qg md o).any p:=by
 unfold qg
 rw [← Array.any_toList]
 induction o.after.toList with
 | nil=>rfl
 | cons e r ih =>
  rw [List.any_cons,ih,List.filter_cons]
  cases h:Region.binds md e <;> simp
theorem mQ : (mG md ops).2.length = ops.size:=by simp [mG]
theorem qh {o:Oper} (h:ops[i]? = some o):(mG md ops).2[i]? = some (qg md o,Ck md ops i o):=by
 have hi:=(ai5.1 h).1
 unfold mG
 rw [ah3,List.getElem?_range hi,Option.map_some,h]
theorem qj (h:ops[i]? = none):(mG md ops).2[i]? = none:=by
 have hi:ops.size ≤ i:=Array.getElem?_eq_none_iff.1 h
 exact ajm (by rw [mQ];exact hi)
theorem F6 : mP (mG md ops).2 l.toList i = (!l.getD i true && ((ops[i]?).map (·.after.all fun e=>!Region.binds md e || l.getD e.on false)).getD false):=by
 unfold mP
 rw [gd]
 cases h:ops[i]? with
 | none=>rw [qj h];rfl
 | some o =>
  rw [qh h]
  simp only [Option.map_some,Option.getD_some]
  rw [← Ai]
  simp only [gd]
theorem ready_eq : Region.ready md ops l = yj (mG md ops).2 l.toList:=by
 unfold Region.ready yj
 rw [mQ]
 refine List.filter_congr (fun i _=>?_)
 rw [F6]
theorem free_eq : Region.free md ops l i = Ep (mG md ops).2 l.toList i:=by
 unfold Region.free Ep
 cases h:ops[i]? with
 | none=>rw [qj h]
 | some oi =>
  rw [qh h]
  simp only [Ck]
  rw [List.all_filter]
  congr 1
  funext j
  rw [gd]
  cases hj:ops[j]? with
  | none=>cases (j == i) <;> cases (l.toList.getD j true) <;> simp
  | some oj =>
   cases (j == i) <;> cases (l.toList.getD j true) <;> cases (oj.after.any (fun e=>Region.binds md e && e.on == i) || oi.apart ops oj) <;> simp_all
theorem Ju : Region.tq md ops l = wD (mG md ops).2 l.toList:=by
 unfold Region.tq wD
 rw [mQ]
 congr 1
 funext j
 rw [gd]
 cases h:ops[j]? with
 | none=>rw [qj h]
 | some o =>
  rw [qh h]
  simp only
  rw [← Ai]
  simp only [gd]
theorem Er : ∀ (fuel d:Nat),Region.kT md ops i fuel d = uN (mG md ops).2 i fuel d
 | 0,_=>rfl
 | fuel + 1,d=>by
  unfold Region.kT uN
  cases h:ops[d]? with
  | none=>rw [qj h]
  | some o =>
   rw [qh h]
   simp only
   rw [← Jt]
   congr 1
   funext e
   rw [Er fuel]
theorem QY : Region.lastB md ops l ds i = lastT (mG md ops).2 l.toList ds i:=by
 unfold Region.lastB lastT
 rw [mQ]
 congr 1
 funext d
 rw [gd,Er]
theorem vE (h:mP T.2 l.toList i = true) (hT:mG md ops = T):(Region.ready md ops l).contains i = true:=by
 subst hT
 rw [ready_eq]
 unfold yj
 rw [List.contains_iff_mem,ajs,aiA]
 refine ⟨?_,h⟩
 unfold mP at h
 rw [ah5] at h
 cases hq:(mG md ops).2[i]? with
 | none=>rw [hq] at h;simp at h
 | some r=>exact (aiO.1 hq).1
theorem F7 (h:(l.toList.set i true == l'.toList) = true):(l.setIfInBounds i true == l') = true:=by
 rw [aiH] at h ⊢
 apply Array.ext'
 rw [Array.toList_setIfInBounds]
 exact h
def aaG (T:Bool × List (List Nat × List Nat)) (l l':List Bool) (i:Nat):Bool:=T.1 && Ep T.2 l i && mP T.2 l i && (l.set i true == l')
theorem jy (hT:mG md ops = T) (h:aaG T l.toList l'.toList i = true):QO md ops l l' i = true:=by
 simp only [aaG,ah5] at h
 obtain ⟨⟨⟨h1,h2⟩,h3⟩,h4⟩:=h
 have h5:=vE h3 hT
 have h6:=F7 h4
 subst hT
 simp only [QO,ah5]
 exact ⟨⟨⟨h1,by rw [free_eq];exact h2⟩,h5⟩,h6⟩
def Ng (T:Bool × List (List Nat × List Nat)) (ds:List Nat) (l l':List Bool) (i:Nat):Bool:=T.1 && Ep T.2 l i && mP T.2 l i && wD T.2 l && lastT T.2 l ds i && (l.set i true == l')
theorem QZ (hT:mG md ops = T) (h:Ng T ds l.toList l'.toList i = true):takeB md ops ds l l' i = true:=by
 simp only [Ng,ah5] at h
 obtain ⟨⟨⟨⟨⟨h1,h2⟩,h3⟩,h4⟩,h5⟩,h6⟩:=h
 have h7:=vE h3 hT
 have h8:=F7 h6
 subst hT
 simp only [takeB,ah5]
 exact ⟨⟨⟨⟨⟨h1,by rw [free_eq];exact h2⟩,h7⟩,by rw [Ju];exact h4⟩,by rw [QY];exact h5⟩,h8⟩
theorem F8 (hT:mG md ops = T) (h:(yj T.2 l.toList == [i] && l.toList.set i true == l'.toList) = true):Ci md ops l l' i = true:=by
 simp only [ah5] at h
 obtain ⟨h1,h2⟩:=h
 subst hT
 simp only [Ci,ah5]
 exact ⟨by rw [ready_eq];exact h1,F7 h2⟩
theorem H7 (hT:mG md ops = T) (h:(yj T.2 l.toList == []) = true):(Region.ready md ops l == []) = true:=by
 subst hT
 rw [ready_eq]
 exact h
def Wn (B:List Nat) (d:Nat):List Nat → Nat
 | []=>0
 | n :: r=>(2 ^ n ||| (if n < d then B.getD n 0 else 0)) ||| Wn B d r
def ql (T:List (List Nat × List Nat)) (B:List Nat):Bool:=(List.range T.length).all fun d=>match T[d]? with
 | some r=>(B.getD d 0 ||| Wn B d r.1) == Wn B d r.1
 | none=>false
theorem H8 {B:List Nat} {d i:Nat}:∀ {ns:List Nat},(Wn B d ns).testBit i = true → ∃ n ∈ ns,n = i ∨ (n < d ∧ (B.getD n 0).testBit i = true)
 | [],h=>by simp [Wn] at h
 | n :: r,h=>by
  unfold Wn at h
  rw [Nat.testBit_or,Nat.testBit_or,aiV,aiV] at h
  rcases h with (h | h) | h
  ·rw [Nat.testBit_two_pow] at h
   exact ⟨n,ajh,.inl (by simpa using h)⟩
  ·by_cases hn:n < d
   ·rw [ahX hn] at h
    exact ⟨n,ajh,.inr ⟨hn,h⟩⟩
   ·rw [ahY hn] at h
    simp at h
  ·obtain ⟨m,hm,h2⟩:=H8 h
   exact ⟨m,aiQ _ hm,h2⟩
theorem Aj {T:List (List Nat × List Nat)} {B:List Nat} (hB:ql T B = true):∀ (fuel d:Nat),d < fuel → d < T.length → (B.getD d 0).testBit i = true → uN T i fuel d = true
 | 0,d,h,_,_=>by omega
 | fuel + 1,d,h,hd,hb=>by
  have h1:=aib.1 hB d (aiA.2 hd)
  cases hr:T[d]? with
  | none=>rw [hr] at h1;simp at h1
  | some r =>
   rw [hr] at h1
   simp only [aiH] at h1
   have h2:(Wn B d r.1).testBit i = true:=by rw [← h1,Nat.testBit_or,hb,Bool.true_or]
   obtain ⟨n,hn,h3⟩:=H8 h2
   unfold uN
   rw [hr]
   simp only
   rw [ai0]
   refine ⟨n,hn,?_⟩
   rcases h3 with rfl | ⟨h4,h5⟩
   ·simp
   ·rw [Aj hB fuel n (by omega) (by omega) h5,Bool.or_true]
def Tz (T:List (List Nat × List Nat)) (B:List Nat) (l:List Bool) (ds:List Nat) (i:Nat):Bool:=ds.all fun d=>l.getD d true || (decide (d < T.length) && (B.getD d 0).testBit i)
def TA (T:Bool × List (List Nat × List Nat)) (B:List Nat) (ds:List Nat) (l l':List Bool) (i:Nat):Bool:=T.1 && Ep T.2 l i && mP T.2 l i && wD T.2 l && Tz T.2 B l ds i && (l.set i true == l')
theorem yt {B:List Nat} (hT:mG md ops = T) (hB:ql T.2 B = true) (h:TA T B ds l.toList l'.toList i = true):takeB md ops ds l l' i = true:=by
 refine QZ hT ?_
 simp only [TA,Ng,ah5] at h ⊢
 obtain ⟨⟨⟨⟨⟨h1,h2⟩,h3⟩,h4⟩,h5⟩,h6⟩:=h
 refine ⟨⟨⟨⟨⟨h1,h2⟩,h3⟩,h4⟩,?_⟩,h6⟩
 unfold Tz at h5
 unfold lastT
 rw [aib] at h5 ⊢
 intro d hd
 have h7:=h5 d hd
 rw [aiV,ah5,aii] at h7
 rcases h7 with h7 | ⟨h8,h9⟩
 ·rw [h7,Bool.true_or]
 ·rw [Aj hB _ d h8 h8 h9,Bool.or_true]
theorem Ak {P:Program} {Q:Exit → Act → World → Prop} {S:World → Prop} {n:Nat} {a:Act} {w:World} {B:List Nat} (hT:mG md ops = T) (hB:ql T.2 B = true) (h:ah (mG md ops = T) → ah (ql T.2 B = true) → dh P md ops Q S ds n l a w):dh P md ops Q S ds n l a w:=h ⟨hT⟩ ⟨hB⟩
end
def qN : Code → Nat → Option (Array Oper)
 | .region id ops _,k=>if id == k then some ops else none
 | .seq a b,k=>match qN a k with
  | some o=>some o
  | none=>qN b k
 | .cond _ a b,k=>match qN a k with
  | some o=>some o
  | none=>qN b k
 | .block _ c,k=>qN c k
 | .loop c,k=>qN c k
 | .scope c,k=>qN c k
 | .rangeFunc _ _ a b,k=>match qN a k with
  | some o=>some o
  | none=>qN b k
 | _,_=>none
def opsOf (f:Func) (k:Nat):Array Oper:=((f.body.bind fun c=>qN c k)).getD #[]
end Go.Proofs.YtfokaoeinpnagaaGreatW.dQ
namespace Go.Proofs.YtfokaoeinpnagaaGreatW.aX
theorem fG.one {α:Type} {R:α → List Value → Prop} {ps:List α} {cs:List Value} {p:α} {v:Value} (hp:R p [v]) (h:fG R 1 ps cs):fG R 1 (p :: ps) (v :: cs):=by
 refine ⟨by simp [h.1],fun j q hq=>?_⟩
 cases j with
 | zero =>
  simp only [List.getElem?_cons_zero,aie] at hq
  subst hq
  simpa using hp
 | succ j =>
  simp only [List.getElem?_cons_succ] at hq
  have h1:=h.2 j q hq
  simpa [Nat.mul_one] using h1
theorem fG.front {α:Type} {R:α → List Value → Prop} {size:Nat} {ps:List α} {cs c all:List Value} {p:α} (hp:R p c) (hc:c.length = size) (h:fG R size ps cs) (ha:c ++ cs = all):fG R size (p :: ps) all:=by
 subst ha
 refine ⟨by rw [ah7,hc,h.1,List.length_cons,aiN,Nat.add_comm],fun j q hq=>?_⟩
 cases j with
 | zero =>
  simp only [List.getElem?_cons_zero,aie] at hq
  subst hq
  rw [ai8,ai9,ajL (by omega),ajB (by omega)]
  exact hp
 | succ j =>
  simp only [List.getElem?_cons_succ] at hq
  have h1:=h.2 j q hq
  rw [aiN,List.drop_append,List.drop_of_length_le (by rw [hc];exact Nat.le_add_left _ _),List.nil_append,hc,Nat.add_sub_cancel]
  exact h1
theorem fG.c2 {α:Type} {R:α → List Value → Prop} {ps:List α} {cs:List Value} {p:α} {va vb:Value} (hp:R p [va,vb]) (h:fG R 2 ps cs):fG R 2 (p :: ps) (va :: vb :: cs):=fG.front hp rfl h rfl
theorem fG.c3 {α:Type} {R:α → List Value → Prop} {ps:List α} {cs:List Value} {p:α} {va vb vc:Value} (hp:R p [va,vb,vc]) (h:fG R 3 ps cs):fG R 3 (p :: ps) (va :: vb :: vc :: cs):=fG.front hp rfl h rfl
theorem fG.c4 {α:Type} {R:α → List Value → Prop} {ps:List α} {cs:List Value} {p:α} {va vb vc vd:Value} (hp:R p [va,vb,vc,vd]) (h:fG R 4 ps cs):fG R 4 (p :: ps) (va :: vb :: vc :: vd :: cs):=fG.front hp rfl h rfl
theorem fG.c5 {α:Type} {R:α → List Value → Prop} {ps:List α} {cs:List Value} {p:α} {va vb vc vd ve:Value} (hp:R p [va,vb,vc,vd,ve]) (h:fG R 5 ps cs):fG R 5 (p :: ps) (va :: vb :: vc :: vd :: ve :: cs):=fG.front hp rfl h rfl
theorem fG.c6 {α:Type} {R:α → List Value → Prop} {ps:List α} {cs:List Value} {p:α} {va vb vc vd ve vf:Value} (hp:R p [va,vb,vc,vd,ve,vf]) (h:fG R 6 ps cs):fG R 6 (p :: ps) (va :: vb :: vc :: vd :: ve :: vf :: cs):=fG.front hp rfl h rfl
theorem fG.c7 {α:Type} {R:α → List Value → Prop} {ps:List α} {cs:List Value} {p:α} {va vb vc vd ve vf vg:Value} (hp:R p [va,vb,vc,vd,ve,vf,vg]) (h:fG R 7 ps cs):fG R 7 (p :: ps) (va :: vb :: vc :: vd :: ve :: vf :: vg :: cs):=fG.front hp rfl h rfl
theorem fG.c8 {α:Type} {R:α → List Value → Prop} {ps:List α} {cs:List Value} {p:α} {va vb vc vd ve vf vg vh:Value} (hp:R p [va,vb,vc,vd,ve,vf,vg,vh]) (h:fG R 8 ps cs):fG R 8 (p :: ps) (va :: vb :: vc :: vd :: ve :: vf :: vg :: vh :: cs):=fG.front hp rfl h rfl
theorem fG.c9 {α:Type} {R:α → List Value → Prop} {ps:List α} {cs:List Value} {p:α} {va vb vc vd ve vf vg vh vi:Value} (hp:R p [va,vb,vc,vd,ve,vf,vg,vh,vi]) (h:fG R 9 ps cs):fG R 9 (p :: ps) (va :: vb :: vc :: vd :: ve :: vf :: vg :: vh :: vi :: cs):=fG.front hp rfl h rfl
theorem fG.c10 {α:Type} {R:α → List Value → Prop} {ps:List α} {cs:List Value} {p:α} {va vb vc vd ve vf vg vh vi vj:Value} (hp:R p [va,vb,vc,vd,ve,vf,vg,vh,vi,vj]) (h:fG R 10 ps cs):fG R 10 (p :: ps) (va :: vb :: vc :: vd :: ve :: vf :: vg :: vh :: vi :: vj :: cs):=fG.front hp rfl h rfl
end Go.Proofs.YtfokaoeinpnagaaGreatW.aX
namespace Go.Proofs.YtfokaoeinpnagaaGreatW.dQ
def up (b:Nat → Bool) (i:Nat):Nat → Bool:=fun j=>if j = i then true else b j
section
variable {P : Program} {ops:Array Oper} {Q:Exit → Act → World → Prop} {md:Region.Mode} {T:Bool × List (List Nat × List Nat)} {B:List Nat} {O:List Nat} {b:Nat → Bool} {i j n:Nat}
end
end Go.Proofs.YtfokaoeinpnagaaGreatW.dQ
namespace Go.Proofs.YtfokaoeinpnagaaGreat.ZQ
section
open Go.RowKit Go.Proofs.YtfokaoeinpnagaaGreatW.aX Go.Proofs.YtfokaoeinpnagaaGreatW.dQ Go.Proofs.YtfokaoeinpnagaaGreatW.eX
attribute [local go_sem] jX jY lC lD jl jm jZ j3
def aaH : Option Int → Value
 | none=>.nilIface
 | some c=>.iface 0 (.int .i64 c)
theorem bG : aaH none = .nilIface:=rfl
theorem bH (c:Int):aaH (some c) = .iface 0 (.int .i64 c):=rfl
theorem TB : (Tryz.prog.info? 9).map (fun i=>(i.zero,i.size,i.bytes)) = some (some (.string ⟨#[]⟩),1,16):=by kernel_rfl
end
section
open Go.RowKit Go.Proofs.YtfokaoeinpnagaaGreatW.aX Go.Proofs.YtfokaoeinpnagaaGreatW.dQ Go.Proofs.YtfokaoeinpnagaaGreatW.eX
attribute [local go_sem] jX jY lC lD jl jm jZ j3
mutual
def bC.l0 : Nat → ByteArray → List ByteArray → Option (List ByteArray × Bool)
 | 0,_,_=>none
 | k + 1,x0,x4=>if (x0.size:Int) > 0 then (bC.j1 k x0 x4 (x0.toList != ([0]:List UInt8))) else (bC.j1 k x0 x4 false)
def bC.j1 : Nat → ByteArray → List ByteArray → Bool → Option (List ByteArray × Bool)
 | 0,_,_,_=>none
 | k + 1,x0,x4,x15=>if x15 = true then (if 0 < (x0.size:Int) then (if (wrap64 (bt x0 0)) < 1 then (some (([]:List ByteArray),false)) else (if (wrap64 (bt x0 0)) > 63 then (some (([]:List ByteArray),false)) else (if (wrap64 ((wrap64 (bt x0 0)) + 1)) ≥ (x0.size:Int) then (some (([]:List ByteArray),false)) else (if 1 ≤ (wrap64 (1 + (wrap64 (bt x0 0)))) then (if (wrap64 (1 + (wrap64 (bt x0 0)))) ≤ (x0.size:Int) then (if x4.length < 8796093022208 then (if 0 ≤ (wrap64 (1 + (wrap64 (bt x0 0)))) then (bC.l0 k (x0.extract ((wrap64 (1 + (wrap64 (bt x0 0)))):Int).toNat x0.size) (x4 ++ [x0.extract 1 ((wrap64 (1 + (wrap64 (bt x0 0)))):Int).toNat])) else (none)) else (none)) else (none)) else (none))))) else (none)) else (some (x4,(x0.toList == ([0]:List UInt8))))
end
def bC.f (k:Nat) (a0:ByteArray):Option (List ByteArray × Bool):=if (a0.size:Int) > 255 then (some (([]:List ByteArray),false)) else (bC.l0 k a0 ([]:List ByteArray))
def bC.T8 : Bool × List (List Nat × List Nat):=(true,[([],[]),([],[]),([],[]),([2],[2]),([1,3],[1,3]),([4],[4]),([0,5],[0,5]),([],[]),([],[]),([8],[8]),([7,9],[7,9]),([6,6,0,1,2,3,4,5,6],[0,6]),([10,11,0,1,2,3,4,5,6,7,8,9,10,11],[1,7,10])])
def bC.B8 : List Nat:=[0,0,0,4,14,30,63,0,0,256,896,127,4095]
theorem bC.afq : mG .any (opsOf Tryz.f126 8) = bC.T8:=by kernel_rfl
theorem bC.aaI : ql bC.T8.2 bC.B8 = true:=by kernel_rfl
theorem bC.calls (k:Nat) (a0:ByteArray) (r1:List ByteArray) (r2:Bool) (w:World) (h:bC.f k a0 = some (r1,r2)) :
  Calls Tryz.prog 126 #[.string a0] w fun e w'=>∃ v0_:Value,e = .returned (.tuple #[v0_,.bool r2]) ∧ Kd.R Kd.string 9 w' w.heap.size (fun _=>True) v0_ r1 ∧ Below w.heap.size w w':=by
 have HB:=ah.mk (Below.refl w.heap.size w)
 have H:(if (a0.size:Int) > 255 then (some (([]:List ByteArray),false)) else (bC.l0 k a0 ([]:List ByteArray))) = some (r1,r2):=h
 clear h
 by_cases c2:(a0.size:Int) > 255
 ·rw [ahX c2] at H
  have zw:decide (255 < (a0.size:Int)) = true:=ah0 c2
  have Jv:decide (255 < a0.size) = true:=ah0 (by omega)
  clear c2
  simp only [aie,ain] at H
  obtain ⟨rfl,rfl⟩:=H
  go_enter Tryz.func126,Tryz.ntmps126
  go_wp2
  go_ret2
  exact ⟨_,by first | rfl | (simp [bG,bH] <;> rfl) | (simp [*,bG,bH] <;> rfl),by first | exact Kd.mO _ _ _ _ _ | exact Kd.tF _ _ _ _ _ | exact Kd.tH _ _ _ _ _ | exact Kd.sZ _ _ _ _ _ | exact Kd.tC _ _ _ _ _,by repeat (first | exact HB.out | apply av | apply aj | apply aA)⟩
 ·rw [ahY c2] at H
  have zw:decide (255 < (a0.size:Int)) = false:=ah2 c2
  have Jv:decide (255 < a0.size) = false:=ah2 (by omega)
  clear c2
  have H':=ah.mk H
  clear H
  go_enter Tryz.func126,Tryz.ntmps126
  go_wp2
  go_loopg [0,4] k (fun kq v0 v4 w'=>∃ (bB:ByteArray) (yu:List ByteArray),v0 = .string bB ∧ ah (bC.l0 kq bB yu = some (r1,r2)) ∧ ah (kq ≤ k) ∧ ah (Kd.R Kd.string 9 w' w.heap.size (fun _=>True) v4 yu) ∧ ah (Below w.heap.size w w'))
  case atStart=>exact ⟨(a0),(([]:List ByteArray)),(by first | rfl | (simp;done) | (simp [*];done) | (simp [B.eT];done) | (simp [B.eU];done)),H',⟨ah1 _⟩,⟨by first | exact Kd.mO _ _ _ _ _ | exact Kd.tF _ _ _ _ _ | exact Kd.tH _ _ _ _ _ | exact Kd.sZ _ _ _ _ _ | exact Kd.tC _ _ _ _ _⟩,⟨by repeat (first | exact HB.out | apply av | apply aj | apply aA)⟩⟩
  case round =>
   clear H'
   try clear c1
   try clear c2
   try clear zw
   try clear Jv
   try clear p2
   obtain ⟨bB,yu,rfl,HA,Oy,zx,HB⟩:=hrel
   cases gk with
   | zero=>exact absurd HA.out (by simp [bC.l0])
   | succ k1 =>
    have H:=HA.out
    clear HA
    simp only [bC.l0] at H
    have HC3:=ah.mk H
    clear H
    go_upto_region 4 with (fail)
    go_cut [15] (fun v15 wc=>∃ (kq:Nat) (H9:Bool),v15 = .bool H9 ∧ ah (bC.j1 kq bB yu H9 = some (r1,r2)) ∧ ah (kq ≤ k1) ∧ ah (Kd.R Kd.string 9 wc w.heap.size (fun _=>True) u4 yu) ∧ ah (Below w.heap.size w wc))
    case first =>
     have H:=HC3.out
     clear HC3
     by_cases c4:(bB.size:Int) > 0
     ·rw [ahX c4] at H
      have Cm:decide (0 < (bB.size:Int)) = true:=ah0 c4
      have Nh:decide (0 < bB.size) = true:=ah0 (by omega)
      clear c4
      (first | rw [Cm] | rw [aaJ] | (simp only [iD,jg];rw [Cm]) | skip)
      have H':=ah.mk H
      clear H
      go_wp2
      go_meet
      case rel=>exact ⟨_,((bB.toList != ([0]:List UInt8))),(by first | rfl | (simp;done) | (simp [*];done) | (simp [B.eT];done) | (simp [B.eU];done)),H',⟨by have:=Oy.out;first | omega | exact ah1 _⟩,⟨by (with_reducible repeat (first | apply Kd.gU | apply Kd.iW | apply Kd.iQ));exact zx.out⟩,⟨by repeat (first | exact HB.out | apply av | apply aj | apply aA)⟩⟩
     ·rw [ahY c4] at H
      have Cm:decide (0 < (bB.size:Int)) = false:=ah2 c4
      have Nh:decide (0 < bB.size) = false:=ah2 (by omega)
      clear c4
      (first | rw [Cm] | rw [aaJ] | (simp only [iD,jg];rw [Cm]) | skip)
      have H':=ah.mk H
      clear H
      go_wp2
      go_meet
      case rel=>exact ⟨_,(false),(by first | rfl | (simp;done) | (simp [*];done) | (simp [B.eT];done) | (simp [B.eU];done)),H',⟨by have:=Oy.out;first | omega | exact ah1 _⟩,⟨by (with_reducible repeat (first | apply Kd.gU | apply Kd.iW | apply Kd.iQ));exact zx.out⟩,⟨by repeat (first | exact HB.out | apply av | apply aj | apply aA)⟩⟩
    case rest =>
     clear HC3
     try clear c1
     try clear c2
     try clear zw
     try clear Jv
     try clear p2
     try clear c4
     try clear Cm
     try clear Nh
     try clear aaJ
     try clear p2
     obtain ⟨kq,H9,rfl,HA,HJ2,zx,HB⟩:=hcut
     cases kq with
     | zero=>exact absurd HA.out (by simp [bC.j1])
     | succ kj2 =>
      have H:=HA.out
      clear HA
      simp only [bC.j1] at H
      by_cases c5:H9 = true
      ·subst c5
       have H1:(if 0 < (bB.size:Int) then (if (wrap64 (bt bB 0)) < 1 then (some (([]:List ByteArray),false)) else (if (wrap64 (bt bB 0)) > 63 then (some (([]:List ByteArray),false)) else (if (wrap64 ((wrap64 (bt bB 0)) + 1)) ≥ (bB.size:Int) then (some (([]:List ByteArray),false)) else (if 1 ≤ (wrap64 (1 + (wrap64 (bt bB 0)))) then (if (wrap64 (1 + (wrap64 (bt bB 0)))) ≤ (bB.size:Int) then (if yu.length < 8796093022208 then (if 0 ≤ (wrap64 (1 + (wrap64 (bt bB 0)))) then (bC.l0 kj2 (bB.extract ((wrap64 (1 + (wrap64 (bt bB 0)))):Int).toNat bB.size) (yu ++ [bB.extract 1 ((wrap64 (1 + (wrap64 (bt bB 0)))):Int).toNat])) else (none)) else (none)) else (none)) else (none))))) else (none)) = some (r1,r2):=by rw [ahX rfl] at H;exact H
       clear H
       have H:=H1
       clear H1
       by_cases c6:0 < (bB.size:Int)
       ·rw [ahX c6] at H
        have Jw:decide (0 < (bB.size:Int)) = true:=ah0 c6
        have Jy:decide (0 < bB.size) = true:=ah0 (by omega)
        clear c6
        by_cases c8:(wrap64 (bt bB 0)) < 1
        ·rw [ahX c8] at H
         have Q0:decide ((wrap64 (bt bB 0)) < 1) = true:=ah0 c8
         (try (have Q5:decide (((bt bB 0)) < 1) = true:=by have h_:decide ((wrap64 (bt bB 0)) < 1) = true:=ah0 c8;rw [B.lF (by omega) (by omega)] at h_;exact h_))
         clear c8
         simp only [aie,ain] at H
         obtain ⟨rfl,rfl⟩:=H
         have p7:0 ≤ (0:Int):=(by omega)
         have q7:0 < bB.size:=(by have:(0:Int) < (bB.size:Int):=aiB (by first | (with_reducible assumption) | assumption);omega)
         have hx7:∀ h:0 < bB.size,((bB[0]'h).toNat:Int) = bt bB 0:=vv bB 0
         clear p7
         have qi7:(0 < (bB.size:Int)) = True:=ah9 (aiB (by first | (with_reducible assumption) | assumption))
         replace q7:=ah9 q7
         go_wp2
         go_ret2
         exact ⟨_,by first | rfl | (simp [bG,bH] <;> rfl) | (simp [*,bG,bH] <;> rfl),by first | exact Kd.mO _ _ _ _ _ | exact Kd.tF _ _ _ _ _ | exact Kd.tH _ _ _ _ _ | exact Kd.sZ _ _ _ _ _ | exact Kd.tC _ _ _ _ _,by repeat (first | exact HB.out | apply av | apply aj | apply aA)⟩
        ·rw [ahY c8] at H
         have Q0:decide ((wrap64 (bt bB 0)) < 1) = false:=ah2 c8
         (try (have Q5:decide (((bt bB 0)) < 1) = false:=by have h_:decide ((wrap64 (bt bB 0)) < 1) = false:=ah2 c8;rw [B.lF (by omega) (by omega)] at h_;exact h_))
         clear c8
         by_cases c9:(wrap64 (bt bB 0)) > 63
         ·rw [ahX c9] at H
          have Ni:decide (63 < (wrap64 (bt bB 0))) = true:=ah0 c9
          (try (have Wo:decide (63 < ((bt bB 0))) = true:=by have h_:decide (63 < (wrap64 (bt bB 0))) = true:=ah0 c9;rw [B.lF (by omega) (by omega)] at h_;exact h_))
          clear c9
          simp only [aie,ain] at H
          obtain ⟨rfl,rfl⟩:=H
          have p7:0 ≤ (0:Int):=(by omega)
          have q7:0 < bB.size:=(by have:(0:Int) < (bB.size:Int):=aiB (by first | (with_reducible assumption) | assumption);omega)
          have hx7:∀ h:0 < bB.size,((bB[0]'h).toNat:Int) = bt bB 0:=vv bB 0
          clear p7
          have qi7:(0 < (bB.size:Int)) = True:=ah9 (aiB (by first | (with_reducible assumption) | assumption))
          replace q7:=ah9 q7
          go_wp2
          go_ret2
          exact ⟨_,by first | rfl | (simp [bG,bH] <;> rfl) | (simp [*,bG,bH] <;> rfl),by first | exact Kd.mO _ _ _ _ _ | exact Kd.tF _ _ _ _ _ | exact Kd.tH _ _ _ _ _ | exact Kd.sZ _ _ _ _ _ | exact Kd.tC _ _ _ _ _,by repeat (first | exact HB.out | apply av | apply aj | apply aA)⟩
         ·rw [ahY c9] at H
          have Ni:decide (63 < (wrap64 (bt bB 0))) = false:=ah2 c9
          (try (have Wo:decide (63 < ((bt bB 0))) = false:=by have h_:decide (63 < (wrap64 (bt bB 0))) = false:=ah2 c9;rw [B.lF (by omega) (by omega)] at h_;exact h_))
          clear c9
          by_cases c10:(wrap64 ((wrap64 (bt bB 0)) + 1)) ≥ (bB.size:Int)
          ·rw [ahX c10] at H
           have Nj:decide ((bB.size:Int) ≤ (wrap64 ((wrap64 (bt bB 0)) + 1))) = true:=ah0 c10
           (try (have TD:decide ((bB.size:Int) ≤ ((((bt bB 0)) + 1))) = true:=by have h_:decide ((bB.size:Int) ≤ (wrap64 ((wrap64 (bt bB 0)) + 1))) = true:=ah0 c10;rw [B.lF (by omega) (by omega)] at h_;rw [B.lF (by omega) (by omega)] at h_;exact h_))
           clear c10
           simp only [aie,ain] at H
           obtain ⟨rfl,rfl⟩:=H
           have p7:0 ≤ (0:Int):=(by omega)
           have q7:0 < bB.size:=(by have:(0:Int) < (bB.size:Int):=aiB (by first | (with_reducible assumption) | assumption);omega)
           have hx7:∀ h:0 < bB.size,((bB[0]'h).toNat:Int) = bt bB 0:=vv bB 0
           clear p7
           have qi7:(0 < (bB.size:Int)) = True:=ah9 (aiB (by first | (with_reducible assumption) | assumption))
           replace q7:=ah9 q7
           go_wp2
           go_ret2
           exact ⟨_,by first | rfl | (simp [bG,bH] <;> rfl) | (simp [*,bG,bH] <;> rfl),by first | exact Kd.mO _ _ _ _ _ | exact Kd.tF _ _ _ _ _ | exact Kd.tH _ _ _ _ _ | exact Kd.sZ _ _ _ _ _ | exact Kd.tC _ _ _ _ _,by repeat (first | exact HB.out | apply av | apply aj | apply aA)⟩
          ·rw [ahY c10] at H
           have Nj:decide ((bB.size:Int) ≤ (wrap64 ((wrap64 (bt bB 0)) + 1))) = false:=ah2 c10
           (try (have TD:decide ((bB.size:Int) ≤ ((((bt bB 0)) + 1))) = false:=by have h_:decide ((bB.size:Int) ≤ (wrap64 ((wrap64 (bt bB 0)) + 1))) = false:=ah2 c10;rw [B.lF (by omega) (by omega)] at h_;rw [B.lF (by omega) (by omega)] at h_;exact h_))
           clear c10
           by_cases c11:1 ≤ (wrap64 (1 + (wrap64 (bt bB 0))))
           ·rw [ahX c11] at H
            have TF:=ah9 c11
            have aaK:decide (1 ≤ (wrap64 (1 + (wrap64 (bt bB 0))))) = true:=ah0 c11
            by_cases c12:(wrap64 (1 + (wrap64 (bt bB 0)))) ≤ (bB.size:Int)
            ·rw [ahX c12] at H
             have aaL:=ah9 c12
             have aaM:decide ((wrap64 (1 + (wrap64 (bt bB 0)))) ≤ (bB.size:Int)) = true:=ah0 c12
             by_cases c13:yu.length < 8796093022208
             ·rw [ahX c13] at H
              have aaN:=ah.mk c13
              clear c13
              obtain ⟨y101,hy101⟩:∃ y_:List ByteArray,y_ = (yu ++ [bB.extract 1 ((wrap64 (1 + (wrap64 (bt bB 0)))):Int).toNat]):=⟨_,rfl⟩
              replace H:(if 0 ≤ (wrap64 (1 + (wrap64 (bt bB 0)))) then (bC.l0 kj2 (bB.extract ((wrap64 (1 + (wrap64 (bt bB 0)))):Int).toNat bB.size) y101) else (none)) = some (r1,r2):=by first | (rw [hy101];with_reducible exact H) | (have Wp:=(Option.bind_some _ _).symm.trans H;rw [hy101];with_reducible exact Wp) | (have Wp:=(Option.bind_some _ _).symm.trans H;with_reducible exact Wp) | with_reducible exact H | (rw [hy101];exact H) | exact H
              have TG:=ah.mk hy101
              clear hy101
              obtain ⟨Cn,pJ⟩:∃ j_:Int,(wrap64 (1 + (wrap64 (bt bB 0)))) = j_:=⟨_,rfl⟩
              replace H:(if 0 ≤ (Cn) then (bC.l0 kj2 (bB.extract ((Cn):Int).toNat bB.size) y101) else (none)) = some (r1,r2):=by first | (rw [pJ] at H;exact H) | (simp only [pJ] at H ⊢;exact H)
              (try rw [pJ] at TF)
              (try rw [pJ] at aaK)
              (try rw [pJ] at c11)
              (try rw [pJ] at aaL)
              (try rw [pJ] at aaM)
              (try rw [pJ] at c12)
              (try rw [pJ] at TG)
              have afr:(IntKind.i64.wrap (1 + (wrap64 (bt bB 0)))) = Cn:=(iD _).trans pJ
              by_cases c15:0 ≤ (Cn)
              ·rw [ahX c15] at H
               have agX:=ah9 c15
               have agY:decide (0 ≤ (Cn)) = true:=ah0 c15
               clear c15
               have agZ:=ah9 (aiB (by first | (with_reducible assumption) | assumption):(Cn) ≤ (bB.size:Int))
               have H':=ah.mk H
               clear H
               have p7:0 ≤ (0:Int):=(by omega)
               have q7:0 < bB.size:=(by have:(0:Int) < (bB.size:Int):=aiB (by first | (with_reducible assumption) | assumption);omega)
               have hx7:∀ h:0 < bB.size,((bB[0]'h).toNat:Int) = bt bB 0:=vv bB 0
               clear p7
               have qi7:(0 < (bB.size:Int)) = True:=ah9 (aiB (by first | (with_reducible assumption) | assumption))
               replace q7:=ah9 q7
               try go_wp2
               have iR:=ah.mk (Kd.iQ zx.out)
               have kU:=ah.mk (aA HB.out)
               clear zx
               clear HB
               have zx:=iR
               have HB:=kU
               clear iR kU
               refine M4 (n:=13) (S:=fun w'=>True) (ds:=[]) #[false,false,false,false,false,false,false,false,false,false,false,false,false] (by kernel_rfl) rfl rfl trivial (fun hHeld=>?_);refine Ak bC.afq bC.aaI (fun vX HW_=>?_)
               generalize wc.drew = w17 at zx HB hHeld ⊢
               refine kY (i:=0) (N:=some 32) (v:=?_) (a':=?_) #[true,false,false,false,false,false,false,false,false,false,false,false,false] rfl rfl (jy vX.out (by kernel_rfl)) (fun _ _ _ h=>h) (Or.inl ⟨by rfl,?_⟩) ?_ ?_
               rotate_left
               ·intro w'
                go_simp
                with_reducible rfl
               rotate_left
               ·simp only [Act.put,aiG,List.set_cons_zero,List.set_cons_succ,iD,jg]
                rfl
               refine kY (i:=1) (N:=some 33) (v:=?_) (a':=?_) #[true,true,false,false,false,false,false,false,false,false,false,false,false] rfl rfl (jy vX.out (by kernel_rfl)) (fun _ _ _ h=>h) (Or.inl ⟨by rfl,?_⟩) ?_ ?_
               rotate_left
               ·intro w'
                go_simp
                with_reducible rfl
               rotate_left
               ·simp only [Act.put,aiG,List.set_cons_zero,List.set_cons_succ,iD,jg]
                rfl
               refine kY (i:=2) (N:=some 34) (v:=?_) (a':=?_) #[true,true,true,false,false,false,false,false,false,false,false,false,false] rfl rfl (jy vX.out (by kernel_rfl)) (fun _ _ _ h=>h) (Or.inl ⟨by rfl,?_⟩) ?_ ?_
               rotate_left
               ·intro w'
                go_simp
                with_reducible rfl
               rotate_left
               ·simp only [Act.put,aiG,List.set_cons_zero,List.set_cons_succ,iD,jg]
                rfl
               refine kY (i:=3) (N:=some 35) (v:=?_) (a':=?_) #[true,true,true,true,false,false,false,false,false,false,false,false,false] rfl rfl (jy vX.out (by kernel_rfl)) (fun _ _ _ h=>h) (Or.inl ⟨by rfl,?_⟩) ?_ ?_
               rotate_left
               ·intro w'
                go_simp
                with_reducible rfl
               rotate_left
               ·simp only [Act.put,aiG,List.set_cons_zero,List.set_cons_succ,iD,jg]
                rfl
               refine kY (i:=4) (N:=some 36) (v:=?_) (a':=?_) #[true,true,true,true,true,false,false,false,false,false,false,false,false] rfl rfl (jy vX.out (by kernel_rfl)) (fun _ _ _ h=>h) (Or.inl ⟨by rfl,?_⟩) ?_ ?_
               rotate_left
               ·intro w'
                go_simp
                with_reducible rfl
               rotate_left
               ·simp only [Act.put,aiG,List.set_cons_zero,List.set_cons_succ,iD,jg]
                rfl
               refine kY (i:=7) (N:=some 39) (v:=?_) (a':=?_) #[true,true,true,true,true,false,false,true,false,false,false,false,false] rfl rfl (jy vX.out (by kernel_rfl)) (fun _ _ _ h=>h) (Or.inl ⟨by rfl,?_⟩) ?_ ?_
               rotate_left
               ·intro w'
                go_simp
                with_reducible rfl
               rotate_left
               ·simp only [Act.put,aiG,List.set_cons_zero,List.set_cons_succ,iD,jg]
                rfl
               refine kY (i:=8) (N:=some 40) (v:=?_) (a':=?_) #[true,true,true,true,true,false,false,true,true,false,false,false,false] rfl rfl (jy vX.out (by kernel_rfl)) (fun _ _ _ h=>h) (Or.inl ⟨by rfl,?_⟩) ?_ ?_
               rotate_left
               ·intro w'
                go_simp
                with_reducible rfl
               rotate_left
               ·simp only [Act.put,aiG,List.set_cons_zero,List.set_cons_succ,iD,jg]
                rfl
               refine kY (i:=9) (N:=some 41) (v:=?_) (a':=?_) #[true,true,true,true,true,false,false,true,true,true,false,false,false] rfl rfl (jy vX.out (by kernel_rfl)) (fun _ _ _ h=>h) (Or.inl ⟨by rfl,?_⟩) ?_ ?_
               rotate_left
               ·intro w'
                go_simp
                with_reducible rfl
               rotate_left
               ·simp only [Act.put,aiG,List.set_cons_zero,List.set_cons_succ,iD,jg]
                rfl
               refine kY (i:=10) (N:=some 42) (v:=?_) (a':=?_) #[true,true,true,true,true,false,false,true,true,true,true,false,false] rfl rfl (jy vX.out (by kernel_rfl)) (fun _ _ _ h=>h) (Or.inl ⟨by rfl,?_⟩) ?_ ?_
               rotate_left
               ·intro w'
                go_simp
                with_reducible rfl
               rotate_left
               ·simp only [Act.put,aiG,List.set_cons_zero,List.set_cons_succ,iD,jg]
                rfl
               refine Wh (i:=5) (N:=some 37) #[true,true,true,true,true,true,false,true,true,true,true,false,false] rfl rfl (F8 vX.out (by kernel_rfl)) (by decide) (fun K hK=>?_)
               refine Wi (w1:=?_) (v:=?_) (by rfl) rfl ?_ ?_
               rotate_left 2
               ·go_simp
                constructor
                ·rfl
                ·rfl
               refine hK.out _ _ trivial (fun hHeld=>?_)
               clear hK K
               refine Tx (a':=?_) ?_ ?_
               rotate_left
               ·show Act.put _ (some 37) _ = _
                simp only [Act.put,aiG,List.set_cons_zero,List.set_cons_succ,iD,jg]
                rfl
               refine Wh (i:=6) (N:=some 38) #[true,true,true,true,true,true,true,true,true,true,true,false,false] rfl rfl (F8 vX.out (by kernel_rfl)) (by decide) (fun K hK=>?_)
               refine Kd.zn Kd.string (w0:=w) w.heap.size (by rfl) (.tmp 32) (.tmp 37) 40 9 (.string ⟨#[]⟩) 16 rfl Tryz.underlying40 TB rfl (by decide) (by omega) u4 yu (bB.extract 1 ((Cn):Int).toNat) [.string (bB.extract 1 ((Cn):Int).toNat)] (fun _=>True) (fun _=>False) rfl rfl ?aP (fun _ hk=>hk.elim) ?aF ?aO ?aB ?aS ?aL ?_
               (case aP=>exact rfl)
               (case aB=>exact (by repeat first | exact HB.out | apply av | apply aj | apply aA))
               (case aF=>exact (fun _ _=>trivial))
               (case aO=>exact (by (with_reducible repeat (first | apply Kd.gU | apply Kd.iW | apply Kd.iQ));exact zx.out))
               (case aS=>exact (dZ (by repeat first | exact HB.out | apply av | apply aj | apply aA)))
               (case aL=>have:=aaN.out;omega)
               intro ahO w18 ho hb hg hat
               rw [← TG.out] at ho
               have iR:=ah.mk (hb)
               have kU:=ah.mk (ho)
               clear HB
               clear zx
               have HB:=iR
               have aaO:=kU
               clear iR kU
               clear ho hb hg hat
               refine hK.out _ _ trivial (fun hHeld=>?_)
               clear hK K
               refine Tx (a':=?_) ?_ ?_
               rotate_left
               ·show Act.put _ (some 38) _ = _
                simp only [Act.put,aiG,List.set_cons_zero,List.set_cons_succ,iD,jg]
                rfl
               refine kY (i:=11) (N:=some 4) (v:=?_) (a':=?_) #[true,true,true,true,true,true,true,true,true,true,true,true,false] rfl rfl (jy vX.out (by kernel_rfl)) (fun _ _ _ h=>h) (Or.inl ⟨by rfl,?_⟩) ?_ ?_
               rotate_left
               ·intro w'
                go_simp
                with_reducible rfl
               rotate_left
               ·simp only [Act.put,aiG,List.set_cons_zero,List.set_cons_succ,iD,jg]
                rfl
               refine kY (i:=12) (N:=some 0) (v:=?_) (a':=?_) #[true,true,true,true,true,true,true,true,true,true,true,true,true] rfl rfl (jy vX.out (by kernel_rfl)) (fun _ _ _ h=>h) (Or.inl ⟨by rfl,?_⟩) ?_ ?_
               rotate_left
               ·intro w'
                go_simp
                with_reducible rfl
               rotate_left
               ·simp only [Act.put,aiG,List.set_cons_zero,List.set_cons_succ,iD,jg]
                rfl
               refine Tw (H7 vX.out (by kernel_rfl)) ?_
               try go_wp2
               go_roundg kj2
               case measure=>have:=Oy.out;have:=HJ2.out;omega
               case rel=>exact ⟨(bB.extract ((Cn):Int).toNat bB.size),(y101),(by first | rfl | (simp;done) | (simp only [← pJ] <;> (first | rfl | simp)) | (simp [*];done)),H',⟨by have:=Oy.out;have:=HJ2.out;omega⟩,⟨by (with_reducible repeat (first | apply Kd.gU | apply Kd.iW | apply Kd.iQ));exact aaO.out⟩,⟨by repeat (first | exact HB.out | apply av | apply aj | apply aA)⟩⟩
              ·rw [ahY c15] at H
               exact absurd H (by simp)
             ·rw [ahY c13] at H
              exact absurd H (by simp)
            ·rw [ahY c12] at H
             exact absurd H (by simp)
           ·rw [ahY c11] at H
            exact absurd H (by simp)
       ·rw [ahY c6] at H
        exact absurd H (by simp)
      ·replace c5:=aiX.mpr c5
       subst c5
       have H1:(some (yu,(bB.toList == ([0]:List UInt8)))) = some (r1,r2):=by rw [ahY (show ¬ (false = true) by decide)] at H;exact H
       clear H
       have H:=H1
       clear H1
       simp only [aie,ain] at H
       obtain ⟨rfl,rfl⟩:=H
       go_wp2
       go_ret2
       exact ⟨_,by first | rfl | (simp [bG,bH] <;> rfl) | (simp [*,bG,bH] <;> rfl),by (with_reducible repeat (first | apply Kd.gU | apply Kd.iW | apply Kd.iQ));exact zx.out,by repeat (first | exact HB.out | apply av | apply aj | apply aA)⟩
def fH.f (k:Nat) (a0:ByteArray):Option (Bool):=(bC.f k a0).bind fun Nk=>(some Nk.2)
theorem fH.calls (k:Nat) (a0:ByteArray) (r:Bool) (w:World) (h:fH.f k a0 = some r) :
  Calls Tryz.prog 109 #[.string a0] w fun e w'=>e = .returned (.bool r) ∧ Below w.heap.size w w':=by
 have HB:=ah.mk (Below.refl w.heap.size w)
 have H:((bC.f k a0).bind fun Nk=>(some Nk.2)) = some r:=h
 clear h
 replace H:=zbm H
 obtain ⟨⟨afs,t105⟩,TH,H⟩:=H
 replace H:(some t105) = some r:=H
 have A2:=ah.mk TH
 clear TH
 obtain rfl:=aiE H
 go_enter Tryz.func109,Tryz.ntmps109
 go_wp2_with (first | ((with_reducible refine eP (f:=126) rfl ?_);refine jW (some 7) rfl rfl Tryz.func126 (by kernel_rfl) rfl #[.string a0] rfl (by (try simp only [aiW,ah8,ail]) <;> rfl) ?_;(with_reducible refine (bC.calls k a0 afs t105 _ A2.out).mono ?_);rintro e w3 ⟨ahP,rfl,ho0,hb⟩;refine ⟨_,rfl,?_⟩;have iR:=ah.mk (Kd.wB ho0 (dZ (by repeat first | exact HB.out | apply av | apply aj | apply aA)));have kU:=ah.mk (dJ (by repeat first | exact HB.out | apply av | apply aj | apply aA) hb);clear HB;have ag0:=iR;have HB:=kU;clear iR kU;(try clear hb);(try clear hb2);(try clear hk);(try clear hi);(try clear ho0)))
 go_ret
 exact ⟨by first | rfl | (simp [bG,bH] <;> rfl) | (simp [*,bG,bH] <;> rfl),by repeat (first | exact HB.out | apply av | apply aj | apply aA)⟩
def l8.f (a0:Int):Option (Int):=if a0 ≥ 65 then (if a0 ≤ 90 then (some ((a0 + 32) % 256)) else (some a0)) else (some a0)
theorem l8.calls (a0:Int) (r:Int) (w:World) (h:l8.f a0 = some r) :
  Calls Tryz.prog 127 #[.int .u8 a0] w fun e w'=>e = .returned (.int .u8 r) ∧ bM w w':=by
 have H:(if a0 ≥ 65 then (if a0 ≤ 90 then (some ((a0 + 32) % 256)) else (some a0)) else (some a0)) = some r:=h
 clear h
 by_cases c2:a0 ≥ 65
 ·rw [ahX c2] at H
  have zw:decide (65 ≤ a0) = true:=ah0 c2
  clear c2
  by_cases c3:a0 ≤ 90
  ·rw [ahX c3] at H
   have Nl:decide (a0 ≤ 90) = true:=ah0 c3
   clear c3
   obtain rfl:=aiE H
   go_enter Tryz.func127,Tryz.ntmps127
   go_wp2
   go_ret
   exact ⟨by first | rfl | (simp;done) | (simp [*];done),by repeat (first | exact bM.refl _ | apply bM.step)⟩
  ·rw [ahY c3] at H
   have Nl:decide (a0 ≤ 90) = false:=ah2 c3
   clear c3
   obtain rfl:=aiE H
   go_enter Tryz.func127,Tryz.ntmps127
   go_wp2
   go_ret
   exact ⟨by first | rfl | (simp;done) | (simp [*];done),by repeat (first | exact bM.refl _ | apply bM.step)⟩
 ·rw [ahY c2] at H
  have zw:decide (65 ≤ a0) = false:=ah2 c2
  clear c2
  obtain rfl:=aiE H
  go_enter Tryz.func127,Tryz.ntmps127
  go_wp2
  go_ret
  exact ⟨by first | rfl | (simp;done) | (simp [*];done),by repeat (first | exact bM.refl _ | apply bM.step)⟩
def iL.f (a0:ByteArray):Option ByteArray:=if a0.size ≤ 140737488355328 then some (B.vV a0) else none
theorem iL.small (c:Int) (h0:0 ≤ c) (h1:c ≤ 255):l8.f c = some (B.nS c):=by
 unfold l8.f B.nS
 by_cases h2:65 ≤ c
 ·by_cases h3:c ≤ 90
  ·rw [ahX (by omega),ahX h3,ahX ⟨h2,h3⟩];congr 1;omega
  ·rw [ahX (by omega),ahY h3,ahY (by omega)]
 ·rw [ahY (by omega),ahY (by omega)]
theorem iL.calls (a0:ByteArray) (r:ByteArray) (w:World) (h:iL.f a0 = some r) :
  Calls Tryz.prog 110 #[.string a0] w fun e w'=>e = .returned (.string r) ∧ Below w.heap.size w w':=by
 unfold iL.f at h
 by_cases hs:a0.size ≤ 140737488355328
 ·rw [ahX hs] at h
  obtain rfl:=aiE h
  clear h
  have kc:=fun (W:World)=>Lib.run_convert_string_bytes (P:=Tryz.prog) W 9 189 5 a0 Tryz.underlying9 Tryz.underlying189 Tryz.underlying5
  have hb0:=ah.mk (B.FZ (Below.refl w.heap.size w) (ah1 _) 5 a0)
  have hr0:=ah.mk (B.FY w 5 a0)
  go_enter Tryz.func110,Tryz.ntmps110
  go_wp2
  generalize Lib.bytesWorld w 5 a0 = w1 at hb0 hr0 ⊢
  generalize grownCap w a0.size 0 5 = C
  have hz:=ah.mk (B.numsOf_length a0)
  have hg:=ah.mk (ah1 w.heap.size)
  generalize hgg:w.heap.size = g at hb0 hr0 hg ⊢
  have hg':=ah.mk hgg
  clear hgg
  go_loopw [10] (fun v wr=>∃ k:Nat,k ≤ a0.size ∧ v = .int .i64 k ∧ ah (B.El wr g (B.kg k (B.numsOf a0))) ∧ ah (Below g w wr)) (fun v _=>a0.size - (intOf v).toNat)
  case atStart=>exact ⟨0,aiy _,rfl,⟨by rw [B.FX];exact hr0.out⟩,hb0⟩
  case round =>
   obtain ⟨k,hk,rfl,hrow,hbel⟩:=hrel
   clear hr0 hb0 kc
   by_cases hlt:k < a0.size
   ·have hkl:k < (B.numsOf a0).length:=by rw [hz.out];exact hlt
    have hc:=(hrow.out k (by rw [B.lG];exact hkl))
    rw [B.Nb k _ hkl,B.numsOf_at] at hc
    obtain ⟨hc1,hc2⟩:=hc
    have hrange:=B.Jr a0 k
    have hsm:=ah.mk (iL.small (bt a0 k) hrange.1 hrange.2)
    have hset:=ah.mk (B.rowAt_set hrow.out k (B.nS (bt a0 k)) (by rw [B.lG];exact hkl))
    have hset':=ah.mk (show B.El (wr.setCell ⟨g,k,none⟩ (.int .u8 (B.nS (bt a0 k)))) g (B.kg (k + 1) (B.numsOf a0)) by
     have h1:=hset.out
     rw [← B.numsOf_at,B.Jq k _ hkl] at h1
     rw [← B.numsOf_at]
     exact h1)
    have Al:=ah.mk (hbel.out.setCell (p:=⟨g,k,none⟩) (ah1 _) (.int .u8 (B.nS (bt a0 k))))
    clear hset hrow hbel hkl
    generalize bt a0 k = c at *
    go_wp2_with (go_at_call 127;(with_reducible refine (l8.calls c _ _ hsm.out).mono ?_);rintro e w' ⟨rfl,⟨nd,rfl⟩⟩)
    go_roundw
    case rel=>exact ⟨k + 1,by omega,by go_num,⟨fun j hj=>hset'.out j hj⟩,⟨by first | exact Al.out | exact ⟨Al.out.os,Al.out.tape,Al.out.output,Al.out.size,Al.out.block⟩⟩⟩
    case measure=>simp [intOf];omega
   ·obtain rfl:k = a0.size:=by omega
    have hl:(B.kg a0.size (B.numsOf a0)).length = a0.size:=by rw [B.lG];exact hz.out
    have kd:=fun (dst:TypeId) (hd:Tryz.prog.underlying dst = some .string)=>run_convert_bytes_arg (P:=Tryz.prog) wr 189 5 Tryz.underlying189 Tryz.underlying5 g 0 a0.size C (B.kg a0.size (B.numsOf a0)) hl (fun i hi=>by rw [aip];exact (hrow.out i (by rw [hl];exact hi)).1) dst hd
    replace kd:=kd 9 Tryz.underlying9
    have he:=ah.mk (show strOfNums (B.kg a0.size (B.numsOf a0)) = B.vV a0 by
     have:=B.Jp (B.numsOf a0)
     rw [hz.out] at this
     rw [this];rfl)
    generalize strOfNums (B.kg a0.size (B.numsOf a0)) = q at kd he
    clear hrow hl hlt
    have he':=he.out
    clear he
    subst he'
    go_wp2
    go_ret
    exact ⟨rfl,by rw [hg'.out];exact hbel.out⟩
 ·rw [ahY hs] at h
  exact absurd h (by simp)
def l9.f (k:Nat) (a0:ByteArray):Option (ByteArray):=(fH.f k a0).bind fun Jz=>(if Jz = true then ((iL.f a0).bind fun t109=>(some t109)) else (some (⟨#[]⟩:ByteArray)))
theorem l9.calls (k:Nat) (a0:ByteArray) (r:ByteArray) (w:World) (h:l9.f k a0 = some r) :
  Calls Tryz.prog 68 #[.string a0] w fun e w'=>e = .returned (.string r) ∧ Below w.heap.size w w':=by
 have HB:=ah.mk (Below.refl w.heap.size w)
 have H:((fH.f k a0).bind fun Jz=>(if Jz = true then ((iL.f a0).bind fun t109=>(some t109)) else (some (⟨#[]⟩:ByteArray)))) = some r:=h
 clear h
 replace H:=zbm H
 obtain ⟨Jz,TH,H⟩:=H
 replace H:(if Jz = true then ((iL.f a0).bind fun t109=>(some t109)) else (some (⟨#[]⟩:ByteArray))) = some r:=H
 have A2:=ah.mk TH
 clear TH
 by_cases c3:Jz = true
 ·subst c3
  have H1:((iL.f a0).bind fun t109=>(some t109)) = some r:=by rw [ahX rfl] at H;exact H
  clear H
  have H:=H1
  clear H1
  replace H:=zbm H
  obtain ⟨t109,TI,H⟩:=H
  replace H:(some t109) = some r:=H
  have A4:=ah.mk TI
  clear TI
  obtain rfl:=aiE H
  go_enter Tryz.func68,Tryz.ntmps68
  go_wp2_with (first | ((with_reducible refine eP (f:=109) rfl ?_);refine jW (some 4) rfl rfl Tryz.func109 (by kernel_rfl) rfl #[.string a0] rfl (by (try simp only [aiW,ah8,ail]) <;> rfl) ?_;(with_reducible refine (fH.calls k a0 true _ A2.out).mono ?_);rintro e w5 ⟨rfl,hb⟩;refine ⟨_,rfl,?_⟩;have iR:=ah.mk (dJ (by repeat first | exact HB.out | apply av | apply aj | apply aA) hb);clear HB;have HB:=iR;clear iR;(try clear hb);(try clear hb2);(try clear hk);(try clear hi)) | ((with_reducible refine eP (f:=110) rfl ?_);refine jW (some 7) rfl rfl Tryz.func110 (by kernel_rfl) rfl #[.string a0] rfl (by (try simp only [aiW,ah8,ail]) <;> rfl) ?_;(with_reducible refine (iL.calls a0 t109 _ A4.out).mono ?_);rintro e w6 ⟨rfl,hb⟩;refine ⟨_,rfl,?_⟩;have iR:=ah.mk (dJ (by repeat first | exact HB.out | apply av | apply aj | apply aA) hb);clear HB;have HB:=iR;clear iR;(try clear hb);(try clear hb2);(try clear hk);(try clear hi)))
  go_ret
  exact ⟨by first | rfl | (simp [bG,bH] <;> rfl) | (simp [*,bG,bH] <;> rfl),by repeat (first | exact HB.out | apply av | apply aj | apply aA)⟩
 ·replace c3:=aiX.mpr c3
  subst c3
  have H1:(some (⟨#[]⟩:ByteArray)) = some r:=by rw [ahY (show ¬ (false = true) by decide)] at H;exact H
  clear H
  have H:=H1
  clear H1
  obtain rfl:=aiE H
  go_enter Tryz.func68,Tryz.ntmps68
  go_wp2_with (first | ((with_reducible refine eP (f:=109) rfl ?_);refine jW (some 4) rfl rfl Tryz.func109 (by kernel_rfl) rfl #[.string a0] rfl (by (try simp only [aiW,ah8,ail]) <;> rfl) ?_;(with_reducible refine (fH.calls k a0 false _ A2.out).mono ?_);rintro e w7 ⟨rfl,hb⟩;refine ⟨_,rfl,?_⟩;have iR:=ah.mk (dJ (by repeat first | exact HB.out | apply av | apply aj | apply aA) hb);clear HB;have HB:=iR;clear iR;(try clear hb);(try clear hb2);(try clear hk);(try clear hi)))
  go_ret
  exact ⟨by first | rfl | (simp [bG,bH] <;> rfl) | (simp [*,bG,bH] <;> rfl),by repeat (first | exact HB.out | apply av | apply aj | apply aA)⟩
def tL.f (k:Nat) (a0:ByteArray):Option (ByteArray × Bool):=(fH.f k a0).bind fun t201=>(if t201 = true then (if a0.toList = ([0]:List UInt8) then (some ((⟨#[]⟩:ByteArray),false)) else (if 0 < (a0.size:Int) then (if 0 ≤ (wrap64 (1 + (wrap64 (bt a0 0)))) then (if (wrap64 (1 + (wrap64 (bt a0 0)))) ≤ (a0.size:Int) then (some (a0.extract ((wrap64 (1 + (wrap64 (bt a0 0)))):Int).toNat a0.size,true)) else (none)) else (none)) else (none))) else (some ((⟨#[]⟩:ByteArray),false)))
theorem tL.calls (k:Nat) (a0:ByteArray) (r1:ByteArray) (r2:Bool) (w:World) (h:tL.f k a0 = some (r1,r2)) :
  Calls Tryz.prog 71 #[.string a0] w fun e w'=>e = .returned (.tuple #[.string r1,.bool r2]) ∧ Below w.heap.size w w':=by
 have HB:=ah.mk (Below.refl w.heap.size w)
 have H:((fH.f k a0).bind fun t201=>(if t201 = true then (if a0.toList = ([0]:List UInt8) then (some ((⟨#[]⟩:ByteArray),false)) else (if 0 < (a0.size:Int) then (if 0 ≤ (wrap64 (1 + (wrap64 (bt a0 0)))) then (if (wrap64 (1 + (wrap64 (bt a0 0)))) ≤ (a0.size:Int) then (some (a0.extract ((wrap64 (1 + (wrap64 (bt a0 0)))):Int).toNat a0.size,true)) else (none)) else (none)) else (none))) else (some ((⟨#[]⟩:ByteArray),false)))) = some (r1,r2):=h
 clear h
 replace H:=zbm H
 obtain ⟨t201,TH,H⟩:=H
 replace H:(if t201 = true then (if a0.toList = ([0]:List UInt8) then (some ((⟨#[]⟩:ByteArray),false)) else (if 0 < (a0.size:Int) then (if 0 ≤ (wrap64 (1 + (wrap64 (bt a0 0)))) then (if (wrap64 (1 + (wrap64 (bt a0 0)))) ≤ (a0.size:Int) then (some (a0.extract ((wrap64 (1 + (wrap64 (bt a0 0)))):Int).toNat a0.size,true)) else (none)) else (none)) else (none))) else (some ((⟨#[]⟩:ByteArray),false))) = some (r1,r2):=H
 have A2:=ah.mk TH
 clear TH
 by_cases c3:t201 = true
 ·subst c3
  have H1:(if a0.toList = ([0]:List UInt8) then (some ((⟨#[]⟩:ByteArray),false)) else (if 0 < (a0.size:Int) then (if 0 ≤ (wrap64 (1 + (wrap64 (bt a0 0)))) then (if (wrap64 (1 + (wrap64 (bt a0 0)))) ≤ (a0.size:Int) then (some (a0.extract ((wrap64 (1 + (wrap64 (bt a0 0)))):Int).toNat a0.size,true)) else (none)) else (none)) else (none))) = some (r1,r2):=by rw [ahX rfl] at H;exact H
  clear H
  have H:=H1
  clear H1
  by_cases c4:a0.toList = ([0]:List UInt8)
  ·rw [ahX c4] at H
   have Cm:(a0.toList == ([0]:List UInt8)) = true:=aiH.mpr c4
   have Nh:(a0.toList != ([0]:List UInt8)) = false:=ajR.mpr c4
   clear c4
   simp only [aie,ain] at H
   obtain ⟨rfl,rfl⟩:=H
   go_enter Tryz.func71,Tryz.ntmps71
   go_wp2_with (first | ((with_reducible refine eP (f:=109) rfl ?_);refine jW (some 5) rfl rfl Tryz.func109 (by kernel_rfl) rfl #[.string a0] rfl (by (try simp only [aiW,ah8,ail]) <;> rfl) ?_;(with_reducible refine (fH.calls k a0 true _ A2.out).mono ?_);rintro e w5 ⟨rfl,hb⟩;refine ⟨_,rfl,?_⟩;have iR:=ah.mk (dJ (by repeat first | exact HB.out | apply av | apply aj | apply aA) hb);clear HB;have HB:=iR;clear iR;(try clear hb);(try clear hb2);(try clear hk);(try clear hi)))
   go_ret2
   exact ⟨by first | rfl | (simp [bG,bH] <;> rfl) | (simp [*,bG,bH] <;> rfl),by repeat (first | exact HB.out | apply av | apply aj | apply aA)⟩
  ·rw [ahY c4] at H
   have Cm:(a0.toList == ([0]:List UInt8)) = false:=aji.mpr c4
   have Nh:(a0.toList != ([0]:List UInt8)) = true:=ajn.mpr c4
   by_cases c6:0 < (a0.size:Int)
   ·rw [ahX c6] at H
    have Jw:decide (0 < (a0.size:Int)) = true:=ah0 c6
    have Jy:decide (0 < a0.size) = true:=ah0 (by omega)
    clear c6
    obtain ⟨TJ,Nn⟩:∃ j_:Int,(wrap64 (1 + (wrap64 (bt a0 0)))) = j_:=⟨_,rfl⟩
    replace H:(if 0 ≤ (TJ) then (if (TJ) ≤ (a0.size:Int) then (some (a0.extract ((TJ):Int).toNat a0.size,true)) else (none)) else (none)) = some (r1,r2):=by first | (rw [Nn] at H;exact H) | (simp only [Nn] at H ⊢;exact H)
    (try rw [Nn] at A2)
    have ag1:(IntKind.i64.wrap (1 + (wrap64 (bt a0 0)))) = TJ:=(iD _).trans Nn
    by_cases c9:0 ≤ (TJ)
    ·rw [ahX c9] at H
     have Ni:=ah9 c9
     have Wo:decide (0 ≤ (TJ)) = true:=ah0 c9
     clear c9
     by_cases c10:(TJ) ≤ (a0.size:Int)
     ·rw [ahX c10] at H
      have Nj:=ah9 c10
      have TD:decide ((TJ) ≤ (a0.size:Int)) = true:=ah0 c10
      clear c10
      simp only [aie,ain] at H
      obtain ⟨rfl,rfl⟩:=H
      go_enter Tryz.func71,Tryz.ntmps71
      go_wp2_with (first | ((with_reducible refine eP (f:=109) rfl ?_);refine jW (some 5) rfl rfl Tryz.func109 (by kernel_rfl) rfl #[.string a0] rfl (by (try simp only [aiW,ah8,ail]) <;> rfl) ?_;(with_reducible refine (fH.calls k a0 true _ A2.out).mono ?_);rintro e Wq ⟨rfl,hb⟩;refine ⟨_,rfl,?_⟩;have iR:=ah.mk (dJ (by repeat first | exact HB.out | apply av | apply aj | apply aA) hb);clear HB;have HB:=iR;clear iR;(try clear hb);(try clear hb2);(try clear hk);(try clear hi);have p7:0 ≤ (0:Int):=(by omega);have q7:0 < a0.size:=(by have:(0:Int) < (a0.size:Int):=aiB (by first | (with_reducible assumption) | assumption);omega);have hx7:∀ h:0 < a0.size,((a0[0]'h).toNat:Int) = bt a0 0:=vv a0 0;clear p7;have qi7:(0 < (a0.size:Int)) = True:=ah9 (aiB (by first | (with_reducible assumption) | assumption));replace q7:=ah9 q7))
      go_ret2
      exact ⟨by first | rfl | (simp [bG,bH] <;> rfl) | (simp only [← Nn];first | rfl | (simp [bG,bH] <;> rfl)) | (simp [*,bG,bH] <;> rfl),by repeat (first | exact HB.out | apply av | apply aj | apply aA)⟩
     ·rw [ahY c10] at H
      exact absurd H (by simp)
    ·rw [ahY c9] at H
     exact absurd H (by simp)
   ·rw [ahY c6] at H
    exact absurd H (by simp)
 ·replace c3:=aiX.mpr c3
  subst c3
  have H1:(some ((⟨#[]⟩:ByteArray),false)) = some (r1,r2):=by rw [ahY (show ¬ (false = true) by decide)] at H;exact H
  clear H
  have H:=H1
  clear H1
  simp only [aie,ain] at H
  obtain ⟨rfl,rfl⟩:=H
  go_enter Tryz.func71,Tryz.ntmps71
  go_wp2_with (first | ((with_reducible refine eP (f:=109) rfl ?_);refine jW (some 5) rfl rfl Tryz.func109 (by kernel_rfl) rfl #[.string a0] rfl (by (try simp only [aiW,ah8,ail]) <;> rfl) ?_;(with_reducible refine (fH.calls k a0 false _ A2.out).mono ?_);rintro e w12 ⟨rfl,hb⟩;refine ⟨_,rfl,?_⟩;have iR:=ah.mk (dJ (by repeat first | exact HB.out | apply av | apply aj | apply aA) hb);clear HB;have HB:=iR;clear iR;(try clear hb);(try clear hb2);(try clear hk);(try clear hi)))
  go_ret2
  exact ⟨by first | rfl | (simp [bG,bH] <;> rfl) | (simp [*,bG,bH] <;> rfl),by repeat (first | exact HB.out | apply av | apply aj | apply aA)⟩
end
end Go.Proofs.YtfokaoeinpnagaaGreat.ZQ
namespace Go.Proofs.YtfokaoeinpnagaaGreat.B
open Go.RowKit Go.Proofs.YtfokaoeinpnagaaGreatW.aX
structure uO (T e:TypeId) (B b o:Nat) (cs:Array Value) (p v:Value) (bs:List Value) (w:World):Prop where
 base:B ≤ b
 blk:w.heap[b]? = some (.cells cs T (0,0))
 p_:cs[o]? = some p
 v_:cs[o + 1]? = some v
 self:p = .pointer none ∨ p = .pointer (some ⟨b,o,none⟩)
 own:w.ownsRow B e 1 v bs.length bs
 ne:v.ownBlock ≠ some b
theorem uO.lt {T e:TypeId} {B b o:Nat} {cs:Array Value} {p v:Value} {bs:List Value} {w:World} (h:uO T e B b o cs p v bs w):b < w.heap.size:=by
 rcases ajf b w.heap.size with h' | h'
 ·exact h'
 ·have:=h.blk;rw [aja h'] at this;cases this
theorem heap_set {w:World} {b o:Nat} {cs:Array Value} {T:TypeId} {fr:Nat × Nat} (h:w.heap[b]? = some (.cells cs T fr)) (x:Value):(w.setCell ⟨b,o,none⟩ x).heap[b]? = some (.cells (cs.setIfInBounds o x) T fr):=by
 simp [World.setCell,Array.getElem?_modify,h]
theorem Co {w:World} {B b o:Nat} {e:TypeId} {n k:Nat} {v x:Value} {xs:List Value} (h:w.ownsRow B e n v k xs) (hne:v.ownBlock ≠ some b):(w.setCell ⟨b,o,none⟩ x).ownsRow B e n v k xs :=
 h.kept (row:=some b) ⟨rfl,rfl,rfl,by simp [World.setCell],fun k _ hk=>Below.heap_setCell _ _ _ _ (fun e=>hk (by simp [e]))⟩ (Or.inr hne)
theorem uO.used {T e:TypeId} {B b o:Nat} {cs:Array Value} {p v:Value} {bs:List Value} {w:World} (h:uO T e B b o cs p v bs w) :
  uO T e B b o (cs.setIfInBounds o (.pointer (some ⟨b,o,none⟩))) (.pointer (some ⟨b,o,none⟩)) v bs (w.setCell ⟨b,o,none⟩ (.pointer (some ⟨b,o,none⟩))):=by
 have ho:o < cs.size:=by
  rcases ajf o cs.size with h' | h'
  ·exact h'
  ·have:=h.p_;rw [aja h'] at this;cases this
 exact ⟨h.base,heap_set h.blk _,by simp [ho],by simpa [ai6] using h.v_,.inr rfl,Co h.own h.ne,h.ne⟩
theorem uO.JA {T e:TypeId} {B b o:Nat} {cs:Array Value} {v:Value} {bs:List Value} {w:World} (h:uO T e B b o cs (.pointer (some ⟨b,o,none⟩)) v bs w) :
  cs.setIfInBounds o (.pointer (some ⟨b,o,none⟩)) = cs:=by
 apply Array.ext_getElem?
 intro i
 rw [ai6]
 by_cases e:o = i
 ·subst e
  have:=h.p_
  rw [ahX rfl]
  split
  ·exact this.symm
  ·rename_i hn;rw [aja (by omega)] at this;cases this
 ·rw [ahY e]
theorem uO.put {T e:TypeId} {B b o:Nat} {cs:Array Value} {p v v':Value} {bs bs':List Value} {w w':World} (h:uO T e B b o cs p v bs w) (hb:w'.heap[b]? = some (.cells cs T (0,0))) (hown:w'.ownsRow B e 1 v' bs'.length bs') (hTe:T ≠ e) :
  uO T e B b o (cs.setIfInBounds (o + 1) v') p v' bs' (w'.setCell ⟨b,o + 1,none⟩ v'):=by
 have hne:=Lib.ownBlock_ne hown hb hTe
 have ho:o + 1 < cs.size:=by
  rcases ajf (o + 1) cs.size with h' | h'
  ·exact h'
  ·have:=h.v_;rw [aja h'] at this;cases this
 exact ⟨h.base,heap_set hb _,by simpa [ai6] using h.p_,by simp [ho],h.self,Co hown hne,hne⟩
theorem uO.set {T e:TypeId} {B b o:Nat} {cs:Array Value} {p v:Value} {bs:List Value} {w:World} (h:uO T e B b o cs p v bs w) (i:Nat) (x:Value) (h1:i ≠ o) (h2:i ≠ o + 1) :
  uO T e B b o (cs.setIfInBounds i x) p v bs (w.setCell ⟨b,i,none⟩ x) :=
 ⟨h.base,heap_set h.blk _,by rw [ai6,ahY h1];exact h.p_,by rw [ai6,ahY h2];exact h.v_,h.self,Co h.own h.ne,h.ne⟩
theorem uO.drewN {T e:TypeId} {B b o:Nat} {cs:Array Value} {p v:Value} {bs:List Value} {w:World} (h:uO T e B b o cs p v bs w) (n:Nat):uO T e B b o cs p v bs (w.drewN n):=⟨h.base,h.blk,h.p_,h.v_,h.self,h.own,h.ne⟩
theorem uO.below {T e:TypeId} {B b o:Nat} {cs:Array Value} {p v:Value} {bs:List Value} {w w':World} (h:uO T e B b o cs p v bs w) (hb:Below w.heap.size w w'):uO T e B b o cs p v bs w' :=
 ⟨h.base,(hb.block b h.lt).trans h.blk,h.p_,h.v_,h.self,sP h.own hb,h.ne⟩
theorem vY (t s:ByteArray):Lib.strCells t ++ Lib.strCells s = Lib.strCells (t ++ s):=by
 simp [Lib.strCells]
theorem yw (t:ByteArray):Lib.strCells t = Lib.byteCells t.data.toList:=rfl
end Go.Proofs.YtfokaoeinpnagaaGreat.B
namespace Go.Proofs.YtfokaoeinpnagaaGreat.ZQ
open Go.RowKit Go.Proofs.YtfokaoeinpnagaaGreatW.aX Go.Proofs.YtfokaoeinpnagaaGreatW.dQ Go.Proofs.YtfokaoeinpnagaaGreatW.eX Go.Proofs.YtfokaoeinpnagaaGreat.B
theorem jN {n:ByteArray}:n.toList = ([0]:List UInt8) ↔ n = root:=by
 have:root.toList = ([0]:List UInt8):=by rw [Lib.toList_data];rfl
 rw [← this,toList_inj]
theorem Np (d:Nat):∀ (k:Nat) (n:ByteArray) (acc:List ByteArray),n.size ≤ d → 1 ≤ n.size → d ≤ 255 → acc.length + d ≤ 1000 → 2 * d + 2 ≤ k →
  bC.l0 k n acc = some (match ko n.size n with | some l=>(acc ++ l,true) | none=>([],false)):=by
 induction d with
 | zero=>intro k n acc h1 h2;omega
 | succ d ih =>
  intro k n acc h1 h2 h3 h4 hk
  obtain ⟨k,rfl⟩:∃ m,k = m + 2:=⟨k - 2,by omega⟩
  rw [bC.l0,ahX (by omega),bC.j1,F5 h2]
  by_cases hr:n = root
  ·have hb:(n.toList != ([0]:List UInt8)) = false:=ajR.mpr (jN.mpr hr)
   have hb2:(n.toList == ([0]:List UInt8)) = true:=aiH.mpr (jN.mpr hr)
   rw [hb,ahY aiZ,ahX hr,hb2]
   simp
  ·have hb:(n.toList != ([0]:List UInt8)) = true:=ajn.mpr fun h=>hr (jN.mp h)
   have hbr:=gI n 0
   rw [hb,ahX rfl,ahX (by omega),ahY hr,lF (n:=bt n 0) (by omega) (by omega),lF (n:=bt n 0 + 1) (by omega) (by omega),lF (n:=1 + bt n 0) (by omega) (by omega)]
   by_cases c1:bt n 0 < 1
   ·rw [ahX c1,ahY (by omega)]
   ·rw [ahY c1]
    by_cases c2:bt n 0 > 63
    ·rw [ahX c2,ahY (by omega)]
    ·rw [ahY c2]
     by_cases c3:bt n 0 + 1 ≥ (n.size:Int)
     ·rw [ahX c3,ahY (by omega)]
     ·rw [ahY c3,ahX (by omega),ahX (by omega),ahX (by omega),ahX (by omega),ahX (by omega)]
      have e:(1 + bt n 0).toNat = 1 + (bt n 0).toNat:=by omega
      rw [e,ih k _ _ (by rw [aiF];omega) (by rw [aiF];omega) (by omega) (by simp;omega) (by omega)]
      cases ko (n.extract (1 + (bt n 0).toNat) n.size).size (n.extract (1 + (bt n 0).toNat) n.size) with
      | none=>rfl
      | some l=>simp
def Cq (n:ByteArray):List ByteArray × Bool:=match vW n with | some l=>(l,true) | none=>([],false)
theorem Nq (k:Nat) (hk:600 ≤ k) (n:ByteArray) (hs:n.size ≤ 1000000000):bC.f k n = some (Cq n):=by
 unfold bC.f Cq vW
 by_cases h:n.size ≤ 255
 ·rw [ahY (by omega),ahX h]
  by_cases h0:n.size = 0
  ·obtain ⟨k,rfl⟩:∃ m,k = m + 2:=⟨k - 2,by omega⟩
   have hb2:(n.toList == ([0]:List UInt8)) = false:=aji.mpr fun h=>by rw [jN] at h;rw [h,lN] at h0;omega
   rw [bC.l0,ahY (by omega),bC.j1,ahY aiZ,hb2,ko,ahX h0]
  ·rw [Np 255 k n [] h (by omega) (by omega) (by simp) (by omega),Eo 255 n h]
   simp
 ·rw [ahX (by omega),ahY h]
theorem F9 (n:ByteArray):(Cq n).2 = jL n:=by
 unfold Cq jL
 cases vW n <;> rfl
theorem yx (k:Nat) (hk:600 ≤ k) (n:ByteArray) (hs:n.size ≤ 1000000000):fH.f k n = some (jL n):=by
 unfold fH.f
 rw [Nq k hk n hs]
 simp only [Option.bind_some,F9]
theorem aaP (k:Nat) (hk:600 ≤ k) (n:ByteArray) (hs:n.size ≤ 1000000000):tL.f k n = some (up n):=by
 unfold tL.f
 rw [yx k hk n hs]
 simp only [Option.bind_some]
 cases hn:jL n with
 | false=>rw [ahY aiZ,Wm hn]
 | true =>
  rw [ahX rfl]
  obtain ⟨l,rfl,hok,hz⟩:=wC.mp hn
  cases l with
  | nil=>rw [tK,ahX (jN.mpr rfl),QW]
  | cons x l =>
   have hx:=hok x (by simp)
   have hr:=vD x l hx
   rw [ahY (fun h=>hr (jN.mp h)),Wj hok hz]
   obtain ⟨hx1,hx2⟩:=hx
   rw [pI] at hz ⊢
   rw [kM] at hz
   have h1:=lH l
   rw [Nf (by omega),kM,ahX (by omega),lF (n:=(x.size:Int)) (by omega) (by omega),lF (n:=1 + (x.size:Int)) (by omega) (by omega),ahX (by omega),ahX (by omega)]
   have e:(1 + (x.size:Int)).toNat = 1 + x.size:=by omega
   have hc:=@En (x.size:Int) x (enc l)
   rw [kM] at hc
   rw [e,hc]
theorem Ws (n:ByteArray) (hs:n.size ≤ 1000000000):iL.f n = some (vV n):=by unfold iL.f;rw [ahX (by omega)]
theorem Ga (a b:ByteArray):(a.toList == b.toList) = decide (a = b):=by
 rw [Bool.eq_iff_iff]
 simp only [aiH,aii]
 exact toList_inj
end Go.Proofs.YtfokaoeinpnagaaGreat.ZQ

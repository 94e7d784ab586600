/- A part of the proof of SeekZones: cut, joined and given short names by a program of this session (wip/tools/pack.py); Lean checks it. No condition. -/
import Derived.Test.YtfokaoeinpnagaaGreatPSZesf
import Derived.Maps.RangeRun
import Derived.Below
import Derived.Deep.Draws
import Derived.Deep.AppendLies
import Derived.Maps.AppendAt
import Derived.OwnWalk
import Derived.Laws.BytesArg
import Derived.Laws.MakeOwn
import Derived.Laws.OwnMore
import Derived.Deep.OwnRows
import Derived.Tactics
import Derived.Lib.ConvBytes
import Derived.Laws.Slices
import Derived.WalkKit
import Derived.KernelRfl
import Derived.RowKit3
import Derived.Deep.LoopGhost
import Derived.Deep.QuietTactic
import Derived.BigQuiet
import Derived.WideLaws
import Derived.Deep.DeepCutAuto
import Derived.Deep.CutBlock
import Derived.Deep.RegionHeld3
import Derived.Laws.Rows
import Derived.Lib.AppendStr
import Derived.ArgAppend
import Derived.Laws.IdiomCopy
import Derived.RowKit
import Derived.OrdersHeld
import Derived.Laws.BitsLemmas
import Derived.ChangeKeysEq
import Derived.Lib.Strings
import Derived.Laws.World
import Derived.Laws.Entries
import Derived.Test.YtfokaoeinpnagaaGreatProg
import Derived.Laws.StructEq
import Derived.WalkSpells
import Derived.Lib.Builder
import Derived.Lib.UnsafeStr
import Derived.Test.YtfokaoeinpnagaaGreatPSZesd
set_option linter.unusedSectionVars false
set_option linter.unusedSimpArgs false
set_option linter.unusedVariables false
set_option maxHeartbeats 16000000
set_option maxRecDepth 100000
namespace Go.Proofs.YtfokaoeinpnagaaGreat.Ev
section
open Go
open Go.ChangeMaps (setBlock)
def ofS : SV → FV
 | .int k n=>.int k n
 | .bool b=>.bool b
 | .str s=>.str s
def kvC : KV → CV
 | .one x=>.one (.f (ofS x))
 | .agg xs=>.agg (xs.map fun x=>.f (ofS x))
def Ny (step:St → KV → Option St) (σ:St):List KV → Option St
 | []=>some σ
 | k :: l=>(step σ k).bind fun τ=>Ny step τ l
open Classical in
noncomputable def Uz (step:St → KV → Option St) (σ:St) (l:List KV):Option St :=
 if ∃ τ,∀ m:List KV,m.Perm l → Ny step σ m = some τ then Ny step σ l else none
def ER (ks os:List Nat) (σ:St):St:=⟨pick ks σ.tm,pick os σ.ob⟩
def GV (σ:St) (os:List Nat) (s:Nat):Option (List KV):=match get σ.tm s with
 | some (.c (.one (.mp key)))=>if os.contains key then none else match get σ.ob key with
  | some (.map _ ents)=>some (ents.map (·.1))
  | _=>none
 | _=>none
noncomputable def Ja (Γ:Env) (F:Nat) (ks os:List Nat) (s:Nat) (g6:List G) (k6:List Nat) (cb:CC) (σ:St) (k:KV):Option St :=
 (wI Γ false g6 ⟨put σ.tm s (.c (kvC k)),σ.ob⟩).bind fun t=>(ev Γ F cb ⟨pick k6 t.tm,t.ob⟩).bind fun p=>match p.1 with
  | .jg=>some (ER ks os p.2)
  | _=>none
noncomputable def fin (cf:CF) (nA:List CV) (dS:List AV) (σ:St):Option (List AV × List AV):=(j6 σ nA dS).bind fun b=>(slots b.2 cf.res).bind fun l=>(mI cf.ro b.2 l).map fun r=>(r.1,b.1)
noncomputable def aa8 (Γ:Env) (F:Nat) (ca:CC) (g4:List G) (sm:Nat) (ks os:List Nat) (s:Nat) (g6:List G) (k6:List Nat) (cb cc:CC) (cf:CF) (dS:List AV):Option (List AV × List AV) :=
 if dS.length ≠ cf.np then none else (enter cf.bo 0 [] ⟨[],[]⟩ dS).bind fun e=>(ev Γ F ca e.2).bind fun p=>match p.1 with
  | .ext _=>none
  | .ret=>fin cf e.1 dS p.2
  | .jg=>(wI Γ false g4 p.2).bind fun t=>(GV t os sm).bind fun l=>(Uz (Ja Γ F ks os s g6 k6 cb) (ER ks os t) l).bind fun t=>(ev Γ F cc t).bind fun q=>match q.1 with
   | .ext _=>none
   | _=>fin cf e.1 dS q.2
section
variable {P : Program} {Γ:Env} {bn Fz bD:Nat → Prop} {w0 w w':World} {bg bs:List Nat} {N N':Fr} {F:Nat} {κ eZ iV:Nat → Value} {σ fI σ':St} {a a':Act} {X:Hx}
def blks (κ:Nat → Value) (ob:List (Nat × Ob)):List Nat:=ob.filterMap fun p=>blk (κ p.1)
theorem ES {b:Nat} {ob:List (Nat × Ob)}:b ∈ blks κ ob ↔ ∃ p ∈ ob,blk (κ p.1) = some b:=List.mem_filterMap
theorem Rel.base (h:Rel bn w0 bg N Fz κ σ a w):Rel Fz w (blks κ σ.ob) N Fz κ σ a w :=
 ⟨h.tm,h.sz,h.mh,h.fs,h.ob,h.uO,fun p hp b hb=>⟨(h.pos p hp b hb).1,(h.pos p hp b hb).2.1,.inl (ES.mpr ⟨p,hp,hb⟩)⟩,fun b hb=>⟨(h.fz b hb).1,.inl hb⟩,fun _ h=>h,ajd _,fun _ _ _=>rfl,⟨rfl,rfl⟩⟩
theorem Rel.old (h:Rel bn w0 bg N Fz κ σ a w) {b:Nat} (hb:b ∈ blks κ σ.ob):¬ Fz b ∧ b < w.heap.size ∧ (b ∈ bg ∨ w0.heap.size ≤ b):=by
 obtain ⟨p,hp,hb⟩:=ES.mp hb
 exact h.pos p hp b hb
end
end
section
open Go
section
variable {P : Program} {Fz bD:Nat → Prop} {w:World}
def RP : TV → TV
 | .own _ rows=>.f (.sl rows)
 | x=>x
def RQ : AV → AV
 | .one x=>.one (RP x)
 | .agg xs=>.agg (xs.map RP)
def E8 : TV → Bool
 | .f _=>true
 | .own _ _=>true
 | _=>false
def Jf : AV → Bool
 | .one x=>E8 x
 | .agg xs=>xs.all E8
theorem E9 {x:TV} {v:Value} {bs:List Nat} (h:nD Fz w x v bs) (hx:E8 x = true) (hw:∀ b,Fz b → bD b) (hb:∀ b ∈ bs,bD b):nD bD w (RP x) v []:=by
 cases x with
 | f y=>exact ⟨eY.mono hw (fun _ _=>rfl) y v h.1,rfl⟩
 | own sz rows=>exact ⟨jv.fz h hw hb,rfl⟩
 | iU=>cases hx
 | fA=>cases hx
 | ptr cs=>cases hx
 | mp sh ents=>cases hx
 | fp cs=>cases hx
 | fn f cs=>cases hx
 | any=>cases hx
theorem Bb : ∀ {xs:List TV} {vs:List Value} {bs:List Nat},kS Fz w xs vs bs → xs.all E8 = true → (∀ b,Fz b → bD b) → (∀ b ∈ bs,bD b) → kS bD w (xs.map RP) vs []
 | [],[],_,h,_,_,_=>rfl
 | x :: xs,v :: vs,_,⟨b1,b2,h1,h2,e⟩,hx,hw,hb=>by
  subst e
  rw [List.all_cons,ajg] at hx
  exact ⟨[],[],E9 h1 hx.1 hw (fun b h=>hb b (by simp [h])),Bb h2 hx.2 hw (fun b h=>hb b (by simp [h])),rfl⟩
 | [],_ :: _,_,h,_,_,_=>h.elim
 | _ :: _,[],_,h,_,_,_=>h.elim
theorem NQ {x:AV} {v:Value} {bs:List Nat} (h:oM Fz w x v bs) (hx:Jf x = true) (hw:∀ b,Fz b → bD b) (hb:∀ b ∈ bs,bD b):oM bD w (RQ x) v []:=by
 cases x with
 | one y=>exact E9 h hx hw hb
 | agg xs =>
  obtain ⟨cs,e,h1⟩:=h
  exact ⟨cs,e,Bb h1 hx hw hb⟩
theorem Bc : ∀ {xs:List AV} {vs:List Value} {bs:List Nat},fD Fz w xs vs bs → (∀ x ∈ xs,Jf x = true) → (∀ b,Fz b → bD b) → (∀ b ∈ bs,bD b) → fD bD w (xs.map RQ) vs []
 | [],[],_,h,_,_,_=>rfl
 | x :: xs,v :: vs,_,⟨b1,b2,h1,h2,e⟩,hx,hw,hb=>by
  subst e
  exact ⟨[],[],NQ h1 (hx x (by simp)) hw (fun b h=>hb b (by simp [h])),Bc h2 (fun y hy=>hx y (by simp [hy])) hw (fun b h=>hb b (by simp [h])),rfl⟩
 | [],_ :: _,_,h,_,_,_=>h.elim
 | _ :: _,[],_,h,_,_,_=>h.elim
theorem Sat.lend {f:FuncId} {g g':List AV → Option (List AV × List AV)} (h:Sat P f g) (hg:∀ dS r,g' dS = some r → (∀ x ∈ dS,Jf x = true) ∧ r.2 = dS ∧ ∃ l:List SV,r.1 = wK l ∧ g (dS.map RQ) = some (r.1,dS.map RQ)):Sat P f g':=by
 intro dS rs pV he Fz w vals bs ha hnd hap hfz
 obtain ⟨h1,h2,l,h3,h4⟩:=hg _ _ he
 simp only at h2 h3 h4
 subst h2
 subst h3
 have hfr:=Bc (bD:=fun b=>Fz b ∨ b ∈ bs) ha h1 (fun _ h=>.inl h) (fun _ h=>.inr h)
 refine (h _ _ _ h4 (fun b=>Fz b ∨ b ∈ bs) w vals [] hfr akM (by simp) (fun b hb=>hb.elim (hfz b) (fun hm=>(hap b hm).2))).mono fun e w' ⟨Fz1,tF,b1,b2,he,hp⟩=>?_
 obtain ⟨e1,e2⟩:=tN hp.rs
 refine ⟨Fz,tF,bs,[],he,fun _ h=>h,fun b hb=>⟨ajK (hfz b hb) hp.big,.inl hb⟩,hp.big,fun b hb _=>hp.ext b hb (by simp),hp.kp,fD.mono (fun _ h=>h) (fun b hb=>hp.ext b (hfz b hb) (by simp)) (fun b hb=>hp.ext b (hap b hb).2 (by simp)) ha,by rw [e1];exact qj,by simpa using hnd,fun b hb=>?_⟩
 have hb':b ∈ bs:=by simpa using hb
 exact ⟨(hap b hb').1,ajK (hap b hb').2 hp.big,.inl hb'⟩
def vW (l:List (FuncId × (List AV → Option (List AV × List AV)))) (Γ:Env):Env:=fun f dS=>match iP l f dS with
 | some r=>some r
 | none=>Γ f dS
theorem NR {l:List (FuncId × (List AV → Option (List AV × List AV)))} {Γ:Env} (h:∀ p ∈ l,Sat P p.1 p.2) (kT:iC P Γ):iC P (vW l Γ):=by
 intro f dS rs pV he
 unfold vW at he
 split at he
 ·rename_i r hr
  cases he
  exact tO h f dS rs pV hr
 ·exact kT f dS rs pV he
theorem GY {l:List (FuncId × (List AV → Option (List AV × List AV)))} {Γ:Env} (h:∀ p ∈ l,∃ fn,P.funcs[p.1]? = some fn ∧ (fn.name == "runtime.NumGoroutine") = false ∧ fn.body.isSome = true) (kT:dN P Γ):dN P (vW l Γ):=by
 intro f dS r he
 unfold vW at he
 split at he
 ·rename_i r' hr
  exact oO h f dS r' hr
 ·exact kT f dS r he
end
end
section
open Go
def ko (f:Func):Code:=match f.body with
 | some c=>c
 | none=>.skip
def oq : Nat → Code → Code
 | 0,.seq a _=>a
 | n + 1,.seq _ b=>oq n b
 | _,c=>c
def tlS : Nat → Code → Code
 | 0,c=>c
 | n + 1,.seq _ b=>tlS n b
 | _,c=>c
def vk : Nat → CC → CC
 | 0,.seq a _=>a
 | n + 1,.seq _ b=>vk n b
 | _,c=>c
def tlC : Nat → CC → CC
 | 0,c=>c
 | n + 1,.seq _ b=>tlC n b
 | _,c=>c
def CX : Nat → Code → CC → Bool
 | 0,_,_=>true
 | n + 1,.seq _ b,.seq _ y=>CX n b y
 | _,_,_=>false
theorem yG {P:Program} {X:Hx} {N:Nat → Bool} (H:List Hi):∀ (n k:Nat) (c:Code) (x:CC) (r:List Hi),CX n c x = true → (∀ i,i < n → comp P X N (oq i c) (H.drop (k + i)) = some (vk i x,H.drop (k + i + 1))) → comp P X N (tlS n c) (H.drop (k + n)) = some (tlC n x,r) → comp P X N c (H.drop k) = some (x,r)
 | 0,k,c,x,r,_,_,h=>h
 | n + 1,k,c,x,r,hs,hi,ht=>by
  unfold CX at hs
  split at hs
  ·rename_i h;cases h
  ·rename_i m a b y z e
   cases e
   have h0:=hi 0 (by omega)
   have h1:=yG H n (k + 1) b z r hs (fun i hlt=>by
    have:=hi (i + 1) (by omega)
    rw [show k + 1 + i = k + (i + 1) from by omega,show k + (i + 1) + 1 = k + (i + 1) + 1 from rfl]
    exact this) (by rw [show k + 1 + n = k + (n + 1) from by omega];exact ht)
   have h0':comp P X N a (H.drop k) = some (y,H.drop (k + 1)):=h0
   unfold comp
   rw [h0']
   simp only [Option.bind_some]
   rw [h1]
   rfl
  ·cases hs
end
end Go.Proofs.YtfokaoeinpnagaaGreat.Ev
namespace Go.Proofs.YtfokaoeinpnagaaGreatW.aX
open Go.RowKit
structure ah (p:Prop):Prop where mk :: (out:p)
structure bQ (w w':World):Prop where mk :: (out:∃ n,w' = w.drewN n)
theorem bQ.refl (w:World):bQ w w:=⟨⟨0,rfl⟩⟩
theorem bQ.step {w w':World} (h:bQ w w') (n:Nat):bQ w (w'.drewN n):=by
 obtain ⟨m,rfl⟩:=h
 exact ⟨⟨m + n,World.drewN_drewN ..⟩⟩
theorem bQ.grown {w w':World} (h:bQ w w'):Grown w w':=by
 obtain ⟨n,rfl⟩:=h
 induction n with
 | zero=>exact Grown.refl _
 | succ n ih=>rw [← World.drew_drewN];exact Grown.drew ih
theorem bQ.below {w w':World} (h:bQ w w'):Below w.heap.size w w':=by
 obtain ⟨n,rfl⟩:=h
 induction n with
 | zero=>exact Below.refl _ _
 | succ n ih=>rw [← World.drew_drewN];exact ih.drew
def rd (xs:List Int) (i:Int):Int:=xs.getD i.toNat 0
def bt (s:ByteArray) (i:Int):Int:=if h:i.toNat < s.size then ((s[i.toNat]'h).toNat:Int) else 0
theorem pE (s:ByteArray) (i:Int):∀ h:i.toNat < s.size,((s[i.toNat]'h).toNat:Int) = bt s i:=fun h=>by simp [bt,h]
theorem gK (s:ByteArray) (i:Int):0 ≤ bt s i ∧ bt s i ≤ 255:=by
 unfold bt
 split
 ·rename_i h
  have:=(s[i.toNat]'h).toNat_lt
  omega
 ·omega
theorem ak {w W:World} (h:Below w.heap.size w W) (o:Obj):Below w.heap.size w (W.alloc o):=h.alloc h.size o
theorem iL {B:Nat} {w W:World} (h:Below B w W):Below B w W.drew:=⟨h.os,h.tape,h.output,h.size,h.block⟩
theorem aj {B:Nat} {w W:World} (h:Below B w W) (n:Nat):Below B w (W.drewN n):=⟨h.os,h.tape,h.output,h.size,h.block⟩
theorem GZ {B:Nat} {w w1 w2:World} (h:Below B w w1) (hB:B ≤ w1.heap.size) (k:Below w1.heap.size w1 w2):Below B w w2 :=
 h.trans ⟨k.os,k.tape,k.output,k.size,fun i hi=>k.block i (ajK hi hB)⟩
theorem yH {w w1:World} (h:Below w.heap.size w w1) (row:Option Nat):w.grownBy w1 row:=⟨h.os,h.tape,h.output,h.size,fun i hi _=>h.block i hi⟩
theorem nV {w w1:World} (h:Below w.heap.size w w1) {a:Addr} {v:Value} (hc:w.cell? a = some v):w1.cell? a = some v:=(h.cell (World.block_lt_of_cell? w a hc)).trans hc
theorem add_plain (g j:Nat):(⟨g,0,none⟩:Addr).add j = ⟨g,j,none⟩:=by unfold Addr.add;split <;> simp_all
def gL (w:World) (k:IntKind) (A:Option Addr) (n:Nat) (xs:List Int):Prop :=
 xs.length = n ∧ n ≤ 9223372036854775807 ∧ (0 < n → ∃ ad,A = some ad ∧ ∀ j,j < n → w.cell? (ad.add j) = some (.int k (xs.getD j 0)))
theorem gL.at_ {w:World} {k:IntKind} {A:Option Addr} {n:Nat} {xs:List Int} (h:gL w k A n xs) (i:Int) (h0:0 ≤ i) (h1:i < n):∃ ad,A = some ad ∧ w.cell? (ad.add i.toNat) = some (.int k (rd xs i)):=by
 obtain ⟨ad,e,hc⟩:=h.2.2 (by omega)
 exact ⟨ad,e,hc _ (by omega)⟩
theorem gL.below {w w1:World} {k:IntKind} {A:Option Addr} {n:Nat} {xs:List Int} (h:gL w k A n xs) (hb:Below w.heap.size w w1):gL w1 k A n xs :=
 ⟨h.1,h.2.1,fun hn=>by
  obtain ⟨ad,e,hc⟩:=h.2.2 hn
  exact ⟨ad,e,fun j hj=>nV hb (hc j hj)⟩⟩
theorem R3 (W:World) (base:Nat) (e:TypeId) (size:Nat):W.ownsRow base e size (.slice none 0 0) 0 []:=⟨by simp,.inl ⟨rfl,rfl⟩⟩
theorem tX {w:World} {base:Nat} {e:TypeId} {size n:Nat} {v:Value} {xs:List Value} (h:w.ownsRow base e size v n xs) (k:Nat) (hk:v.ownBlock = some k):base ≤ k:=by
 rcases h.2 with ⟨rfl,_⟩ | ⟨g,cap,cur,rfl,hb,_⟩
 ·simp [Value.ownBlock] at hk
 ·have:g = k:=by simpa [Value.ownBlock] using hk
  omega
theorem NY {w:World} {base:Nat} {e:TypeId} {size n:Nat} {v:Value} {xs:List Value} (h:w.ownsRow base e size v n xs) (k:Nat) (hk:v.ownBlock = some k):k < w.heap.size:=by
 rcases h.2 with ⟨rfl,_⟩ | ⟨g,cap,cur,rfl,hb,hh,_⟩
 ·simp [Value.ownBlock] at hk
 ·have:g = k:=by simpa [Value.ownBlock] using hk
  subst this
  exact (ake.1 hh).1
theorem tY {w w1:World} {base:Nat} {e:TypeId} {size n:Nat} {v:Value} {xs:List Value} (h:w.ownsRow base e size v n xs) (hb:Below w.heap.size w w1):w1.ownsRow base e size v n xs :=
 h.kept (yH hb none) (by cases v.ownBlock <;> simp)
theorem Ko {w w1:World} {base:Nat} {e:TypeId} {size n:Nat} {v:Value} {xs:List Value} (h:w.ownsRow base e size v n xs) {row:Option Nat} (hg:w.grownBy w1 row) (hne:v.ownBlock = none ∨ v.ownBlock ≠ row):w1.ownsRow base e size v n xs:=h.kept hg hne
section
variable {P : Program} {ops:Array Oper} {rest:List Oper} {o:Oper} {a:Act} {Q:Exit → Act → World → Prop}
end
section
variable {P : Program}
end
section
variable {P : Program} {ops:Array Oper} {rest:List Oper} {o:Oper} {a:Act} {Q:Exit → Act → World → Prop}
end
def bytesOf (s:ByteArray):List Int:=s.data.toList.map fun b=>(b.toNat:Int)
theorem gL.Fa {w:World} {k:IntKind} {A:Option Addr} {n:Nat} {xs:List Int} (h:gL w k A n xs) (i:Nat) (hi:i ≤ n):gL w k A i (xs.take i):=by
 refine ⟨by rw [ajq,h.1];omega,by have:=h.2.1;omega,fun hp=>?_⟩
 obtain ⟨ad,e,hc⟩:=h.2.2 (by omega)
 refine ⟨ad,e,fun j hj=>?_⟩
 rw [hc j (by omega)]
 simp [ajy,hj]
def nE {α:Type} (a b:Option α):Prop:=∀ r,a = some r → b = some r
theorem nE.refl {α:Type} (a:Option α):nE a a:=fun _ h=>h
theorem nE.none {α:Type} (b:Option α):nE Option.none b:=fun _ h=>by cases h
theorem nE.trans {α:Type} {a b c:Option α} (h:nE a b) (k:nE b c):nE a c:=fun r hr=>k r (h r hr)
theorem nE.ite {α:Type} {c:Prop} [Decidable c] {a a' b b':Option α} (h:nE a a') (k:nE b b'):nE (if c then a else b) (if c then a' else b'):=by
 split
 ·exact h
 ·exact k
theorem nE.bind {α β:Type} {a a':Option α} {f f':α → Option β} (h:nE a a') (k:∀ x,nE (f x) (f' x)):nE (a.bind f) (a'.bind f'):=by
 intro r hr
 obtain ⟨x,hx,hf⟩:=Option.bind_eq_some_iff.1 hr
 exact Option.bind_eq_some_iff.2 ⟨x,h x hx,k x r hf⟩
theorem nE.map {α β:Type} {a a':Option α} (f:α → β) (h:nE a a'):nE (a.map f) (a'.map f):=by
 intro r hr
 obtain ⟨x,hx,hf⟩:=akI.1 hr
 exact akI.2 ⟨x,h x hx,hf⟩
theorem vY {α:Type} {g:Nat → Option α} (h:∀ k,nE (g k) (g (k + 1))) (k:Nat):∀ j,nE (g k) (g (k + j))
 | 0=>nE.refl _
 | j + 1=>(vY h k j).trans (h (k + j))
theorem vo {α:Type} {g:Nat → Option α} (h:∀ k,nE (g k) (g (k + 1))) {k k':Nat} (hk:k ≤ k') {r:α} (hr:g k = some r):g k' = some r:=by
 have:=vY h k (k' - k) r hr
 rwa [Nat.add_sub_cancel' hk] at this
def fP {α:Type} (R:α → List Value → Prop) (size:Nat) (ps:List α) (cs:List Value):Prop :=
 cs.length = ps.length * size ∧ ∀ j p,ps[j]? = some p → R p ((cs.drop (j * size)).take size)
theorem fP.none {α:Type} (R:α → List Value → Prop) (size:Nat):fP R size [] []:=⟨by simp,fun j p h=>by simp at h⟩
theorem fP.snoc {α:Type} {R:α → List Value → Prop} {size:Nat} {ps:List α} {cs c:List Value} {p:α} (h:fP R size ps cs) (hp:R p c) (hc:c.length = size):fP R size (ps ++ [p]) (cs ++ c):=by
 refine ⟨by rw [ajh,h.1,hc,ajh,List.length_singleton,akE,Nat.one_mul],fun j q hq=>?_⟩
 rcases ako j ps.length with hj | hj
 ·rw [akZ hj] at hq
  have h1:j * size + size ≤ cs.length:=by rw [h.1,← ajV];exact akF _ hj
  have h2:=h.2 j q hq
  rw [List.drop_append_of_le_length (by omega),akU (by rw [ajA];omega)]
  exact h2
 ·have hj':j = ps.length:=by
   have:=(aj1.1 hq).1
   rw [ajh,List.length_singleton] at this
   omega
  subst hj'
  have hq':p = q:=by simpa using hq
  subst hq'
  rw [← h.1,List.drop_left,← hc,ajS]
  exact hp
theorem fP.zW {α:Type} {R R':α → List Value → Prop} {size:Nat} {ps:List α} {cs:List Value} (h:fP R size ps cs) (hR:∀ p c,R p c → R' p c):fP R' size ps cs:=⟨h.1,fun j p hj=>hR _ _ (h.2 j p hj)⟩
def mP {α:Type} (R:α → List Value → Prop) (size:Nat) (w:World) (A:Option Addr) (n:Nat) (ps:List α):Prop :=
 ps.length = n ∧ n ≤ 9223372036854775807 ∧ (0 < n → ∃ ad,A = some ad ∧ ∀ j p,ps[j]? = some p → ∃ c,c.length = size ∧ R p c ∧ ∀ i u,c[i]? = some u → w.cell? (ad.add (j * size + i)) = some u)
theorem mP.zW {α:Type} {R R':α → List Value → Prop} {size:Nat} {w w1:World} {A:Option Addr} {n:Nat} {ps:List α} (h:mP R size w A n ps) (hb:Below w.heap.size w w1) (hR:∀ p c,R p c → R' p c):mP R' size w1 A n ps :=
 ⟨h.1,h.2.1,fun hn=>by
  obtain ⟨ad,e,hc⟩:=h.2.2 hn
  refine ⟨ad,e,fun j p hj=>?_⟩
  obtain ⟨c,hs,hr,hcell⟩:=hc j p hj
  exact ⟨c,hs,hR _ _ hr,fun i u hu=>nV hb (hcell i u hu)⟩⟩
theorem zX {α:Type} {R:α → List Value → Prop} {w:World} {base n size:Nat} {e:TypeId} {v:Value} {ps:List α} {cs:List Value} (h:w.ownsRow base e size v n cs) (hR:fP R size ps cs) (hn:ps.length = n) :
  ∃ A c,v = .slice A n c ∧ mP R size w A n ps:=by
 rcases Nat.eq_zero_or_pos n with h0 | h0
 ·rcases h.2 with ⟨rfl,rfl⟩ | ⟨g,cap,cur,rfl,_⟩
  ·exact ⟨none,0,rfl,hn,by omega,fun hp=>absurd hp (by omega)⟩
  ·exact ⟨_,cap,rfl,hn,by omega,fun hp=>absurd hp (by omega)⟩
 ·obtain ⟨g,cap,rfl,_,_⟩:=h.form h0
  have hm:n ≤ 9223372036854775807:=by
   rcases h.2 with ⟨_,h1⟩ | ⟨g',cap',cur,he,_,_,h1,h2,_⟩
   ·omega
   ·simp only [maxLen] at h2
    omega
  refine ⟨_,cap,rfl,hn,hm,fun _=>⟨_,rfl,fun j p hj=>⟨(cs.drop (j * size)).take size,?_,hR.2 j p hj,fun i u hu=>?_⟩⟩⟩
  ·have hjl:=(aj1.1 hj).1
   have h1:j * size + size ≤ cs.length:=by rw [hR.1,← ajV];exact akF _ hjl
   rw [ajq,ajA]
   omega
  ·refine h.cells (g:=g) rfl _ u ?_
   rw [ajU] at hu
   split at hu
   ·rw [aj3] at hu
    exact hu
   ·cases hu
section
variable {P : Program} {ops:Array Oper} {rest:List Oper} {o:Oper} {a:Act} {Q:Exit → Act → World → Prop}
theorem mQ {w0 W:World} (base:Nat) (hgd:o.guard = none) (s x:Operand) (t e:TypeId) (z:Value) (size bytes:Nat)
  (ho:o.op = .call { callee:=.builtin .append,args:=#[s,x],argTypes:=#[t,t] })
  (ht:P.underlying t = some (.slice e)) (hinfo:(P.info? e).map (fun i=>(i.zero,i.size,i.bytes)) = some (some z,size,bytes)) (hz:z.cells.size = size) (hs0:0 < size) (hb0:0 < bytes)
  (v:Value) (n:Nat) (xs ys:List Value) (hs:a.eval s = v) (hx:a.eval x = .slice (some ⟨W.heap.size,0,none⟩) 1 1) (hys:ys.length = size) (h1:∀ u ∈ ys,u.oneCell' = true)
  (HO:W.ownsRow base e size v n xs) (HB:Below base w0 W) (hbase:base ≤ W.heap.size) (hl:(n + 1) * bytes ≤ 140737488355328)
  (h:∀ v1 w1,w1.ownsRow base e size v1 (n + 1) (xs ++ ys) → Below base w0 w1 → W.grownBy w1 v.ownBlock → (v1.ownBlock = v.ownBlock ∨ ∃ b,v1.ownBlock = some b ∧ W.heap.size ≤ b) → wpList P ops Q rest (a.put o.dst v1) w1) :
  wpList P ops Q (o :: rest) a (W.alloc (.cells ys.toArray e)):=by
 obtain ⟨i0,hi,hzz⟩:=akI.1 hinfo
 simp only [ajm] at hzz
 obtain ⟨hz0,hz1,hz2⟩:=hzz
 have hlen:n + 1 ≤ 140737488355328:=aju (Nat.le_mul_of_pos_right _ hb0) hl
 refine wpList_append_own_at (W.alloc (.cells ys.toArray e)) hgd s x t ho base e i0 z size bytes ht hi hz0 hz1 hz2 hz hs0 v n xs hs (HO.alloc _) ⟨W.heap.size,0,none⟩ 1 1 ys hx (by rw [hys];simp)
  (by simpa using World.news_of_block (cs:=ys.toArray) (t:=e) (fr:=(0,0)) (heap_alloc_new W (.cells ys.toArray e))) h1 (by simp only [maxLen];omega) hl (by simp;omega) ?_
 intro v1 w1 hown hg _ hat
 refine h v1 w1 hown ((HB.alloc hbase _).grown hg (by simp;omega) (tX HO)) (World.grownBy.trans (World.grownBy_alloc W _ _) hg) ?_
 rcases hat with hat | hat
 ·exact .inl hat
 ·exact .inr ⟨_,hat,by simp⟩
end
theorem own_ne {w:World} {base:Nat} {e t:TypeId} {size n g:Nat} {v:Value} {xs:List Value} {cs:Array Value} (h:w.ownsRow base e size v n xs) (hg:w.heap[g]? = some (.cells cs t (0,0))) (hne:e ≠ t):some g ≠ v.ownBlock:=by
 rcases h.2 with ⟨rfl,_⟩ | ⟨g',cap,cur,rfl,_,hh,_⟩
 ·simp [Value.ownBlock]
 ·intro he
  have:g = g':=by simpa [Value.ownBlock] using he
  subst this
  rw [hg] at hh
  injection hh with hh
  injection hh with _ ht
  exact hne ht.symm
theorem R4 {w:World} {g:Nat} {t:TypeId} {cs:Array Value} (h:w.heap[g]? = some (.cells cs t (0,0))) (i:Nat) (u:Value):(w.setCell ⟨g,i,none⟩ u).heap[g]? = some (.cells (cs.setIfInBounds i u) t (0,0)):=by
 simp [World.setCell,Array.getElem?_modify,h]
theorem oP {w:World} {g:Nat} {t:TypeId} {cs:Array Value} (h:w.heap[g]? = some (.cells cs t (0,0))) {p:Addr} (hp:g ≠ p.block) (u:Value):(w.setCell p u).heap[g]? = some (.cells cs t (0,0)):=(Below.heap_setCell w p u g hp).trans h
theorem jN {w:World} {g:Nat} {o:Obj} (h:w.heap[g]? = some o):g < w.heap.size:=(ake.1 h).1
theorem bN {w:World} {g:Nat} {t:TypeId} {cs:Array Value} (h:w.heap[g]? = some (.cells cs t (0,0))) (i:Nat):w.cell? ⟨g,i,none⟩ = cs[i]?:=cell_of_row w g i cs t (0,0) h
theorem bJ {w:World} {g:Nat} {t:TypeId} {cs:Array Value} (h:w.heap[g]? = some (.cells cs t (0,0))) (i:Nat):w.frozen? ⟨g,i,none⟩ = false:=by simp [World.frozen?,h]
theorem vv {w w1:World} {g:Nat} {o:Obj} {row:Option Nat} (h:w.heap[g]? = some o) (hg:w.grownBy w1 row) (hne:some g ≠ row):w1.heap[g]? = some o:=(hg.block g (jN h) hne).trans h
theorem Xl {w:World} {g g':Nat} {t t':TypeId} {cs cs':Array Value} (h:w.heap[g]? = some (.cells cs t (0,0))) (h':w.heap[g']? = some (.cells cs' t' (0,0))) (hne:t ≠ t'):g ≠ g':=by
 rintro rfl
 rw [h] at h'
 injection h' with h'
 injection h' with _ ht
 exact hne ht
def iy (w w':World) (g:Nat) (row:Option Nat):Prop:=w.heap.size ≤ w'.heap.size ∧ ∀ i,i < w.heap.size → i ≠ g → some i ≠ row → w'.heap[i]? = w.heap[i]?
theorem iy.refl (w:World) (g:Nat) (row:Option Nat):iy w w g row:=⟨ajd _,fun _ _ _ _=>rfl⟩
theorem iy.of_below {w w1:World} (h:Below w.heap.size w w1) (g:Nat) (row:Option Nat):iy w w1 g row:=⟨h.size,fun i hi _ _=>h.block i hi⟩
theorem iy.trans {w w1 w2:World} {g:Nat} {row bA:Option Nat} (h:iy w w1 g row) (k:iy w1 w2 g bA) (hr:bA = row ∨ ∃ b,bA = some b ∧ w.heap.size ≤ b):iy w w2 g row :=
 ⟨aju h.1 k.1,fun i hi hg hn=>by
  refine (k.2 i (ajK hi h.1) hg ?_).trans (h.2 i hi hg hn)
  rcases hr with rfl | ⟨b,rfl,hb⟩
  ·exact hn
  ·intro e
   injection e with e
   omega⟩
theorem iy.blk {w w1:World} {g g':Nat} {row:Option Nat} {o:Obj} (h:iy w w1 g row) (hb:w.heap[g']? = some o) (hg:g' ≠ g) (hr:some g' ≠ row):w1.heap[g']? = some o:=(h.2 g' (jN hb) hg hr).trans hb
theorem iy.own {w w1:World} {g:Nat} {row:Option Nat} {base:Nat} {e:TypeId} {size n:Nat} {v:Value} {xs:List Value} (h:iy w w1 g row) (ho:w.ownsRow base e size v n xs) (hg:v.ownBlock ≠ some g) (hr:v.ownBlock = none ∨ v.ownBlock ≠ row):w1.ownsRow base e size v n xs:=by
 obtain ⟨h1,h2⟩:=ho
 refine ⟨h1,?_⟩
 rcases h2 with h2 | ⟨b,cap,cur,rfl,hb,hh,r⟩
 ·exact .inl h2
 ·refine .inr ⟨b,cap,cur,rfl,hb,h.blk hh ?_ ?_,r⟩
  ·intro e
   exact hg (by rw [← e];rfl)
  ·rcases hr with hr | hr
   ·simp [Value.ownBlock] at hr
   ·exact hr
def Ev {α:Type} (g:Nat → Option α) (r:α):Prop:=∃ K,∀ k,K ≤ k → g k = some r
theorem Ev.of {α:Type} {g:Nat → Option α} {r:α} (hg:∀ k,nE (g k) (g (k + 1))) {k:Nat} (h:g k = some r):Ev g r:=⟨k,fun _ hk=>vo hg hk h⟩
theorem Ev.now {α:Type} (r:α):Ev (fun _=>some r) r:=⟨0,fun _ _=>rfl⟩
theorem Ev.rounds {α:Type} {g:Nat → Option α} {r:α} (h:Ev g r):∃ k,g k = some r:=by
 obtain ⟨K,h⟩:=h
 exact ⟨K,h K (ajd _)⟩
theorem Ev.bind {α β:Type} {g:Nat → Option α} {f:Nat → α → Option β} {a:α} {r:β} (h:Ev g a) (k:Ev (fun n=>f n a) r):Ev (fun n=>(g n).bind (f n)) r:=by
 obtain ⟨K,h⟩:=h
 obtain ⟨K',k⟩:=k
 refine ⟨max K K',fun n hn=>?_⟩
 have h1:=h n (by omega)
 have h2:=k n (by omega)
 simp only [h1,Option.bind_some]
 exact h2
theorem Ev.step {α:Type} {g f:Nat → Option α} {r:α} (h:∀ k,g (k + 1) = f k) (k:Ev f r):Ev g r:=by
 obtain ⟨K,k⟩:=k
 refine ⟨K + 1,fun n hn=>?_⟩
 obtain ⟨m,rfl⟩:∃ m,n = m + 1:=⟨n - 1,by omega⟩
 rw [h]
 exact k m (by omega)
theorem Ev.congr {α:Type} {g f:Nat → Option α} {r:α} (h:∀ k,g k = f k) (k:Ev f r):Ev g r:=by
 obtain ⟨K,k⟩:=k
 exact ⟨K,fun n hn=>(h n).trans (k n hn)⟩
section
variable {P : Program} {ops:Array Oper} {o:Oper} {a:Act} {Q:Exit → Act → World → Prop} {K:Act → World → Prop}
theorem tZ {w0 W:World} (base:Nat) (hw:Region.wanted o (yielded ops a.tmps) = true) (s x:Operand) (t e:TypeId) (z:Value) (size bytes:Nat)
  (ho:o.op = .call { callee:=.builtin .append,args:=#[s,x],argTypes:=#[t,t] })
  (ht:P.underlying t = some (.slice e)) (hinfo:(P.info? e).map (fun i=>(i.zero,i.size,i.bytes)) = some (some z,size,bytes)) (hz:z.cells.size = size) (hs0:0 < size) (hb0:0 < bytes)
  (v:Value) (n:Nat) (xs ys:List Value) (hs:a.eval s = v) (hx:a.eval x = .slice (some ⟨W.heap.size,0,none⟩) 1 1) (hys:ys.length = size) (h1:∀ u ∈ ys,u.oneCell' = true)
  (HO:W.ownsRow base e size v n xs) (HB:Below base w0 W) (hbase:base ≤ W.heap.size) (hl:(n + 1) * bytes ≤ 140737488355328)
  (h:∀ v1 w1,w1.ownsRow base e size v1 (n + 1) (xs ++ ys) → Below base w0 w1 → W.grownBy w1 v.ownBlock → (v1.ownBlock = v.ownBlock ∨ ∃ b,v1.ownBlock = some b ∧ W.heap.size ≤ b) → K (a.put o.dst v1) w1) :
  if Region.wanted o (yielded ops a.tmps) = true then Oper.wp P o a (W.alloc (.cells ys.toArray e)) K Q else K (a.put o.dst undef) (W.alloc (.cells ys.toArray e)):=by
 obtain ⟨i0,hi,hzz⟩:=akI.1 hinfo
 simp only [ajm] at hzz
 obtain ⟨hz0,hz1,hz2⟩:=hzz
 have hlen:n + 1 ≤ 140737488355328:=aju (Nat.le_mul_of_pos_right _ hb0) hl
 rw [ai8 hw]
 obtain ⟨v1,w1,hr,hown,hg,_,hat⟩:=run_append_own_at (P:=P) (W.alloc (.cells ys.toArray e)) base t o.type e i0 z size bytes ht hi hz0 hz1 hz2 hz hs0 v n xs (HO.alloc _) ⟨W.heap.size,0,none⟩ 1 1 ys (by rw [hys];simp)
  (by simpa using World.news_of_block (cs:=ys.toArray) (t:=e) (fr:=(0,0)) (heap_alloc_new W (.cells ys.toArray e))) h1 (by simp only [maxLen];omega) hl (by simp;omega)
 unfold Oper.wp execOp
 simp only [ho,resolve,invoke,builtin,Sem.run_bind,Sem.run_pure,Result.andThen_ok,ajG,ajk,ajn,hs,hx,hr]
 refine h v1 w1 hown ((HB.alloc hbase _).grown hg (by simp;omega) (tX HO)) (World.grownBy.trans (World.grownBy_alloc W _ _) hg) ?_
 rcases hat with hat | hat
 ·exact .inl hat
 ·exact .inr ⟨_,hat,by simp⟩
end
theorem G5 {w:World} {base base':Nat} {e:TypeId} {size n:Nat} {v:Value} {xs:List Value} (h:w.ownsRow base e size v n xs) (hb:base' ≤ base):w.ownsRow base' e size v n xs:=by
 obtain ⟨h1,h2⟩:=h
 refine ⟨h1,?_⟩
 rcases h2 with h2 | ⟨g,cap,cur,rfl,hg,r⟩
 ·exact .inl h2
 ·exact .inr ⟨g,cap,cur,rfl,aju hb hg,r⟩
section
variable {α : Type} {enc:α → Value} {d:α}
def encs (enc:α → Value) (xs:List α):List Value:=xs.map enc
def zY (d:α) (xs:List α) (i:Int):α:=xs.getD i.toNat d
theorem vZ (xs:List α):(encs enc xs).length = xs.length:=by simp [encs]
theorem NZ (xs:List α) (j:Nat) (h:j < xs.length):(encs enc xs)[j]? = some (enc (xs.getD j d)):=by
 simp [encs,ajo h,ajy]
def gF (enc:α → Value) (d:α) (w:World) (A:Option Addr) (n:Nat) (xs:List α):Prop :=
 xs.length = n ∧ n ≤ 9223372036854775807 ∧ (0 < n → ∃ ad,A = some ad ∧ ∀ j,j < n → w.cell? (ad.add j) = some (enc (xs.getD j d)))
theorem gF.at_ {w:World} {A:Option Addr} {n:Nat} {xs:List α} (h:gF enc d w A n xs) (i:Int) (h0:0 ≤ i) (h1:i < n):∃ ad,A = some ad ∧ w.cell? (ad.add i.toNat) = some (enc (zY d xs i)):=by
 obtain ⟨ad,e,hc⟩:=h.2.2 (by omega)
 exact ⟨ad,e,hc _ (by omega)⟩
theorem gF.below {w w1:World} {A:Option Addr} {n:Nat} {xs:List α} (h:gF enc d w A n xs) (hb:Below w.heap.size w w1):gF enc d w1 A n xs :=
 ⟨h.1,h.2.1,fun hn=>by
  obtain ⟨ad,e,hc⟩:=h.2.2 hn
  exact ⟨ad,e,fun j hj=>nV hb (hc j hj)⟩⟩
theorem gF.Fa {w:World} {A:Option Addr} {n:Nat} {xs:List α} (h:gF enc d w A n xs) (i:Nat) (hi:i ≤ n):gF enc d w A i (xs.take i):=by
 refine ⟨by rw [ajq,h.1];omega,by have:=h.2.1;omega,fun hp=>?_⟩
 obtain ⟨ad,e,hc⟩:=h.2.2 (by omega)
 refine ⟨ad,e,fun j hj=>?_⟩
 rw [hc j (by omega)]
 simp [ajy,hj]
theorem Kq {W:World} {base g n cap:Nat} {e:TypeId} {xs:List α} (h:W.ownsRow base e 1 (.slice (some ⟨g,0,none⟩) n cap) n (encs enc xs)) (i:Int) (h0:0 ≤ i) (h1:i < n) :
  W.cell? ⟨g,i.toNat,none⟩ = some (enc (zY d xs i)) ∧ W.frozen? ⟨g,i.toNat,none⟩ = false:=by
 have hl:xs.length = n:=by have:=h.1;simp [encs] at this;exact this
 constructor
 ·have hc:=h.cells (g:=g) rfl i.toNat _ (NZ (d:=d) xs i.toNat (by omega))
  rwa [add_plain] at hc
 ·rcases h.2 with ⟨h',_⟩ | ⟨g',cap',cur,h',_,hh,_⟩
  ·cases h'
  ·have:g = g':=by injection h' with h';injection h' with h';injection h' with h'
   subst this
   simp [World.frozen?,hh]
theorem CY {W:World} {base g n cap:Nat} {e:TypeId} {xs:List α} (h:W.ownsRow base e 1 (.slice (some ⟨g,0,none⟩) n cap) n (encs enc xs)) (i:Int) (x:α) :
  (W.setCell ⟨g,i.toNat,none⟩ (enc x)).ownsRow base e 1 (.slice (some ⟨g,0,none⟩) n cap) n (encs enc (xs.set i.toNat x)) ∧ W.grownBy (W.setCell ⟨g,i.toNat,none⟩ (enc x)) (some g):=by
 have hs:=h.stored i.toNat (enc x)
 have he:(encs enc xs).set i.toNat (enc x) = encs enc (xs.set i.toNat x):=by simp [encs,akv]
 rwa [he] at hs
end
section
variable {α : Type} {P:Program} {ops:Array Oper} {rest:List Oper} {o:Oper} {a:Act} {Q:Exit → Act → World → Prop}
end
theorem aN {w:World} {g:Nat} {o:Obj} (h:w.heap[g]? = some o) (o':Obj):(w.alloc o').heap[g]? = some o:=(Below.heap_alloc w o' g (jN h)).trans h
theorem aW {w:World} {g:Nat} {o:Obj} (h:w.heap[g]? = some o):w.drew.heap[g]? = some o:=h
theorem aR {w:World} {g:Nat} {o:Obj} (h:w.heap[g]? = some o) (n:Nat):(w.drewN n).heap[g]? = some o:=h
theorem dZ {w w1:World} {g:Nat} {o:Obj} (h:w.heap[g]? = some o) (hb:Below w.heap.size w w1):w1.heap[g]? = some o:=(hb.block g (jN h)).trans h
theorem uf (w:World) (o:Obj):(w.alloc o).heap[w.heap.size]? = some o:=heap_alloc_new w o
section
variable {P : Program}
theorem kr {fn:Func} {p u:Tmp} {ty:TypeId} (h:fn.results = #[.cell p ty,.tmp u]) (tmps:Array Value) (w:World) (g:Nat) (t:TypeId) (cs:Array Value) (fr:Nat × Nat) (d:TypeDesc)
  (hp:tmps.getD p undef = .pointer (some ⟨g,0,none⟩)) (hg:w.heap[g]? = some (.cells cs t fr))
  (hu:P.underlying ty = some d) (hd:(match d with | .struct _ | .array _ _=>true | _=>false) = true) (hi:(P.info? ty).map (·.size) = some cs.size) :
  (results fn tmps).run P w = .ok (.tuple #[.agg cs,tmps.getD u undef]) w:=by
 have hp':tmps[p]?.getD undef = .pointer (some ⟨g,0,none⟩):=by simpa using hp
 simp [results,h,hp',asAddr,run_loadVar_row w g t ty cs fr d hg hu hd hi]
end
theorem Xm {w:World} {base n m c size:Nat} {e:TypeId} {A:Option Addr} {xs:List Value} (h:w.ownsRow base e size (.slice A m c) n xs):m ≤ c:=by
 rcases h.2 with ⟨he,_⟩ | ⟨g,cap,cur,he,_,_,hnc,_⟩
 ·injection he with _ h2 h3
  omega
 ·injection he with _ h2 h3
  omega
def gB {α:Type} (R:α → List Value → Prop) (e:TypeId) (size:Nat) (w:World) (base:Nat) (v:Value) (ps:List α):Prop :=
 ∃ inner,w.ownsRow base e size v ps.length inner ∧ fP R size ps inner
section
variable {α : Type} {R R':α → List Value → Prop} {e:TypeId} {size:Nat} {w w1:World} {base:Nat} {v:Value} {ps:List α}
theorem gB.none_ (R:α → List Value → Prop) (e:TypeId) (size:Nat) (w:World) (base:Nat):gB R e size w base (.slice none 0 0) []:=⟨[],R3 _ _ _ _,fP.none _ _⟩
theorem gB.zW (h:gB R e size w base v ps) (hR:∀ p c,R p c → R' p c):gB R' e size w base v ps:=by
 obtain ⟨inner,ho,hr⟩:=h
 exact ⟨inner,ho,hr.zW hR⟩
theorem gB.below (h:gB R e size w base v ps) (hb:Below w.heap.size w w1):gB R e size w1 base v ps:=by
 obtain ⟨inner,ho,hr⟩:=h
 exact ⟨inner,tY ho hb,hr⟩
theorem gB.other (h:gB R e size w base v ps) {row:Option Nat} (hg:w.grownBy w1 row) (hne:v.ownBlock = none ∨ v.ownBlock ≠ row):gB R e size w1 base v ps:=by
 obtain ⟨inner,ho,hr⟩:=h
 exact ⟨inner,Ko ho hg hne,hr⟩
theorem gB.keep (h:gB R e size w base v ps) {g:Nat} {t:TypeId} {cells:Array Value} (hb:w.heap[g]? = some (.cells cells t (0,0))) (ht:e ≠ t) (hk:iy w w1 g none):gB R e size w1 base v ps:=by
 obtain ⟨inner,ho,hr⟩:=h
 exact ⟨inner,hk.own ho (Ne.symm (own_ne ho hb ht)) (by cases v.ownBlock <;> simp),hr⟩
theorem gB.reads (h:gB R e size w base v ps):∃ A c,v = .slice A ps.length c ∧ ps.length ≤ c ∧ mP R size w A ps.length ps:=by
 obtain ⟨inner,ho,hr⟩:=h
 obtain ⟨A,c,rfl,hrow⟩:=zX ho hr rfl
 exact ⟨A,c,rfl,Xm ho,hrow⟩
theorem gB.N7 (h:gB R e size w base v ps) {g:Nat} {t:TypeId} {cells:Array Value} (hb:w.heap[g]? = some (.cells cells t (0,0))) (ht:e ≠ t):some g ≠ v.ownBlock:=by
 obtain ⟨inner,ho,hr⟩:=h
 exact own_ne ho hb ht
theorem gB.lit (W:World) (base:Nat) {inner:List Value} (hr:fP R size ps inner) (hb:base ≤ W.heap.size) (hm:ps.length ≤ 9223372036854775807) :
  gB R e size (W.alloc (.cells inner.toArray e)) base (.slice (some ⟨W.heap.size,0,none⟩) ps.length ps.length) ps:=by
 have h:=World.ownsRow_lit (base:=base) (e:=e) (size:=size) W inner.toArray ps.length hb (by simpa [maxLen] using hm) (by simpa using hr.1)
 exact ⟨inner,by simpa using h,hr⟩
end
section
variable {P : Program} {ops:Array Oper} {rest:List Oper} {o:Oper} {a:Act} {Q:Exit → Act → World → Prop} {α:Type} {R:α → List Value → Prop}
theorem gB.append {w0 W:World} (base:Nat) (hgd:o.guard = none) (s x:Operand) (t e:TypeId) (z:Value) (size bytes:Nat)
  (ho:o.op = .call { callee:=.builtin .append,args:=#[s,x],argTypes:=#[t,t] })
  (ht:P.underlying t = some (.slice e)) (hinfo:(P.info? e).map (fun i=>(i.zero,i.size,i.bytes)) = some (some z,size,bytes)) (hz:z.cells.size = size) (hs0:0 < size) (hb0:0 < bytes)
  (v:Value) (ps:List α) (p:α) (cs:List Value) (hs:a.eval s = v) (hx:a.eval x = .slice (some ⟨W.heap.size,0,none⟩) 1 1) (hp:R p cs) (hcs:cs.length = size) (h1:∀ u ∈ cs,u.oneCell' = true)
  (HO:gB R e size W base v ps) (HB:Below base w0 W) (hbase:base ≤ W.heap.size) (hl:(ps.length + 1) * bytes ≤ 140737488355328)
  (h:∀ v1 w1,gB R e size w1 base v1 (ps ++ [p]) → Below base w0 w1 → W.grownBy w1 v.ownBlock → (v1.ownBlock = v.ownBlock ∨ ∃ b,v1.ownBlock = some b ∧ W.heap.size ≤ b) → wpList P ops Q rest (a.put o.dst v1) w1) :
  wpList P ops Q (o :: rest) a (W.alloc (.cells cs.toArray e)):=by
 obtain ⟨inner,hown,hr⟩:=HO
 refine mQ base hgd s x t e z size bytes ho ht hinfo hz hs0 hb0 v ps.length inner cs hs hx hcs h1 hown HB hbase hl ?_
 intro v1 w1 hown1 hb1 hg1 G6
 exact h v1 w1 ⟨inner ++ cs,by rw [ajh,List.length_singleton];exact hown1,hr.snoc hp hcs⟩ hb1 hg1 G6
end
section
variable {P : Program} {ops:Array Oper} {o:Oper} {a:Act} {Q:Exit → Act → World → Prop} {K:Act → World → Prop} {α:Type} {R:α → List Value → Prop}
end
section
variable {α : Type} {P:Program}
theorem gF.len_ {enc:α → Value} {d:α} {w:World} {A:Option Addr} {n:Nat} {xs:List α} (h:gF enc d w A n xs):gF enc d w A xs.length xs:=by rw [h.1];exact h
end
section
variable {P : Program} {ops:Array Oper} {rest:List Oper} {o:Oper} {a:Act} {Q:Exit → Act → World → Prop}
end
structure Kd (α:Type) where
 sz:Nat
 E:List Nat
 K:World → α → List Value → Prop
 M:World → Nat → (Nat → Prop) → α → List Value → Prop
 nL:∀ {w x cs},K w x cs → cs.length = sz
 ou:∀ {w x cs},K w x cs → ∀ u ∈ cs,u.oneCell' = true
 kM:∀ {w w1:World} {x cs},Below w.heap.size w w1 → K w x cs → K w1 x cs
 iZ:∀ {w base ok x cs},M w base ok x cs → K w x cs
 jD:∀ {w base ok ok' x cs},(∀ k,ok k → ok' k) → M w base ok x cs → M w base ok' x cs
 jI:∀ {w:World} {base ok x cs},M w base ok x cs → M w base (fun k=>ok k ∧ base ≤ k ∧ k < w.heap.size ∧ ∃ q,q ∈ E ∧ ∃ cells,w.heap[k]? = some (.cells cells q (0,0))) x cs
 lu:∀ {w w1:World} {base ok x cs},(∀ k,ok k → w1.heap[k]? = w.heap[k]?) → M w base ok x cs → M w1 base ok x cs
 kN:∀ {w base base' ok x cs},base' ≤ base → M w base ok x cs → M w base' ok x cs
theorem N8 {w w1:World} {base:Nat} {e:TypeId} {size n:Nat} {v:Value} {xs:List Value} (h:w.ownsRow base e size v n xs) (hm:∀ k,v.ownBlock = some k → w1.heap[k]? = w.heap[k]?):w1.ownsRow base e size v n xs:=by
 obtain ⟨h1,h2⟩:=h
 refine ⟨h1,?_⟩
 rcases h2 with h2 | ⟨g,cap,cur,rfl,hg,hh,r⟩
 ·exact .inl h2
 ·exact .inr ⟨g,cap,cur,rfl,hg,(hm g (by simp [Value.ownBlock])).trans hh,r⟩
theorem Bd {w:World} {base:Nat} {e:TypeId} {size n:Nat} {v:Value} {xs:List Value} (h:w.ownsRow base e size v n xs) (k:Nat) (hk:v.ownBlock = some k):∃ cells,w.heap[k]? = some (.cells cells e (0,0)):=by
 rcases h.2 with ⟨rfl,_⟩ | ⟨g,cap,cur,rfl,hg,hh,r⟩
 ·simp [Value.ownBlock] at hk
 ·have:g = k:=by simpa [Value.ownBlock] using hk
  subst this
  exact ⟨cur,hh⟩
namespace Kd
def C {α:Type} (d:Kd α) (w:World) (A:Option Addr) (n:Nat) (xs:List α):Prop:=mP (d.K w) d.sz w A n xs
def R {α:Type} (d:Kd α) (e:Nat) (w:World) (base:Nat) (ok:Nat → Prop) (v:Value) (xs:List α):Prop :=
 (∀ k,v.ownBlock = some k → ok k) ∧ gB (d.M w base (fun k=>ok k ∧ some k ≠ v.ownBlock)) e d.sz w base v xs
section
variable {α : Type} {d:Kd α} {e:Nat} {w w1:World} {base:Nat} {ok ok':Nat → Prop} {v:Value} {xs:List α}
theorem ug {A:Option Addr} {n:Nat} (h:d.C w A n xs) (hb:Below w.heap.size w w1):d.C w1 A n xs:=mP.zW h hb (fun _ _ hp=>d.kM hb hp)
theorem kC (d:Kd α) (e:Nat) (w:World) (base:Nat) (ok:Nat → Prop):d.R e w base ok (.slice none 0 0) []:=⟨fun k hk=>by simp [Value.ownBlock] at hk,gB.none_ _ _ _ _ _⟩
theorem qo (h:d.R e w base ok v xs) (hok:∀ k,ok k → ok' k):d.R e w base ok' v xs:=⟨fun k hk=>hok k (h.1 k hk),h.2.zW (fun _ _ hp=>d.jD (fun k hk=>⟨hok k hk.1,hk.2⟩) hp)⟩
theorem CZ (h:d.R e w base ok v xs):d.R e w base (fun k=>ok k ∧ base ≤ k ∧ k < w.heap.size ∧ ∃ q,q ∈ e :: d.E ∧ ∃ cells,w.heap[k]? = some (.cells cells q (0,0))) v xs:=by
 obtain ⟨h0,inner,ho,hr⟩:=h
 refine ⟨fun k hk=>?_,inner,ho,hr.zW (fun _ _ hp=>d.jD (fun k hk=>?_) (d.jI hp))⟩
 ·obtain ⟨cells,hc⟩:=Bd ho k hk
  exact ⟨h0 k hk,tX ho k hk,NY ho k hk,e,akr,cells,hc⟩
 ·obtain ⟨⟨h1,h2⟩,h3,h4,q,hq,hc⟩:=hk
  exact ⟨⟨h1,h3,h4,q,ajY _ hq,hc⟩,h2⟩
theorem N9 (h:d.R e w base ok v xs) (hm:∀ k,ok k → w1.heap[k]? = w.heap[k]?):d.R e w1 base ok v xs:=by
 obtain ⟨h0,inner,ho,hr⟩:=h
 exact ⟨h0,inner,N8 ho (fun k hk=>hm k (h0 k hk)),hr.zW (fun _ _ hp=>d.lu (fun k hk=>hm k hk.1) hp)⟩
theorem nM {base':Nat} (h:d.R e w base ok v xs) (hb:base' ≤ base):d.R e w base' ok v xs:=by
 obtain ⟨h0,inner,ho,hr⟩:=h
 exact ⟨h0,inner,G5 ho hb,hr.zW (fun _ _ hp=>d.kN hb hp)⟩
theorem Oa (h:d.R e w base ok v xs) (hm:∀ k,ok k → k < w.heap.size → w1.heap[k]? = w.heap[k]?):d.R e w1 base ok v xs :=
 qo (N9 (CZ h) (fun k hk=>hm k hk.1 hk.2.2.1)) (fun _ hk=>hk.1)
theorem Xn {x:α} {cs:List Value} (h:d.M w base ok x cs) (hm:∀ k,ok k → k < w.heap.size → w1.heap[k]? = w.heap[k]?):d.M w1 base ok x cs :=
 d.jD (fun _ hk=>hk.1) (d.lu (fun k hk=>hm k hk.1 hk.2.2.1) (d.jI h))
theorem lD (h:d.R e w base ok v xs) (hb:Below w.heap.size w w1):d.R e w1 base ok v xs:=Oa h (fun k _ hk=>hb.block k hk)
theorem uh (h:d.R e w base ok v xs) {p:Addr} (hok:∀ k,ok k → k ≠ p.block) (u:Value):d.R e (w.setCell p u) base ok v xs:=Oa h (fun k ho _=>Below.heap_setCell w p u k (hok k ho))
theorem uj (h:d.R e w base ok v xs) {g t:Nat} {cells:Array Value} (hb:w.heap[g]? = some (.cells cells t (0,0))) (ht:∀ q,q ∈ e :: d.E → q ≠ t):d.R e w base (fun k=>ok k ∧ k ≠ g) v xs :=
 qo (CZ h) (fun k hk=>⟨hk.1,by
  obtain ⟨_,_,_,q,hq,cells',hc⟩:=hk
  rintro rfl
  rw [hc] at hb
  injection hb with hb
  injection hb with _ hb
  exact ht q hq hb⟩)
theorem Oc (h:d.R e w base ok v xs) {g t:Nat} {cells:Array Value} (hb:w.heap[g]? = some (.cells cells t (0,0))) (ht:∀ q,q ∈ e :: d.E → q ≠ t) (j:Nat) (u:Value):d.R e (w.setCell ⟨g,j,none⟩ u) base ok v xs :=
 qo (uh (p:=⟨g,j,none⟩) (uj h hb ht) (fun _ hk=>hk.2) u) (fun _ hk=>hk.1)
theorem C8 (h:d.R e w base ok v xs):∃ A c,v = .slice A xs.length c ∧ xs.length ≤ c ∧ d.C w A xs.length xs:=by
 obtain ⟨A,c,he,hl,hr⟩:=gB.reads h.2
 exact ⟨A,c,he,hl,hr.zW (Below.refl _ _) (fun _ _ hp=>d.iZ hp)⟩
theorem um (h:d.R e w base ok v xs):∃ A c,v = .slice A xs.length c:=by
 obtain ⟨A,c,he,_⟩:=C8 h
 exact ⟨A,c,he⟩
theorem Od (h:d.R e w base ok v xs):∃ inner,w.ownsRow base e d.sz v xs.length inner:=by
 obtain ⟨_,inner,ho,_⟩:=h
 exact ⟨inner,ho⟩
theorem Xo (h:d.R e w base ok v xs) {g t:Nat} {cells:Array Value} (hb:w.heap[g]? = some (.cells cells t (0,0))) (ht:e ≠ t):some g ≠ v.ownBlock:=gB.N7 h.2 hb ht
end
def scalar {α:Type} (enc:α → Value) (h1:∀ x,(enc x).oneCell' = true):Kd α where
 sz:=1
 E:=[]
 K:=fun _ x cs=>cs = [enc x]
 M:=fun _ _ _ x cs=>cs = [enc x]
 nL:=fun h=>by rw [h];rfl
 ou:=fun h u hu=>by
  rw [h] at hu
  rw [aj0.1 hu]
  exact h1 _
 kM:=fun _ h=>h
 iZ:=fun h=>h
 jD:=fun _ h=>h
 jI:=fun h=>h
 lu:=fun _ h=>h
 kN:=fun _ h=>h
def int (k:IntKind):Kd Int:=scalar (Value.int k) (fun _=>rfl)
def bool : Kd Bool:=scalar Value.bool (fun _=>rfl)
def string : Kd ByteArray:=scalar Value.string (fun _=>rfl)
def slice {α:Type} (e:Nat) (d:Kd α):Kd (List α) where
 sz:=1
 E:=e :: d.E
 K:=fun w xs cs=>∃ A c,cs = [.slice A xs.length c] ∧ xs.length ≤ c ∧ d.C w A xs.length xs
 M:=fun w base ok xs cs=>∃ v,cs = [v] ∧ d.R e w base ok v xs
 nL:=by
  rintro w x cs ⟨A,c,rfl,_⟩
  rfl
 ou:=by
  rintro w x cs ⟨A,c,rfl,_⟩ u hu
  rw [aj0.1 hu]
  rfl
 kM:=by
  rintro w w1 x cs hb ⟨A,c,rfl,hl,hr⟩
  exact ⟨A,c,rfl,hl,ug hr hb⟩
 iZ:=by
  rintro w base ok x cs ⟨v,rfl,h⟩
  obtain ⟨A,c,rfl,hl,hr⟩:=C8 h
  exact ⟨A,c,rfl,hl,hr⟩
 jD:=by
  rintro w base ok ok' x cs hok ⟨v,rfl,h⟩
  exact ⟨v,rfl,qo h hok⟩
 jI:=by
  rintro w base ok x cs ⟨v,rfl,h⟩
  exact ⟨v,rfl,CZ h⟩
 lu:=by
  rintro w w1 base ok x cs hm ⟨v,rfl,h⟩
  exact ⟨v,rfl,N9 h hm⟩
 kN:=by
  rintro w base base' ok x cs hb ⟨v,rfl,h⟩
  exact ⟨v,rfl,nM h hb⟩
def bot {α:Type} (sz:Nat) (E:List Nat):Kd α where
 sz:=sz
 E:=E
 K:=fun _ _ _=>False
 M:=fun _ _ _ _ _=>False
 nL:=fun h=>h.elim
 ou:=fun h=>h.elim
 kM:=fun _ h=>h
 iZ:=fun h=>h
 jD:=fun _ h=>h
 jI:=fun h=>h
 lu:=fun _ h=>h
 kN:=fun _ h=>h
def upto {α:Type} (F:Kd α → Kd α) (sz:Nat) (E:List Nat):Nat → Kd α
 | 0=>bot sz E
 | n + 1=>F (upto F sz E n)
def fix {α:Type} (F:Kd α → Kd α) (sz:Nat) (E:List Nat) (hs:∀ n,(upto F sz E n).sz = sz) (hE:∀ n q,q ∈ (upto F sz E n).E → q ∈ E):Kd α where
 sz:=sz
 E:=E
 K:=fun w x cs=>∃ n,(upto F sz E n).K w x cs
 M:=fun w base ok x cs=>∃ n,(upto F sz E n).M w base ok x cs
 nL:=by
  rintro w x cs ⟨n,h⟩
  rw [(upto F sz E n).nL h,hs n]
 ou:=by
  rintro w x cs ⟨n,h⟩
  exact (upto F sz E n).ou h
 kM:=by
  rintro w w1 x cs hb ⟨n,h⟩
  exact ⟨n,(upto F sz E n).kM hb h⟩
 iZ:=by
  rintro w base ok x cs ⟨n,h⟩
  exact ⟨n,(upto F sz E n).iZ h⟩
 jD:=by
  rintro w base ok ok' x cs hok ⟨n,h⟩
  exact ⟨n,(upto F sz E n).jD hok h⟩
 jI:=by
  rintro w base ok x cs ⟨n,h⟩
  refine ⟨n,(upto F sz E n).jD ?_ ((upto F sz E n).jI h)⟩
  rintro k ⟨h2,h3,h4,q,hq,hc⟩
  exact ⟨h2,h3,h4,q,hE n q hq,hc⟩
 lu:=by
  rintro w w1 base ok x cs hm ⟨n,h⟩
  exact ⟨n,(upto F sz E n).lu hm h⟩
 kN:=by
  rintro w base base' ok x cs hb ⟨n,h⟩
  exact ⟨n,(upto F sz E n).kN hb h⟩
theorem yI {α:Type} {d:Kd α} {e base:Nat} {ok Kr:Nat → Prop} {W w1:World} {v v1:Value} {xs:List α} {p:α} {inner cs:List Value} (h0:∀ k,v.ownBlock = some k → ok k) (hr:fP (d.M W base (fun k=>ok k ∧ some k ≠ v.ownBlock)) d.sz xs inner) (hp:d.M W base Kr p cs) (Oe:∀ k,Kr k → ok k ∧ some k ≠ v.ownBlock) (hfresh:∀ k,W.heap.size ≤ k → ok k)
  (hown:w1.ownsRow base e d.sz v1 (xs.length + 1) (inner ++ cs)) (hg:W.grownBy w1 v.ownBlock) (hat:v1.ownBlock = v.ownBlock ∨ ∃ b,v1.ownBlock = some b ∧ W.heap.size ≤ b):d.R e w1 base ok v1 (xs ++ [p]):=by
 have hne:∀ k,some k ≠ v.ownBlock → k < W.heap.size → some k ≠ v1.ownBlock:=by
  intro k hk hlt
  rcases hat with hat | ⟨b,hb,hle⟩
  ·rw [hat];exact hk
  ·rw [hb]
   intro he
   injection he with he
   omega
 have step:∀ {q:α} {c:List Value} {o:Nat → Prop},d.M W base o q c → (∀ k,o k → ok k ∧ some k ≠ v.ownBlock) → d.M w1 base (fun k=>ok k ∧ some k ≠ v1.ownBlock) q c:=by
  intro q c o hq ho
  have h1:=d.lu (w1:=w1) (fun k hk=>hg.block k hk.2.2.1 (ho k hk.1).2) (d.jI hq)
  exact d.jD (fun k hk=>⟨(ho k hk.1).1,hne k (ho k hk.1).2 hk.2.2.1⟩) h1
 refine ⟨fun k hk=>?_,inner ++ cs,by rw [ajh,List.length_singleton];exact hown,?_⟩
 ·rcases hat with hat | ⟨b,hb,hle⟩
  ·exact h0 k (hat ▸ hk)
  ·rw [hb] at hk
   injection hk with hk
   exact hfresh k (by omega)
 ·exact (hr.zW (fun _ _ hq=>step hq (fun _ hk=>hk))).snoc (step hp Oe) (d.nL (d.iZ hp))
section
variable {P : Program} {ops:Array Oper} {rest:List Oper} {o:Oper} {a:Act} {Q:Exit → Act → World → Prop} {α:Type}
theorem Fb (d:Kd α) {w0 W:World} (base:Nat) (hgd:o.guard = none) (s x:Operand) (t e:TypeId) (z:Value) (bytes:Nat)
  (ho:o.op = .call { callee:=.builtin .append,args:=#[s,x],argTypes:=#[t,t] })
  (ht:P.underlying t = some (.slice e)) (hinfo:(P.info? e).map (fun i=>(i.zero,i.size,i.bytes)) = some (some z,d.sz,bytes)) (hz:z.cells.size = d.sz) (hs0:0 < d.sz) (hb0:0 < bytes)
  (v:Value) (xs:List α) (p:α) (cs:List Value) (ok Kr:Nat → Prop) (hs:a.eval s = v) (hx:a.eval x = .slice (some ⟨W.heap.size,0,none⟩) 1 1) (hp:d.M W base Kr p cs) (Oe:∀ k,Kr k → ok k ∧ some k ≠ v.ownBlock) (hfresh:∀ k,W.heap.size ≤ k → ok k)
  (HO:d.R e W base ok v xs) (HB:Below base w0 W) (hbase:base ≤ W.heap.size) (hl:(xs.length + 1) * bytes ≤ 140737488355328)
  (h:∀ v1 w1,d.R e w1 base ok v1 (xs ++ [p]) → Below base w0 w1 → W.grownBy w1 v.ownBlock → (v1.ownBlock = v.ownBlock ∨ ∃ b,v1.ownBlock = some b ∧ W.heap.size ≤ b) → wpList P ops Q rest (a.put o.dst v1) w1) :
  wpList P ops Q (o :: rest) a (W.alloc (.cells cs.toArray e)):=by
 obtain ⟨h0,inner,hown,hr⟩:=HO
 refine mQ base hgd s x t e z d.sz bytes ho ht hinfo hz hs0 hb0 v xs.length inner cs hs hx (d.nL (d.iZ hp)) (d.ou (d.iZ hp)) hown HB hbase hl ?_
 intro v1 w1 hown1 hb1 hg1 G6
 exact h v1 w1 (yI h0 hr hp Oe hfresh hown1 hg1 G6) hb1 hg1 G6
end
section
variable {P : Program} {ops:Array Oper} {o:Oper} {a:Act} {Q:Exit → Act → World → Prop} {Kc:Act → World → Prop} {α:Type}
theorem zZ (d:Kd α) {w0 W:World} (base:Nat) (hw:Region.wanted o (yielded ops a.tmps) = true) (s x:Operand) (t e:TypeId) (z:Value) (bytes:Nat)
  (ho:o.op = .call { callee:=.builtin .append,args:=#[s,x],argTypes:=#[t,t] })
  (ht:P.underlying t = some (.slice e)) (hinfo:(P.info? e).map (fun i=>(i.zero,i.size,i.bytes)) = some (some z,d.sz,bytes)) (hz:z.cells.size = d.sz) (hs0:0 < d.sz) (hb0:0 < bytes)
  (v:Value) (xs:List α) (p:α) (cs:List Value) (ok Kr:Nat → Prop) (hs:a.eval s = v) (hx:a.eval x = .slice (some ⟨W.heap.size,0,none⟩) 1 1) (hp:d.M W base Kr p cs) (Oe:∀ k,Kr k → ok k ∧ some k ≠ v.ownBlock) (hfresh:∀ k,W.heap.size ≤ k → ok k)
  (HO:d.R e W base ok v xs) (HB:Below base w0 W) (hbase:base ≤ W.heap.size) (hl:(xs.length + 1) * bytes ≤ 140737488355328)
  (h:∀ v1 w1,d.R e w1 base ok v1 (xs ++ [p]) → Below base w0 w1 → W.grownBy w1 v.ownBlock → (v1.ownBlock = v.ownBlock ∨ ∃ b,v1.ownBlock = some b ∧ W.heap.size ≤ b) → Kc (a.put o.dst v1) w1) :
  if Region.wanted o (yielded ops a.tmps) = true then Oper.wp P o a (W.alloc (.cells cs.toArray e)) Kc Q else Kc (a.put o.dst undef) (W.alloc (.cells cs.toArray e)):=by
 obtain ⟨h0,inner,hown,hr⟩:=HO
 refine tZ base hw s x t e z d.sz bytes ho ht hinfo hz hs0 hb0 v xs.length inner cs hs hx (d.nL (d.iZ hp)) (d.ou (d.iZ hp)) hown HB hbase hl ?_
 intro v1 w1 hown1 hb1 hg1 G6
 exact h v1 w1 (yI h0 hr hp Oe hfresh hown1 hg1 G6) hb1 hg1 G6
end
theorem Fe {α:Type} {enc:α → Value} (xs:List α):fP (fun (x:α) (cs:List Value)=>cs = [enc x]) 1 xs (encs enc xs):=by
 refine ⟨by simp [encs],fun j p hj=>?_⟩
 obtain ⟨hl,hp⟩:=aj1.1 hj
 have hl':j < (encs enc xs).length:=by rw [vZ];exact hl
 rw [Nat.mul_one,akC hl']
 simp [encs,hp]
theorem Og {α:Type} {enc:α → Value} {h1:∀ x,(enc x).oneCell' = true} {e:Nat} {w:World} {base:Nat} {ok:Nat → Prop} {v:Value} {xs:List α} (ho:w.ownsRow base e 1 v xs.length (encs enc xs)) (hok:∀ k,v.ownBlock = some k → ok k):(scalar enc h1).R e w base ok v xs:=⟨hok,encs enc xs,ho,Fe xs⟩
theorem uo {α:Type} {enc:α → Value} {h1:∀ x,(enc x).oneCell' = true} {e:Nat} {w:World} {base:Nat} {ok:Nat → Prop} {v:Value} {xs:List α} (h:(scalar enc h1).R e w base ok v xs):w.ownsRow base e 1 v xs.length (encs enc xs):=by
 obtain ⟨_,inner,ho,hr⟩:=h
 have:inner = encs enc xs:=by
  apply akl
  intro j
  rcases ako j xs.length with hj | hj
  ·have h2:=hr.2 j _ (ajo hj)
   have hl:j < inner.length:=by have:=hr.1;simp [scalar] at this;omega
   have h3:(inner.drop (j * 1)).take 1 = [enc xs[j]]:=h2
   rw [Nat.mul_one,akC hl] at h3
   have h4:inner[j] = enc xs[j]:=by
    have h5:=ajC List.head? h3
    rw [List.take_succ_cons] at h5
    exact ajz h5
   rw [ajo hl,h4]
   simp [encs,ajo hj]
  ·have h3:inner.length = xs.length:=by have:=hr.1;simp [scalar] at this;omega
   rw [akx (by omega),akx (by rw [vZ];omega)]
 rw [← this]
 exact ho
theorem G7 {α:Type} {enc:α → Value} {d:α} {h1:∀ x,(enc x).oneCell' = true} {w:World} {A:Option Addr} {n:Nat} {xs:List α} (h:(scalar enc h1).C w A n xs):gF enc d w A n xs:=by
 refine ⟨h.1,h.2.1,fun hn=>?_⟩
 obtain ⟨ad,e,hc⟩:=h.2.2 hn
 refine ⟨ad,e,fun j hj=>?_⟩
 have hl:j < xs.length:=by have:=h.1;omega
 obtain ⟨c,_,hK,hcell⟩:=hc j _ (ajo hl)
 have hK':c = [enc xs[j]]:=hK
 subst hK'
 have:=hcell 0 _ rfl
 simpa [scalar,ajy,ajo hl] using this
end Kd
namespace Kd
section
variable {α : Type} {F:Kd α → Kd α} {sz:Nat} {E:List Nat} {hs:∀ n,(upto F sz E n).sz = sz} {hE:∀ n q,q ∈ (upto F sz E n).E → q ∈ E}
end
end Kd
namespace Kd
end Kd
namespace Kd
section
variable {α β:Type} {d:Kd α} {d':Kd β} {e e':Nat} {w w1 W:World} {base b b':Nat} {ok ok' okv oku:Nat → Prop} {v u:Value} {xs:List α} {ys:List β}
theorem gq (h:d.R e w base ok v xs) (o:Obj):d.R e (w.alloc o) base ok v xs:=lD h (ak (Below.refl _ _) o)
theorem iq (h:d.R e w base ok v xs):d.R e w.drew base ok v xs:=lD h (iL (Below.refl _ _))
theorem gT (h:d.R e w base ok v xs) (m:Nat):d.R e (w.drewN m) base ok v xs:=lD h (aj (Below.refl _ _) m)
theorem C9 {A:Option Addr} {n:Nat} (h:d.C w A n xs) (o:Obj):d.C (w.alloc o) A n xs:=ug h (ak (Below.refl _ _) o)
theorem G8 {A:Option Addr} {n:Nat} (h:d.C w A n xs):d.C w.drew A n xs:=ug h (iL (Below.refl _ _))
theorem Da {A:Option Addr} {n:Nat} (h:d.C w A n xs) (m:Nat):d.C (w.drewN m) A n xs:=ug h (aj (Below.refl _ _) m)
theorem abw (d:Kd α) (w:World):d.C w none ([]:List α).length []:=⟨rfl,by simp,fun h=>absurd h (Nat.lt_irrefl 0)⟩
theorem UE {A:Option Addr} {n:Nat} (h:d.C w A n xs):n ≤ 9223372036854775807:=h.2.1
theorem qp {A:Option Addr} {n c:Nat} (h:d.R e w base ok (.slice A n c) xs):n = xs.length ∧ n ≤ c ∧ d.C w A xs.length xs:=by
 obtain ⟨A',c',he,hl,hr⟩:=C8 h
 injection he with h1 h2 h3
 subst h1
 exact ⟨h2,by omega,hr⟩
theorem agl (h:d.R e w base ok v xs):∀ k,v.ownBlock = some k → k < w.heap.size:=by
 obtain ⟨inner,ho⟩:=Od h
 exact NY ho
theorem Xp (h:d.R e w base ok v xs):∀ k,v.ownBlock = some k → base ≤ k:=by
 obtain ⟨inner,ho⟩:=Od h
 exact tX ho
theorem Xq (h:d.R e w base ok v xs) (hp:0 < xs.length):∃ g cap,v = .slice (some ⟨g,0,none⟩) xs.length cap ∧ base ≤ g ∧ g < w.heap.size ∧ ∃ cells,w.heap[g]? = some (.cells cells e (0,0)):=by
 obtain ⟨inner,ho⟩:=Od h
 obtain ⟨g,cap,he,hb,hl⟩:=ho.form hp
 obtain ⟨cells,hc⟩:=Bd ho g (by rw [he];simp [Value.ownBlock])
 exact ⟨g,cap,he,hb,hl,cells,hc⟩
theorem E5 (hu:d'.R e' W b oku u ys):∀ k,W.heap.size ≤ k → some k ≠ u.ownBlock:=fun k hk he=>by have:=agl hu k he.symm;omega
end
section
variable {w W:World} {A:Option Addr} {n:Nat}
theorem Kt {xs:List ByteArray} (h:Kd.string.C w A n xs) (i:Int) (h0:0 ≤ i) (h1:i < n):∃ ad,A = some ad ∧ w.cell? (ad.add i.toNat) = some (.string (zY ByteArray.empty xs i)) :=
 gF.at_ (G7 (enc:=Value.string) (d:=ByteArray.empty) (h1:=fun _=>rfl) h) i h0 h1
variable {α : Type} {enc:α → Value} {h1:∀ x,(enc x).oneCell' = true} {e base g cap:Nat} {ok:Nat → Prop} {xs:List α}
theorem Oh (d:α) (h:(scalar enc h1).R e W base ok (.slice (some ⟨g,0,none⟩) xs.length cap) xs) (i:Int) (h0:0 ≤ i) (hi:i < xs.length):W.cell? ⟨g,i.toNat,none⟩ = some (enc (zY d xs i)) ∧ W.frozen? ⟨g,i.toNat,none⟩ = false:=Kq (uo h) i h0 hi
theorem abx (h:(scalar enc h1).R e W base ok (.slice (some ⟨g,0,none⟩) xs.length cap) xs) (i:Int) (x:α):(scalar enc h1).R e (W.setCell ⟨g,i.toNat,none⟩ (enc x)) base ok (.slice (some ⟨g,0,none⟩) xs.length cap) (xs.set i.toNat x) ∧ W.grownBy (W.setCell ⟨g,i.toNat,none⟩ (enc x)) (some g):=by
 obtain ⟨ho,hg⟩:=CY (uo h) i x
 exact ⟨Og (by rw [akK];exact ho) h.1,hg⟩
end
section
variable {P : Program} {ops:Array Oper} {rest:List Oper} {o:Oper} {a:Act} {Q:Exit → Act → World → Prop}
theorem Ku {W w1:World} {v:Value} (hgd:o.guard = none) (hrun:(execOp a.eval o).run P W = .ok (.value v) w1) (h:wpList P ops Q rest (a.put o.dst v) w1):wpList P ops Q (o :: rest) a W:=by
 refine wpList_plain hgd fun K hK=>?_
 unfold Oper.wp
 rw [hrun]
 exact hK _ _ h
variable {α : Type}
end
end Kd
section
variable {P : Program}
theorem Oi (t e:TypeId) (kl:IntKind) {i:TypeInfo} (ht:P.underlying t = some (.slice e)) (hi:P.info? e = some i) (size:Nat) (hsz:i.size = size) (A:Option Addr) (n c:Nat) (j:Int) (h0:0 ≤ j) (hm:j ≤ n) :
  ∀ W:World,(Instr.slice t (.slice A n c) (some (.int kl j)) none none).run P W = .ok (.slice (if c = j.toNat then A else A.map (·.add (j.toNat * size))) (n - j.toNat) (c - j.toNat)) W:=by
 intro W
 have hel:P.elem t = e:=by simp [Program.elem,ht]
 have hu:P.underlying t = some (.slice (P.elem t)):=by rw [hel];exact ht
 rw [run_slice_l W t A n c hu kl j h0 hm,hel]
 simp [sizeOf,typeInfo,hi,hsz,sliced,Result.andThen]
end
def aby (w:World) (base:Nat) (e:TypeId) (size:Nat) (v:Value) (n:Nat) (xs:List Value):Prop :=
 xs.length = n * size ∧
 ((n = 0 ∧ ∃ A,v = .slice A 0 0 ∧ ∀ a,A = some a → base ≤ a.block ∧ ∃ cur,w.heap[a.block]? = some (.cells cur e (0,0))) ∨
 ∃ g off cap cur,v = .slice (some ⟨g,off * size,none⟩) n cap ∧ base ≤ g ∧ w.heap[g]? = some (.cells cur e (0,0)) ∧ n ≤ cap ∧ off + cap ≤ maxLen ∧ cur.size = (off + cap) * size ∧ (cur.toList.drop (off * size)).take (n * size) = xs)
section
variable {w w1:World} {base n size:Nat} {e:TypeId} {v:Value} {xs:List Value}
theorem Oj (h:w.ownsRow base e size v n xs):aby w base e size v n xs:=by
 obtain ⟨h1,h2⟩:=h
 refine ⟨h1,?_⟩
 rcases h2 with ⟨rfl,h0⟩ | ⟨g,cap,cur,rfl,hb,hh,hnc,hcm,hcs,ht⟩
 ·exact .inl ⟨h0,none,rfl,fun a ha=>by cases ha⟩
 ·exact .inr ⟨g,0,cap,cur,by rw [akg],hb,hh,hnc,by rw [ajD];exact hcm,by rw [ajD];exact hcs,by rw [akg,aj9];exact ht⟩
end
section
variable {P : Program}
end
namespace Kd
def Q {α:Type} (d:Kd α) (e:Nat) (w:World) (base:Nat) (ok:Nat → Prop) (v:Value) (xs:List α):Prop :=
 (∀ k,v.ownBlock = some k → ok k) ∧ ∃ inner,aby w base e d.sz v xs.length inner ∧ fP (d.M w base (fun k=>ok k ∧ some k ≠ v.ownBlock)) d.sz xs inner
section
variable {α : Type} {d:Kd α} {e:Nat} {w w1 W:World} {base:Nat} {ok ok':Nat → Prop} {v:Value} {xs:List α}
theorem Xr (h:d.R e w base ok v xs):d.Q e w base ok v xs:=by
 obtain ⟨h0,inner,ho,hr⟩:=h
 exact ⟨h0,inner,Oj ho,hr⟩
theorem mR (d:Kd α) (e:Nat) (w:World) (base:Nat) (ok:Nat → Prop):d.Q e w base ok (.slice none 0 0) []:=Xr (kC d e w base ok)
end
section
variable {P : Program} {ops:Array Oper} {rest:List Oper} {o:Oper} {a:Act} {Q':Exit → Act → World → Prop} {Kc:Act → World → Prop} {α:Type}
end
end Kd
namespace Kd
section
variable {α : Type} {d:Kd α} {e e':Nat} {w w1 W:World} {base:Nat} {ok:Nat → Prop} {u v:Value} {xs:List α}
end
end Kd
namespace Kd
section
variable {α : Type} {d:Kd α} {e base g n cap:Nat} {ok Kr:Nat → Prop} {W:World} {xs:List α}
end
end Kd
namespace Kd
section
variable {α : Type} {F:Kd α → Kd α} {sz:Nat} {E:List Nat} {hs:∀ n,(upto F sz E n).sz = sz} {hE:∀ n q,q ∈ (upto F sz E n).E → q ∈ E}
end
end Kd
namespace Kd
section
variable {P : Program} {ops:Array Oper} {rest:List Oper} {o:Oper} {a:Act} {Q:Exit → Act → World → Prop} {α:Type}
end
end Kd
namespace Kd
section
variable {P : Program} {ops:Array Oper} {rest:List Oper} {o:Oper} {a:Act} {Q:Exit → Act → World → Prop} {α:Type}
end
end Kd
theorem add_add (a:Addr) (i j:Nat):(a.add i).add j = a.add (i + j):=by
 unfold Addr.add
 by_cases h1:i = 0 <;> by_cases h2:j = 0 <;> simp [h1,h2,Nat.add_assoc]
namespace Kd
section
variable {α : Type} {k:Kd α} {w:World} {A:Option Addr} {xs:List α} {m c:Nat}
theorem Xt (h:k.C w A xs.length xs) (hm:m ≤ xs.length) (hc:xs.length ≤ c):k.C w (if c = m then A else A.map (·.add (m * k.sz))) (xs.drop m).length (xs.drop m):=by
 have hl:(xs.drop m).length = xs.length - m:=ajA
 refine ⟨rfl,by rw [hl];have:=h.2.1;omega,fun hp=>?_⟩
 rw [hl] at hp
 obtain ⟨ad,rfl,hcell⟩:=h.2.2 (by omega)
 rw [ai9 (by omega)]
 refine ⟨ad.add (m * k.sz),rfl,fun j p hj=>?_⟩
 rw [aj3] at hj
 obtain ⟨cs,h1,h2,h3⟩:=hcell (m + j) p hj
 refine ⟨cs,h1,h2,fun i u hu=>?_⟩
 rw [add_add,show m * k.sz + (j * k.sz + i) = (m + j) * k.sz + i by rw [akE];omega]
 exact h3 i u hu
end
end Kd
section
variable {P : Program}
end
theorem dB {w W:World} (h:Below w.heap.size w W):w.heap.size ≤ W.heap.size:=h.size
theorem bL {w W w2:World} (h:Below w.heap.size w W) (k:Below W.heap.size W w2):Below w.heap.size w w2:=GZ h h.size k
theorem gL.nil (W:World) (k:IntKind):gL W k none ([]:List Int).length []:=⟨rfl,by simp,fun h=>absurd h (Nat.lt_irrefl 0)⟩
theorem gL.drewN {W:World} {k:IntKind} {A:Option Addr} {n:Nat} {xs:List Int} (h:gL W k A n xs) (m:Nat):gL (W.drewN m) k A n xs:=h
theorem aZ {w W:World} {g j:Nat} {v:Value} (h:Below w.heap.size w W) (hg:w.heap.size ≤ g):Below w.heap.size w (W.setCell ⟨g,j,none⟩ v):=h.setCell hg _
theorem Bf {w W:World} {g:Nat} (h:iy w W g none) {a:Addr} {v:Value} (hc:w.cell? a = some v) (hne:a.block ≠ g):W.cell? a = some v:=by
 have:=h.2 a.block (World.block_lt_of_cell? w a hc) hne (by simp)
 simpa [World.cell?,this] using hc
theorem add_block (a:Addr) (i:Nat):(a.add i).block = a.block:=by unfold Addr.add;split <;> rfl
theorem gF.nil {α:Type} (enc:α → Value) (d:α) (W:World):gF enc d W none ([]:List α).length []:=⟨rfl,by simp,fun h=>absurd h (Nat.lt_irrefl 0)⟩
theorem gF.drewN {α:Type} {enc:α → Value} {d:α} {W:World} {A:Option Addr} {n:Nat} {xs:List α} (h:gF enc d W A n xs) (m:Nat):gF enc d (W.drewN m) A n xs:=h
theorem gL.keep {w W:World} {k:IntKind} {A:Option Addr} {n g:Nat} {xs:List Int} (h:gL w k A n xs) (hk:iy w W g none) (hf:∀ ad,A = some ad → 0 < n → ad.block ≠ g):gL W k A n xs :=
 ⟨h.1,h.2.1,fun hn=>by
  obtain ⟨ad,e,hc⟩:=h.2.2 hn
  exact ⟨ad,e,fun j hj=>Bf hk (hc j hj) (by rw [add_block];exact hf ad e hn)⟩⟩
theorem gF.keep {α:Type} {enc:α → Value} {d:α} {w W:World} {A:Option Addr} {n g:Nat} {xs:List α} (h:gF enc d w A n xs) (hk:iy w W g none) (hf:∀ ad,A = some ad → 0 < n → ad.block ≠ g):gF enc d W A n xs :=
 ⟨h.1,h.2.1,fun hn=>by
  obtain ⟨ad,e,hc⟩:=h.2.2 hn
  exact ⟨ad,e,fun j hj=>Bf hk (hc j hj) (by rw [add_block];exact hf ad e hn)⟩⟩
theorem cell_far {W:World} {p a:Addr} (h:a.block ≠ p.block) (u:Value):(W.setCell p u).cell? a = W.cell? a:=by
 have:=Below.heap_setCell W p u a.block h
 simp [World.cell?,this]
theorem iA {w:World} {g:Nat} {t:TypeId} {cs cs':Array Value} (h:w.heap[g]? = some (.cells cs t (0,0))) (i:Nat) (u:Value) (e:cs.setIfInBounds i u = cs'):(w.setCell ⟨g,i,none⟩ u).heap[g]? = some (.cells cs' t (0,0)):=e ▸ R4 h i u
theorem tq {W:World} {base n c:Nat} {e:TypeId} {size g:Nat} {ad:Addr} {xs:List Value} (_:W.ownsRow base e size (.slice (some ad) n c) n xs) (hne:some g ≠ (Value.slice (some ad) n c).ownBlock):ad.block ≠ g:=by
 rintro rfl
 exact hne (by simp [Value.ownBlock])
theorem au {base:Nat} {w W:World} (h:Below base w W):Below base w W.drew:=h.drew
namespace Kd
section
variable {α β:Type} {d:Kd α} {d':Kd β} {e e' base base' n:Nat} {ok ok':Nat → Prop} {w W w1 W1:World} {v u:Value} {xs:List α} {ys:List β} {A:Option Addr} {c:Nat}
theorem tq {ad:Addr} {g:Nat} (hne:some g ≠ (Value.slice (some ad) n c).ownBlock):ad.block ≠ g:=by
 rintro rfl
 exact hne (by simp [Value.ownBlock])
end
section
variable {α : Type} {enc:α → Value} {h1:∀ x,(enc x).oneCell' = true} {w W:World} {A:Option Addr} {n g:Nat} {xs:List α}
end
end Kd
namespace Kd
section
variable {α : Type} {d:Kd α} {e base g:Nat} {ok:Nat → Prop} {w w1:World} {v:Value} {xs:List α} {o:Obj}
end
end Kd
section
variable {P : Program} {ops:Array Oper} {rest:List Oper} {o:Oper} {a:Act} {Q:Exit → Act → World → Prop}
theorem lC {W:World} (hgd:o.guard = none) {N:Tmp} (_hd:o.dst = some N) {cs:Array Value} {t:TypeId}
  (hrun:(execOp a.eval o).run P W = .ok (.value (.pointer (some ⟨W.heap.size,0,none⟩))) (W.alloc (.cells cs t (0,0))))
  (h:∀ g,g = W.heap.size → ∀ w1,w1.heap[g]? = some (.cells cs t (0,0)) → Below W.heap.size W w1 → wpList P ops Q rest (a.put o.dst (.pointer (some ⟨g,0,none⟩))) w1):wpList P ops Q (o :: rest) a W :=
 Kd.Ku hgd hrun (h _ rfl _ (uf W _) (ak (Below.refl _ _) _))
end
namespace Kd
section
variable {α : Type} {enc:α → Value} {h1:∀ x,(enc x).oneCell' = true} {e base g n cap:Nat} {ok:Nat → Prop} {W:World} {xs:List α}
theorem Db (d:α) (h:(scalar enc h1).R e W base ok (.slice (some ⟨g,0,none⟩) n cap) xs) (i:Int) (h0:0 ≤ i) (hi:i < n):W.cell? ⟨g,i.toNat,none⟩ = some (enc (zY d xs i)) ∧ W.frozen? ⟨g,i.toNat,none⟩ = false:=by
 obtain ⟨rfl,_⟩:=qp h
 exact Oh d h i h0 hi
end
end Kd
section
variable {P : Program} {ops:Array Oper} {rest:List Oper} {o:Oper} {a:Act} {Q:Exit → Act → World → Prop}
end
namespace Kd
section
variable {α : Type} {enc:α → Value} {h1:∀ x,(enc x).oneCell' = true} {e base g n cap:Nat} {ok:Nat → Prop} {W:World} {xs:List α}
theorem Xu (h:(scalar enc h1).R e W base ok (.slice (some ⟨g,0,none⟩) n cap) xs) (i:Int) (x:α):(scalar enc h1).R e (W.setCell ⟨g,i.toNat,none⟩ (enc x)) base ok (.slice (some ⟨g,0,none⟩) n cap) (xs.set i.toNat x) ∧ W.grownBy (W.setCell ⟨g,i.toNat,none⟩ (enc x)) (some g):=by
 obtain ⟨rfl,_⟩:=qp h
 exact abx h i x
end
end Kd
section
variable {P : Program} {ops:Array Oper} {rest:List Oper} {o:Oper} {a:Act} {Q:Exit → Act → World → Prop} {W:World}
theorem mU {N:Tmp} (_hN:o.dst = some N) (h:wpList P ops Q (o :: rest) a W):wpList P ops Q (o :: rest) a W:=h
end
section
variable {P : Program} {ops:Array Oper} {o:Oper} {a:Act} {Q:Exit → Act → World → Prop} {Kc:Act → World → Prop}
namespace Kd
variable {α : Type}
end Kd
end
section
variable {P : Program} {tmps:Array Value} {w:World}
end
namespace Kd
section
variable {P : Program} {α:Type}
end
section
variable {P : Program} {ops:Array Oper} {rest:List Oper} {o:Oper} {a:Act} {Q:Exit → Act → World → Prop} {Kc:Act → World → Prop} {α:Type}
end
end Kd
end Go.Proofs.YtfokaoeinpnagaaGreatW.aX
namespace Go.Proofs.YtfokaoeinpnagaaGreatW.dL
section
variable {P : Program} {ops:Array Oper} {Q:Exit → Act → World → Prop} {md:Region.Mode} {S:World → Prop} {ds:List Nat}
def Region.lU (md:Region.Mode) (ops:Array Oper) (i:Nat):Nat → Nat → Bool
 | 0,_=>false
 | fuel + 1,d=>match ops[d]? with
  | some o=>o.after.any fun e=>Region.binds md e && (e.on == i || Region.lU md ops i fuel e.on)
  | none=>false
def Region.uq (md:Region.Mode) (ops:Array Oper) (listed:Array Bool):Bool :=
 (List.range ops.size).all fun j=>!listed.getD j false || match ops[j]? with
  | some o=>o.after.all fun e=>!Region.binds md e || listed.getD e.on false
  | none=>true
def Region.lastB (md:Region.Mode) (ops:Array Oper) (listed:Array Bool) (ds:List Nat) (i:Nat):Bool :=
 ds.all fun d=>listed.getD d true || Region.lU md ops i ops.size d
def jc (md:Region.Mode) (ops:Array Oper) (listed:Array Bool):Prop :=
 ∀ j oj,ops[j]? = some oj → listed.getD j false = true → ∀ e ∈ oj.after,Region.binds md e = true → listed.getD e.on false = true
theorem Region.Dc {listed:Array Bool} (h:Region.uq md ops listed = true):jc md ops listed:=by
 intro j oj hj hl e he hb
 have hlt:j < ops.size:=(ake.1 hj).1
 have h1:=ajp.1 h j (ajL.2 hlt)
 simp only [hl,hj,akG,Bool.false_or] at h1
 have h2:=Array.all_eq_true_iff_forall_mem.1 h1 e he
 simpa [hb] using h2
theorem jc.set {listed:Array Bool} {i:Nat} (h:jc md ops listed) (hi:i ∈ Region.ready md ops listed):jc md ops (listed.setIfInBounds i true):=by
 obtain ⟨_,oi,hoi,hall⟩:=mem_ready.1 hi
 intro j oj hj hl e he hb
 by_cases hij:i = j
 ·subst hij
  have:oj = oi:=ajz (hj.symm.trans hoi)
  subst this
  exact getD_set_true (hall e he hb)
 ·rw [getD_set_ne false hij] at hl
  exact getD_set_true (h j oj hj hl e he hb)
theorem Region.uw {listed:Array Bool} {i:Nat} (hc:jc md ops listed):∀ (fuel d:Nat),Region.lU md ops i fuel d = true → listed.getD d false = true → listed.getD i false = true
 | 0,_,h,_=>by simp [Region.lU] at h
 | fuel + 1,d,h,hl=>by
  unfold Region.lU at h
  cases ho:ops[d]? with
  | none=>rw [ho] at h;simp at h
  | some o =>
   rw [ho] at h
   obtain ⟨e,he,h1⟩:=Array.any_eq_true'.1 h
   simp only [ajg,aj4,ajI] at h1
   have hle:=hc d o ho hl e he h1.1
   rcases h1.2 with h2 | h2
   ·rw [← h2];exact hle
   ·exact Region.uw hc fuel e.on h2 hle
theorem Region.wO {listed:Array Bool} {i d fuel:Nat} (hc:jc md ops listed) (hr:Region.lU md ops i fuel d = true) (hun:listed.getD i true = false):d ∉ Region.ready md ops listed:=by
 intro hd
 obtain ⟨_,o,ho,hall⟩:=mem_ready.1 hd
 have hi:listed.getD i false = true:=by
  cases fuel with
  | zero=>simp [Region.lU] at hr
  | succ n =>
   unfold Region.lU at hr
   rw [ho] at hr
   obtain ⟨e,he,h1⟩:=Array.any_eq_true'.1 hr
   simp only [ajg,aj4,ajI] at h1
   have hle:=hall e he h1.1
   rcases h1.2 with h2 | h2
   ·rw [← h2];exact hle
   ·exact Region.uw hc n e.on h2 hle
 rcases ako i listed.size with h' | h'
 ·simp [h'] at hun hi
  rw [hun] at hi
  cases hi
 ·simp [akh h'] at hun
def dx (P:Program) (md:Region.Mode) (ops:Array Oper) (Q:Exit → Act → World → Prop) (S:World → Prop) (ds:List Nat):Nat → Array Bool → Act → World → Prop
 | 0,listed,a,w=>Region.ready md ops listed = [] ∧ Q .normal a w
 | fuel + 1,listed,a,w =>
  (Region.ready md ops listed = [] → Q .normal a w) ∧
  ∀ i ∈ Region.ready md ops listed,wpOp P ops Q i (fun a' w'=>(i ∉ ds → S w → S w') ∧ dx P md ops Q S ds fuel (listed.setIfInBounds i true) a' w') a w
theorem rM : ∀ (fuel:Nat) (listed:Array Bool) (a:Act) (w:World),dx P md ops Q S ds fuel listed a w → wpAny P md ops Q fuel listed a w
 | 0,_,_,_,h=>h
 | fuel + 1,_,_,_,h=>⟨h.1,fun i hi=>wpOp_mono (fun a' w' h'=>rM fuel _ a' w' h'.2) (h.2 i hi)⟩
theorem wP {i:Nat} {oi:Oper} {v:Value} (hi:ops[i]? = some oi) (hsel:∀ (j:Nat) (o:Oper) cs b,ops[j]? = some o → o.op ≠ .select cs b)
  (hQ:∀ c a w,Q (.panic c) (a.put oi.dst v) w → Q (.panic c) a w) (n:Nat) :
  ∀ (fuel:Nat) (listed:Array Bool) (a:Act) (w:World),
   (∀ j oj,ops[j]? = some oj → j ≠ i → listed.getD j true = false → (∀ e ∈ oj.after,Region.binds md e = true → e.on ≠ i) → oi.apart ops oj = true) →
   jc md ops listed → (∀ d ∈ ds,listed.getD d true = false → Region.lU md ops i n d = true) →
   i ∈ Region.ready md ops listed → YieldsIf P ops S oi v a → S w →
   dx P md ops Q S ds fuel (listed.setIfInBounds i true) (a.put oi.dst v) w → dx P md ops Q S ds (fuel + 1) listed a w:=by
 intro fuel
 induction fuel with
 | zero =>
  intro listed a w _ _ _ hr hy hS H
  refine ⟨fun h=>(by rw [h] at hr;cases hr),fun j hj=>?_⟩
  by_cases hji:j = i
  ·subst hji;exact hy.wpOp hi hS ⟨fun _ h=>h,H⟩
  ·have:=ready_mono hj hji
   rw [H.1] at this
   cases this
 | succ fuel ih =>
  intro listed a w hfree hc hd hr hy hS H
  refine ⟨fun h=>(by rw [h] at hr;cases hr),fun j hj=>?_⟩
  by_cases hji:j = i
  ·subst hji;exact hy.wpOp hi hS ⟨fun _ h=>h,H⟩
  ·have h1:=H.2 j (ready_mono hj hji)
   obtain ⟨hjun,oj,hoj,hall⟩:=mem_ready.1 hj
   have Kv:=(mem_ready.1 hr).1
   have hnot:∀ e ∈ oj.after,Region.binds md e = true → e.on ≠ i:=fun e he hb heq=>by
    have h1:=hall e he hb
    rw [heq] at h1
    rcases ako i listed.size with h' | h'
    ·simp [h'] at Kv h1;rw [Kv] at h1;cases h1
    ·simp [akh h'] at h1
   have hjd:j ∉ ds:=fun hm=>Region.wO hc (hd j hm hjun) Kv hj
   have h2:=wpOp_putIf hoj (hfree j oj hoj hji hjun hnot) (fun cs b=>hsel i oi cs b hi) (fun cs b=>hsel j oj cs b hoj) hQ hy h1
   have hfree':∀ k ok,ops[k]? = some ok → k ≠ i → (listed.setIfInBounds j true).getD k true = false →
     (∀ e ∈ ok.after,Region.binds md e = true → e.on ≠ i) → oi.apart ops ok = true:=fun k ok hk hki hun hno=>by
    refine hfree k ok hk hki ?_ hno
    by_cases hjk:j = k
    ·subst hjk;exact hjun
    ·rw [getD_set_ne true hjk] at hun;exact hun
   have hd':∀ d ∈ ds,(listed.setIfInBounds j true).getD d true = false → Region.lU md ops i n d = true:=fun d hm hun=>by
    refine hd d hm ?_
    by_cases hjk:j = d
    ·subst hjk;exact hjun
    ·rw [getD_set_ne true hjk] at hun;exact hun
   refine wpOp_mono (fun a' w' h3=>⟨h3.2.1,ih (listed.setIfInBounds j true) a' w' hfree' (hc.set hj) hd' (ready_mono hr (Ne.symm hji)) h3.1 (h3.2.1 hjd hS) ?_⟩) h2
   rw [Array.setIfInBounds_comm _ _ hji]
   exact h3.2.2
theorem z8 {i:Nat} {oi:Oper} {v:Value} (hi:ops[i]? = some oi) (hsel:∀ (j:Nat) (o:Oper) cs b,ops[j]? = some o → o.op ≠ .select cs b)
  (hQ:∀ c a w,Q (.panic c) (a.put oi.dst v) w → Q (.panic c) a w) :
  ∀ (fuel:Nat) (listed:Array Bool) (a:Act) (w:World),
   (∀ j oj,ops[j]? = some oj → j ≠ i → listed.getD j true = false → (∀ e ∈ oj.after,Region.binds md e = true → e.on ≠ i) → oi.apart ops oj = true) →
   i ∈ Region.ready md ops listed → Yields P ops oi v a →
   dx P md ops Q S ds fuel (listed.setIfInBounds i true) (a.put oi.dst v) w → dx P md ops Q S ds (fuel + 1) listed a w:=by
 intro fuel
 induction fuel with
 | zero =>
  intro listed a w _ hr hy H
  refine ⟨fun h=>(by rw [h] at hr;cases hr),fun j hj=>?_⟩
  by_cases hji:j = i
  ·subst hji;exact (hy.yieldsIf (S:=fun _=>True)).wpOp hi trivial ⟨fun _ h=>h,H⟩
  ·have:=ready_mono hj hji
   rw [H.1] at this
   cases this
 | succ fuel ih =>
  intro listed a w hfree hr hy H
  refine ⟨fun h=>(by rw [h] at hr;cases hr),fun j hj=>?_⟩
  by_cases hji:j = i
  ·subst hji;exact (hy.yieldsIf (S:=fun _=>True)).wpOp hi trivial ⟨fun _ h=>h,H⟩
  ·have h1:=H.2 j (ready_mono hj hji)
   obtain ⟨hjun,oj,hoj,hall⟩:=mem_ready.1 hj
   have Kv:=(mem_ready.1 hr).1
   have hnot:∀ e ∈ oj.after,Region.binds md e = true → e.on ≠ i:=fun e he hb heq=>by
    have h1:=hall e he hb
    rw [heq] at h1
    rcases ako i listed.size with h' | h'
    ·simp [h'] at Kv h1;rw [Kv] at h1;cases h1
    ·simp [akh h'] at h1
   have h2:=wpOp_put hoj (hfree j oj hoj hji hjun hnot) (fun cs b=>hsel i oi cs b hi) (fun cs b=>hsel j oj cs b hoj) hQ hy h1
   have hfree':∀ k ok,ops[k]? = some ok → k ≠ i → (listed.setIfInBounds j true).getD k true = false →
     (∀ e ∈ ok.after,Region.binds md e = true → e.on ≠ i) → oi.apart ops ok = true:=fun k ok hk hki hun hno=>by
    refine hfree k ok hk hki ?_ hno
    by_cases hjk:j = k
    ·subst hjk;exact hjun
    ·rw [getD_set_ne true hjk] at hun;exact hun
   refine wpOp_mono (fun a' w' h3=>⟨h3.2.1,ih (listed.setIfInBounds j true) a' w' hfree' (ready_mono hr (Ne.symm hji)) h3.1 ?_⟩) h2
   rw [Array.setIfInBounds_comm _ _ hji]
   exact h3.2.2
theorem yJ {i:Nat} {oi:Oper} {v:Value} {fuel:Nat} {listed:Array Bool} {a:Act} {w:World} (hi:ops[i]? = some oi)
  (hs:Region.noSelect ops = true) (hf:Region.free md ops listed i = true) (hr:(Region.ready md ops listed).contains i = true)
  (hc:Region.uq md ops listed = true) (hl:Region.lastB md ops listed ds i = true)
  (hQ:∀ c a w,Q (.panic c) (a.put oi.dst v) w → Q (.panic c) a w) (hy:YieldsIf P ops S oi v a) (hS:S w)
  (h:dx P md ops Q S ds fuel (listed.setIfInBounds i true) (a.put oi.dst v) w):dx P md ops Q S ds (fuel + 1) listed a w :=
 wP hi (Region.noSelect_spec hs) hQ ops.size fuel listed a w (Region.free_spec hi hf) (Region.Dc hc)
  (fun d hm hun=>by have:=ajp.1 hl d hm;rw [hun] at this;simpa using this) (by simpa using hr) hy hS h
theorem Aa {rs:List Nat} {fuel:Nat} {listed:Array Bool} {a:Act} {w:World} (hr:Region.ready md ops listed = rs) (hne:rs ≠ [])
  (h:∀ i ∈ rs,wpOp P ops Q i (fun a' w'=>(i ∉ ds → S w → S w') ∧ dx P md ops Q S ds fuel (listed.setIfInBounds i true) a' w') a w):dx P md ops Q S ds (fuel + 1) listed a w :=
 ⟨fun h0=>absurd (hr ▸ h0) hne,hr ▸ h⟩
theorem yK {listed:Array Bool} {a:Act} {w:World} (hr:Region.ready md ops listed = []) (h:Q .normal a w) :
  ∀ fuel,dx P md ops Q S ds fuel listed a w
 | 0=>⟨hr,h⟩
 | _ + 1=>⟨fun _=>h,by rw [hr];simp⟩
theorem yL {id:Nat} {a:Act} {w:World} (hm:P.follows .mixedOrders = true)
  (h:dx P .any ops Q S ds ops.size (Array.replicate ops.size false) a { w with drawn:=w.drawn + 1 }):(Code.region id ops true).wp P Q a w :=
 wp_region_any hm (rM _ _ _ _ h)
end
section
variable {P : Program} {ops:Array Oper} {Q:Exit → Act → World → Prop} {md:Region.Mode} {S:World → Prop} {ds:List Nat}
def kD (P:Program) (md:Region.Mode) (ops:Array Oper) (Q:Exit → Act → World → Prop) (S:World → Prop) (ds:List Nat) (fuel:Nat) (listed:Array Bool) (a:Act) (w:World) (rs:List Nat):Prop :=
 ∀ i ∈ rs,wpOp P ops Q i (fun a' w'=>(i ∉ ds → S w → S w') ∧ dx P md ops Q S ds fuel (listed.setIfInBounds i true) a' w') a w
theorem kD.nil {fuel:Nat} {listed:Array Bool} {a:Act} {w:World}:kD P md ops Q S ds fuel listed a w []:=fun _ h=>by cases h
theorem kD.cons {fuel:Nat} {listed:Array Bool} {a:Act} {w:World} {i:Nat} {o:Oper} {rs:List Nat} (ho:ops[i]? = some o) (hd:i ∉ ds)
  (h:∀ K':Act → World → Prop,Shut (∀ a w,S w → (S w → dx P md ops Q S ds fuel (listed.setIfInBounds i true) a w) → K' a w) → if Region.wanted o (yielded ops a.tmps) = true then Oper.wp P o a w K' Q else K' (a.put o.dst undef) w)
  (hs:kD P md ops Q S ds fuel listed a w rs):kD P md ops Q S ds fuel listed a w (i :: rs):=fun j hj=>by
 rcases ajr.1 hj with rfl | hj
 ·exact wpOp_step ho (fun K' hK=>h K' (fun a w hS hW=>hK a w ⟨fun _ _=>hS,hW hS⟩))
 ·exact hs j hj
theorem wQ {rs:List Nat} {fuel:Nat} {listed:Array Bool} {a:Act} {w:World} (hr:Region.ready md ops listed = rs) (hne:rs ≠ [])
  (h:kD P md ops Q S ds fuel listed a w rs):dx P md ops Q S ds (fuel + 1) listed a w:=Aa hr hne h
theorem Ol {id n:Nat} {a:Act} {w:World} (l:Array Bool) (hm:P.follows .mixedOrders = true) (hn:ops.size = n) (hl:Array.replicate n false = l) (hS:S w.drew)
  (h:S w.drew → dx P .any ops Q S ds n l a w.drew):(Code.region id ops true).wp P Q a w:=by
 subst hn
 subst hl
 exact yL hm (h hS)
def takeB (md:Region.Mode) (ops:Array Oper) (ds:List Nat) (l l':Array Bool) (i:Nat):Bool :=
 Region.noSelect ops && Region.free md ops l i && (Region.ready md ops l).contains i && Region.uq md ops l && Region.lastB md ops l ds i && (l.setIfInBounds i true == l')
theorem Fa {i:Nat} {N:Option Tmp} {oi:Oper} {v:Value} {fuel:Nat} {l:Array Bool} {a:Act} {w:World} (l':Array Bool) (hi:ops[i]? = some oi) (hN:oi.dst = N) (hc:takeB md ops ds l l' i = true)
  (hQ:∀ c a w,Q (.panic c) (a.put oi.dst v) w → Q (.panic c) a w) (hy:YieldsIf P ops S oi v a) (hS:S w) {a':Act} (ha:a.put N v = a')
  (h:dx P md ops Q S ds fuel l' a' w):dx P md ops Q S ds (fuel + 1) l a w:=by
 subst ha
 subst hN
 simp only [takeB,ajg,ajI] at hc
 obtain ⟨⟨⟨⟨⟨h1,h2⟩,h3⟩,h4⟩,h5⟩,h6⟩:=hc
 subst h6
 exact yJ hi h1 h2 h3 h4 h5 hQ hy hS h
def R5 (md:Region.Mode) (ops:Array Oper) (l l':Array Bool) (i:Nat):Bool :=
 Region.noSelect ops && Region.free md ops l i && (Region.ready md ops l).contains i && (l.setIfInBounds i true == l')
theorem lX {i:Nat} {N:Option Tmp} {oi:Oper} {v:Value} {fuel:Nat} {l:Array Bool} {a:Act} {w:World} (l':Array Bool) (hi:ops[i]? = some oi) (hN:oi.dst = N) (hc:R5 md ops l l' i = true)
  (hQ:∀ c a w,Q (.panic c) (a.put oi.dst v) w → Q (.panic c) a w) (hy:Yields P ops oi v a) {a':Act} (ha:a.put N v = a')
  (h:dx P md ops Q S ds fuel l' a' w):dx P md ops Q S ds (fuel + 1) l a w:=by
 subst ha
 subst hN
 simp only [R5,ajg,ajI] at hc
 obtain ⟨⟨⟨h1,h2⟩,h3⟩,h6⟩:=hc
 subst h6
 exact z8 hi (Region.noSelect_spec h1) hQ fuel l a w (Region.free_spec hi h2) (by simpa using h3) hy h
def Df (md:Region.Mode) (ops:Array Oper) (l l':Array Bool) (i:Nat):Bool:=(Region.ready md ops l == [i]) && (l.setIfInBounds i true == l')
theorem Xv {i:Nat} {N:Option Tmp} {oi:Oper} {fuel:Nat} {l:Array Bool} {a:Act} {w:World} (l':Array Bool) (hi:ops[i]? = some oi) (hN:oi.dst = N) (hc:Df md ops l l' i = true) (hd:i ∉ ds)
  (h:∀ K:Act → World → Prop,Shut (∀ a' w',S w' → (S w' → dx P md ops Q S ds fuel l' a' w') → K a' w') → if Region.wanted oi (yielded ops a.tmps) = true then Oper.wp P oi a w K Q else K (a.put N undef) w) :
  dx P md ops Q S ds (fuel + 1) l a w:=by
 subst hN
 simp only [Df,ajg,ajI] at hc
 obtain ⟨h1,h2⟩:=hc
 subst h2
 exact wQ h1 (by simp) (kD.cons hi hd (fun K hK=>h K hK) kD.nil)
theorem UF {l:Array Bool} {a:Act} {w:World} {n:Nat} (hr:(Region.ready md ops l == []) = true) (h:Q .normal a w):dx P md ops Q S ds n l a w:=yK (by simpa using hr) h n
theorem UG {fuel:Nat} {l:Array Bool} {a a':Act} {w:World} (ha:a = a') (h:dx P md ops Q S ds fuel l a' w):dx P md ops Q S ds fuel l a w:=by
 subst ha
 exact h
theorem R6 {f:FuncId} {fn:Func} (hf:P.funcs[f]? = some fn) (hname:(fn.name == "runtime.NumGoroutine") = false) (hb:fn.body.isSome = true) (args:Array Value) (w:World):(callFunc f args).run P w = .ok (.enter f args) w:=by
 have h1:fn.name ≠ "runtime.NumGoroutine" := by simpa using hname
 obtain ⟨c,hc⟩:=akw.1 hb
 simp [callFunc,hf,h1,hc]
theorem gJ {rest:List Oper} {oi:Oper} {a:Act} {w:World} (N:Option Tmp) (hd:oi.dst = N) (hg:oi.guard = none) {f:FuncId} {fn:Func} {ZZ9:Array Operand} {ts:Array TypeId} (hf:P.funcs[f]? = some fn) (hname:(fn.name == "runtime.NumGoroutine") = false) (hb:fn.body.isSome = true) (args:Array Value)
  (hop:oi.op = .call { callee:=.value (.func f),args:=ZZ9,argTypes:=ts }) (hargs:ZZ9.map a.eval = args)
  (h:Calls P f args w fun e w'=>∃ v,e = .returned v ∧ wpList P ops Q rest (a.put N v) w'):wpList P ops Q (oi :: rest) a w:=by
 refine wpList_plain hg fun K hK=>?_
 have he:=R6 hf hname hb args w
 have hrun:(execOp a.eval oi).run P w = .ok (.enter f args) w:=by
  unfold execOp
  simp [hop,resolve,Deferred.ofValue,invoke,Act.eval,hargs,he]
 unfold Oper.wp
 rw [hrun,Oper.upon_enter]
 refine h.mono fun e w'' hh=>?_
 obtain ⟨v,rfl,hk⟩:=hh
 subst hd
 exact hK _ _ hk
theorem Xw {oi:Oper} {N:Option Tmp} {a:Act} {w w1:World} {v:Value} {K:Act → World → Prop} (hw:Region.wanted oi (yielded ops a.tmps) = true) (hN:oi.dst = N) (hrun:(execOp a.eval oi).run P w = .ok (.value v) w1)
  (h:K (a.put N v) w1):if Region.wanted oi (yielded ops a.tmps) = true then Oper.wp P oi a w K Q else K (a.put N undef) w:=by
 rw [ai8 hw]
 subst hN
 unfold Oper.wp
 rw [hrun]
 exact h
theorem abz {oi:Oper} {a:Act} {w w1:World} {K:Act → World → Prop} (hw:Region.wanted oi (yielded ops a.tmps) = true) (hN:oi.dst = none) (hrun:(execOp a.eval oi).run P w = .ok .skip w1)
  (h:K a w1):if Region.wanted oi (yielded ops a.tmps) = true then Oper.wp P oi a w K Q else K (a.put none undef) w:=by
 rw [ai8 hw]
 unfold Oper.wp
 rw [hrun]
 show K (a.put oi.dst undef) w1
 rw [hN]
 exact h
theorem iI (n:Int):IntKind.i64.wrap n = Go.RowKit.wrap64 n:=by unfold Go.RowKit.wrap64;exact IntKind.wrap_i64 n
theorem jh (n:Int):IntKind.i32.wrap n = Go.RowKit.wrap32 n:=by unfold Go.RowKit.wrap32;exact IntKind.wrap_i32 n
end
end Go.Proofs.YtfokaoeinpnagaaGreatW.dL
namespace Go.Proofs.YtfokaoeinpnagaaGreatW.aX
section
open Go.RowKit
namespace Kd
def tag {α:Type} (f:Nat → Nat) (d:Kd α):Kd (α × Nat) where
 sz:=d.sz
 E:=d.E
 K:=fun w x cs=>d.K w x.1 cs
 M:=fun w base ok x cs=>d.M w base (fun k=>ok k ∧ f k = x.2) x.1 cs
 nL:=fun h=>d.nL h
 ou:=fun h=>d.ou h
 kM:=fun hb h=>d.kM hb h
 iZ:=fun h=>d.iZ h
 jD:=fun hok h=>d.jD (fun k hk=>⟨hok k hk.1,hk.2⟩) h
 jI:=fun h=>d.jD (fun _ hk=>⟨⟨hk.1.1,hk.2⟩,hk.1.2⟩) (d.jI h)
 lu:=fun hm h=>d.lu (fun k hk=>hm k hk.1) h
 kN:=fun hb h=>d.kN hb h
def raw (sz:Nat):Kd (List Value) where
 sz:=sz
 E:=[]
 K:=fun _ x cs=>cs = x ∧ cs.length = sz ∧ ∀ u ∈ cs,u.oneCell' = true
 M:=fun _ _ _ x cs=>cs = x ∧ cs.length = sz ∧ ∀ u ∈ cs,u.oneCell' = true
 nL:=fun h=>h.2.1
 ou:=fun h=>h.2.2
 kM:=fun _ h=>h
 iZ:=fun h=>h
 jD:=fun _ h=>h
 jI:=fun h=>h
 lu:=fun _ h=>h
 kN:=fun _ h=>h
def S {α:Type} (d:Kd α) (e:Nat) (w:World) (base:Nat) (ok:Nat → Prop) (v:Value) (xs:List α):Prop:=∃ f,(tag f d).R e w base ok v xs.zipIdx
section
variable {α β:Type} {d:Kd α} {d':Kd β} {e e':Nat} {w w1 W:World} {base b:Nat} {ok ok' okv oku:Nat → Prop} {u v:Value} {xs:List α} {ys:List β}
theorem mV (d:Kd α) (e:Nat) (w:World) (base:Nat) (ok:Nat → Prop):S d e w base ok (.slice none 0 0) []:=⟨fun _=>0,kC _ _ _ _ _⟩
end
section
variable {α β:Type} {d:Kd α} {d':Kd β} {e e' g:Nat} {w w1 W:World} {base b:Nat} {ok ok' okv oku:Nat → Prop} {u v:Value} {xs:List α} {ys:List β}
end
section
open Classical in
variable {P : Program} {ops:Array Oper} {rest:List Oper} {o:Oper} {a:Act} {Q:Exit → Act → World → Prop} {Kc:Act → World → Prop} {α:Type}
end
def gap {α:Type} (f:Nat → Nat) (d:Kd α) (i:Nat) (c:List Value):Kd (α × Nat) where
 sz:=d.sz
 E:=d.E
 K:=fun w x cs=>(x.2 = i → cs = c ∧ cs.length = d.sz ∧ ∀ u ∈ cs,u.oneCell' = true) ∧ (x.2 ≠ i → d.K w x.1 cs)
 M:=fun w base ok x cs=>(x.2 = i → cs = c ∧ cs.length = d.sz ∧ ∀ u ∈ cs,u.oneCell' = true) ∧ (x.2 ≠ i → d.M w base (fun k=>ok k ∧ f k = x.2) x.1 cs)
 nL:=fun {w x cs} h=>by
  by_cases hx:x.2 = i
  ·exact (h.1 hx).2.1
  ·exact d.nL (h.2 hx)
 ou:=fun {w x cs} h=>by
  by_cases hx:x.2 = i
  ·exact (h.1 hx).2.2
  ·exact d.ou (h.2 hx)
 kM:=fun hb h=>⟨h.1,fun hx=>d.kM hb (h.2 hx)⟩
 iZ:=fun h=>⟨h.1,fun hx=>d.iZ (h.2 hx)⟩
 jD:=fun hok h=>⟨h.1,fun hx=>d.jD (fun k hk=>⟨hok k hk.1,hk.2⟩) (h.2 hx)⟩
 jI:=fun h=>⟨h.1,fun hx=>d.jD (fun _ hk=>⟨⟨hk.1.1,hk.2⟩,hk.1.2⟩) (d.jI (h.2 hx))⟩
 lu:=fun hm h=>⟨h.1,fun hx=>d.lu (fun k hk=>hm k hk.1) (h.2 hx)⟩
 kN:=fun hb h=>⟨h.1,fun hx=>d.kN hb (h.2 hx)⟩
def H {α:Type} (d:Kd α) (e:Nat) (w:World) (base:Nat) (ok:Nat → Prop) (v:Value) (xs:List α) (i:Int) (oki:Nat → Prop) (c:List Value):Prop :=
 (∀ k,oki k → ok k) ∧ ∃ f,(gap f d i.toNat c).R e w base (fun k=>ok k ∧ ¬ oki k) v xs.zipIdx
section
variable {α β:Type} {d:Kd α} {e e' g n cap:Nat} {w w1 W:World} {base:Nat} {ok ok' oki Kr:Nat → Prop} {u v:Value} {xs:List α} {i:Int} {c:List Value}
open Classical in
end
section
variable {P : Program} {ops:Array Oper} {rest:List Oper} {o:Oper} {a:Act} {Q:Exit → Act → World → Prop} {α:Type}
end
end Kd
end
section
open Go.RowKit
namespace Kd
structure Heap {α:Type} (d:Kd α):Prop where
 K:∀ {w w1:World} {x:α} {cs:List Value},(∀ k,k < w.heap.size → w1.heap[k]? = w.heap[k]?) → d.K w x cs → d.K w1 x cs
theorem Kw {w w1:World} (hb:∀ k,k < w.heap.size → w1.heap[k]? = w.heap[k]?) {a:Addr} {v:Value} (h:w.cell? a = some v):w1.cell? a = some v:=by
 have:=hb a.block (World.block_lt_of_cell? w a h)
 simpa [World.cell?,this] using h
theorem Heap.C {α:Type} {d:Kd α} (hd:Heap d) {w w1:World} {A:Option Addr} {n:Nat} {xs:List α} (hb:∀ k,k < w.heap.size → w1.heap[k]? = w.heap[k]?) (h:d.C w A n xs):d.C w1 A n xs :=
 ⟨h.1,h.2.1,fun hn=>by
  obtain ⟨ad,e,hc⟩:=h.2.2 hn
  refine ⟨ad,e,fun j p hj=>?_⟩
  obtain ⟨c,hs,hr,hcell⟩:=hc j p hj
  exact ⟨c,hs,hd.K hb hr,fun i u hu=>Kw hb (hcell i u hu)⟩⟩
section
variable {α : Type} {d:Kd α} {e base g n c:Nat} {ok:Nat → Prop} {w w0 W:World} {A:Option Addr} {xs:List α}
end
end Kd
end
section
open Go.RowKit
def Kept (w W:World) (S:Nat → Prop):Prop:=w.heap.size ≤ W.heap.size ∧ ∀ i,i < w.heap.size → ¬ S i → W.heap[i]? = w.heap[i]?
section
variable {w W W2:World} {S S2 S':Nat → Prop}
theorem Kept.refl (w:World) (S:Nat → Prop):Kept w w S:=⟨ajd _,fun _ _ _=>rfl⟩
theorem Kept.of_below (h:Below w.heap.size w W) (S:Nat → Prop):Kept w W S:=⟨h.size,fun i hi _=>h.block i hi⟩
theorem Kept.mono (h:Kept w W S) (hs:∀ k,S k → S' k):Kept w W S':=⟨h.1,fun i hi hn=>h.2 i hi (fun hk=>hn (hs i hk))⟩
theorem Kept.then_ (h:Kept w W S) (k:Kept W W2 S2) (hs:∀ k,S2 k → S k ∨ w.heap.size ≤ k):Kept w W2 S :=
 ⟨aju h.1 k.1,fun i hi hn=>(k.2 i (ajK hi h.1) (fun h2=>(hs i h2).elim hn (fun h3=>by omega))).trans (h.2 i hi hn)⟩
theorem Kept.below (h:Kept w W S) (hb:Below W.heap.size W W2):Kept w W2 S:=h.then_ (Kept.of_below hb (fun _=>False)) (fun _ hk=>hk.elim)
theorem Kept.alloc (h:Kept w W S) (o:Obj):Kept w (W.alloc o) S:=h.below (ak (Below.refl _ _) o)
theorem Kept.drew (h:Kept w W S):Kept w W.drew S:=h
theorem Kept.drewN (h:Kept w W S) (m:Nat):Kept w (W.drewN m) S:=h
theorem Kept.setCell (h:Kept w W S) {p:Addr} (hp:S p.block ∨ w.heap.size ≤ p.block) (u:Value):Kept w (W.setCell p u) S :=
 h.then_ (S2:=fun k=>k = p.block) ⟨by simp [World.setCell],fun i _ hn=>Below.heap_setCell W p u i hn⟩ (fun k hk=>by rw [hk];exact hp)
theorem Kept.keep {g:Nat} (h:iy w W g none) (k:Kept W W2 S2) (hs:∀ k,S2 k → w.heap.size ≤ k):iy w W2 g none :=
 ⟨aju h.1 k.1,fun i hi hg hr=>(k.2 i (ajK hi h.1) (fun h2=>by have:=hs i h2;omega)).trans (h.2 i hi hg hr)⟩
end
namespace Kd
section
variable {α : Type} {d:Kd α} {e base n c:Nat} {ok oki S S2:Nat → Prop} {w w0 W W1 W2:World} {v:Value} {A:Option Addr} {xs:List α} {i:Int} {cs:List Value}
end
end Kd
end
section
open Go.RowKit
def su (P:World → Prop) (W:World) (ok:Nat → Prop):Prop:=∀ W':World,(∀ k,ok k → k < W.heap.size → W'.heap[k]? = W.heap[k]?) → P W'
theorem R7 {W W1:World} {k:Nat} (h:W1.heap[k]? = W.heap[k]?) (hlt:k < W.heap.size):k < W1.heap.size:=by
 rw [ajF hlt] at h
 exact (ake.1 h).1
namespace su
variable {P Q:World → Prop} {W W1:World} {ok ok':Nat → Prop}
theorem now (h:su P W ok):P W:=h W (fun _ _ _=>rfl)
theorem mono (h:su P W ok) (hok:∀ k,ok k → ok' k):su P W ok':=fun W' hW=>h W' (fun k hk hlt=>hW k (hok k hk) hlt)
theorem bound (h:su P W ok):su P W (fun k=>ok k ∧ k < W.heap.size):=fun W' hW=>h W' (fun k hk hlt=>hW k ⟨hk,hlt⟩ hlt)
theorem step (h:su P W ok) (hm:∀ k,ok k → k < W.heap.size → W1.heap[k]? = W.heap[k]?):su P W1 ok:=fun W' hW=>h W' (fun k hk hlt=>(hW k hk (R7 (hm k hk hlt) hlt)).trans (hm k hk hlt))
theorem imp (h:su P W ok) (hi:∀ W',P W' → Q W'):su Q W ok:=fun W' hW=>hi W' (h W' hW)
theorem old (h:su P W ok) (hb:Below W.heap.size W W1):su P W1 (fun k=>ok k ∧ k < W.heap.size):=(h.bound).step (fun k _ hlt=>hb.block k hlt)
end su
namespace Kd
def F {α:Type} (d:Kd α) (W:World) (ok:Nat → Prop) (A:Option Addr) (n:Nat) (xs:List α):Prop:=su (fun W=>d.C W A n xs) W ok
def FK {α:Type} (d:Kd α) (W:World) (ok:Nat → Prop) (x:α) (c:List Value):Prop:=su (fun W=>d.K W x c) W ok
section
variable {α β:Type} {d:Kd α} {e base n n' cc g N:Nat} {ok ok' Kr S:Nat → Prop} {w w0 w1 W W1:World} {A A':Option Addr} {u v v1:Value} {xs:List α} {xs':List β} {d':Kd β} {x:α} {c:List Value}
theorem abA (d:Kd α) (W:World) (ok:Nat → Prop):F d W ok none ([]:List α).length []:=fun W' _=>abw d W'
theorem R8 (h:d.M W base ok x c):FK d W ok x c:=fun _ hW=>d.iZ (Xn h hW)
end
end Kd
end
section
open Go.RowKit
namespace Kd
def chunks (sz:Nat) (n:Nat) (inner:List Value):List (List Value):=(List.range n).map fun j=>(inner.drop (j * sz)).take sz
theorem jU (sz n:Nat) (inner:List Value):(chunks sz n inner).length = n:=by simp [chunks]
theorem Ky {sz n:Nat} {inner:List Value} {j:Nat} (hj:j < n):(chunks sz n inner)[j]? = some ((inner.drop (j * sz)).take sz):=by simp [chunks,hj]
theorem yM {sz n:Nat} {inner:List Value} {j:Nat} {c:List Value} (h:(chunks sz n inner)[j]? = some c):c = (inner.drop (j * sz)).take sz:=by
 have hj:j < n:=by have:=(aj1.1 h).1;rwa [jU] at this
 rw [Ky hj] at h
 injection h with h
 exact h.symm
theorem Om {α:Type} {Rr:α → List Value → Prop} {sz:Nat} {xs:List α} {inner:List Value} (h:fP Rr sz xs inner) (hR:∀ x c,Rr x c → c.length = sz ∧ ∀ u ∈ c,u.oneCell' = true):fP (fun x cs=>cs = x ∧ cs.length = sz ∧ ∀ u ∈ cs,u.oneCell' = true) sz (chunks sz xs.length inner) inner:=by
 refine ⟨by rw [jU];exact h.1,fun j p hj=>?_⟩
 have hjl:j < xs.length:=by have:=(aj1.1 hj).1;rwa [jU] at this
 have hp:=yM hj
 exact ⟨hp.symm,hR _ _ (h.2 j _ (ajo hjl))⟩
section
variable {α : Type} {d:Kd α} {e base n cc g:Nat} {ok ok' Kr S:Nat → Prop} {w w1 W W1:World} {A:Option Addr} {u v v1:Value} {xs:List α} {x:α} {c:List Value}
def N {α:Type} (d:Kd α) (e:Nat) (w:World) (base:Nat) (ok:Nat → Prop) (v:Value) (xs:List α):Prop :=
 (∀ k,v.ownBlock = some k → ok k) ∧ ∃ rows:List (List Value),rows.length = xs.length ∧ (raw d.sz).R e w base (fun k=>some k = v.ownBlock) v rows ∧ ∀ (j:Nat) (x:α) (c:List Value),xs[j]? = some x → rows[j]? = some c → FK d w (fun k=>ok k ∧ some k ≠ v.ownBlock) x c
theorem R_N (h:d.R e w base ok v xs):N d e w base ok v xs:=by
 obtain ⟨h0,inner,ho,hr⟩:=h
 refine ⟨h0,chunks d.sz xs.length inner,jU _ _ _,⟨fun k hk=>hk.symm,inner,by rw [jU];exact ho,Om hr (fun x c hp=>⟨d.nL (d.iZ hp),d.ou (d.iZ hp)⟩)⟩,fun j x c hx hc=>?_⟩
 rw [yM hc]
 exact R8 (hr.2 j x hx)
theorem mW (d:Kd α) (e:Nat) (w:World) (base:Nat) (ok:Nat → Prop):N d e w base ok (.slice none 0 0) []:=R_N (kC _ _ _ _ _)
end
end Kd
end
end Go.Proofs.YtfokaoeinpnagaaGreatW.aX
namespace Go.Proofs.YtfokaoeinpnagaaGreatW.eO
open Go.RowKit Go.Proofs.YtfokaoeinpnagaaGreatW.aX
namespace Kd
open Go.Proofs.YtfokaoeinpnagaaGreatW.aX.Kd
end Kd
namespace Kd
open Go.Proofs.YtfokaoeinpnagaaGreatW.aX.Kd
section
variable {α : Type} {d:Kd α} {e base g N:Nat} {ok:Nat → Prop} {W w1:World} {u v:Value} {xs:List α}
end
end Kd
theorem jV (k k':IntKind) (x y:Int):Builtin.max2 (.int k x) (.int k' y) = pure (.int k (if x < y then y else x)):=by simp only [Builtin.max2,gt_iff_lt]
theorem jW (k k':IntKind) (x y:Int):Builtin.min2 (.int k x) (.int k' y) = pure (.int k (if y < x then y else x)):=by simp only [Builtin.min2]
theorem lF (ats:Array TypeId) (ty:TypeId) (a b:Value):Builtin.max_ ats ty #[a,b] = (Builtin.max2 a b >>= fun s=>pure s):=by simp only [Builtin.max_,ak0,List.foldlM_nil]
theorem lG (ats:Array TypeId) (ty:TypeId) (a b:Value):Builtin.min_ ats ty #[a,b] = (Builtin.min2 a b >>= fun s=>pure s):=by simp only [Builtin.min_,ak0,List.foldlM_nil]
theorem jo (ats:Array TypeId) (ty:TypeId) (a b c:Value):Builtin.max_ ats ty #[a,b,c] = (Builtin.max2 a b >>= fun s=>Builtin.max2 s c >>= fun s=>pure s):=by simp only [Builtin.max_,ak0,List.foldlM_nil]
theorem jq (ats:Array TypeId) (ty:TypeId) (a b c:Value):Builtin.min_ ats ty #[a,b,c] = (Builtin.min2 a b >>= fun s=>Builtin.min2 s c >>= fun s=>pure s):=by simp only [Builtin.min_,ak0,List.foldlM_nil]
theorem jX (ats:Array TypeId) (ty:TypeId) (a b c d:Value):Builtin.max_ ats ty #[a,b,c,d] = (Builtin.max2 a b >>= fun s=>Builtin.max2 s c >>= fun s=>Builtin.max2 s d >>= fun s=>pure s):=by simp only [Builtin.max_,ak0,List.foldlM_nil]
theorem jY (ats:Array TypeId) (ty:TypeId) (a b c d:Value):Builtin.min_ ats ty #[a,b,c,d] = (Builtin.min2 a b >>= fun s=>Builtin.min2 s c >>= fun s=>Builtin.min2 s d >>= fun s=>pure s):=by simp only [Builtin.min_,ak0,List.foldlM_nil]
end Go.Proofs.YtfokaoeinpnagaaGreatW.eO
namespace Go.Proofs.YtfokaoeinpnagaaGreatW.aX
open Go.RowKit
section
variable {P : Program} {ops:Array Oper} {rest:List Oper} {o:Oper} {a:Act} {Q:Exit → Act → World → Prop} {W:World}
theorem bS {f:FuncId} {ZZ9:Array Operand} {ts:Array TypeId} (_ho:o.op = .call { callee:=.value (.func f),args:=ZZ9,argTypes:=ts }) (h:wpList P ops Q (o :: rest) a W):wpList P ops Q (o :: rest) a W:=h
theorem uy {b:Builtin} {xs:Array Operand} {ts:Array TypeId} (_ho:o.op = .call { callee:=.builtin b,args:=xs,argTypes:=ts }) (h:wpList P ops Q (o :: rest) a W):wpList P ops Q (o :: rest) a W:=h
end
def mx (a b:Int):Int:=if a < b then b else a
def mn (a b:Int):Int:=if b < a then b else a
def shl (k:IntKind) (x y:Int):Int:=k.wrap (x * 2 ^ min y.toNat k.bits)
def shr (k:IntKind) (x y:Int):Int:=x / 2 ^ min y.toNat k.bits
namespace Kd
section
variable {α : Type} {d:Kd α} {e base:Nat} {ok:Nat → Prop} {W w1:World} {v:Value} {xs:List α}
end
section
variable {α : Type} {d:Kd α} {e base g n cap:Nat} {ok oki Kr:Nat → Prop} {W:World} {xs:List α} {i:Int} {c:List Value}
end
section
variable {α : Type} {d:Kd α} {e base b b' g N:Nat} {ok ok1:Nat → Prop} {W W2 w1:World} {u v:Value} {xs ys:List α} {S:Nat → Prop}
end
end Kd
end Go.Proofs.YtfokaoeinpnagaaGreatW.aX
namespace Go.Proofs.YtfokaoeinpnagaaGreatW.aX
open Go.RowKit
namespace Kd
def V {α:Type} (d:Kd α) (_e:Nat) (W:World) (_base:Nat) (ok:Nat → Prop) (v:Value) (xs:List α):Prop:=∃ A c,v = .slice A xs.length c ∧ xs.length ≤ c ∧ F d W ok A xs.length xs
section
variable {α β:Type} {d:Kd α} {e base base' n m c g N' lo hi:Nat} {ok ok' S:Nat → Prop} {w W w1:World} {A:Option Addr} {ad:Addr} {u v v1:Value} {xs:List α}
theorem bU (h:V d e W base ok v xs) (hF:∀ A,F d W ok A xs.length xs → F d w1 ok' A xs.length xs):V d e w1 base' ok' v xs:=by
 obtain ⟨A,c,hv,hl,hf⟩:=h
 exact ⟨A,c,hv,hl,hF A hf⟩
theorem mX (d:Kd α) (e:Nat) (W:World) (base:Nat) (ok:Nat → Prop):V d e W base ok (.slice none 0 0) []:=⟨none,0,rfl,ajd _,abA d W ok⟩
end
end Kd
end Go.Proofs.YtfokaoeinpnagaaGreatW.aX
namespace Go.Proofs.YtfokaoeinpnagaaGreat.B
section
open Go.RowKit Go.Proofs.YtfokaoeinpnagaaGreatW.aX
theorem jQ {n:Int} (h0:-9223372036854775808 ≤ n) (h1:n ≤ 9223372036854775807):wrap64 n = n:=by unfold wrap64;omega
theorem toList_inj {s t:ByteArray}:s.toList = t.toList ↔ s = t:=by
 constructor
 ·intro h
  rw [Lib.toList_data,Lib.toList_data] at h
  exact akd (Array.toList_inj.mp h)
 ·rintro rfl;rfl
theorem toList_nil {s:ByteArray}:s.toList = ([]:List UInt8) ↔ s.size = 0:=by
 rw [Lib.toList_data]
 constructor
 ·intro h
  show s.data.size = 0
  rw [← Array.length_toList,h];rfl
 ·intro h
  have h':s.data.size = 0:=h
  rw [← Array.length_toList] at h'
  exact akD h'
theorem eq_empty {s:ByteArray} (h:s.size = 0):s = ⟨#[]⟩:=toList_inj.mp ((toList_nil.mpr h).trans (toList_nil.mpr rfl).symm)
theorem oQ (s:ByteArray) (i:Int):bt s i = ((s.data.toList[i.toNat]?.getD 0).toNat:Int):=by
 unfold bt
 by_cases h:i.toNat < s.size
 ·rw [dif_pos h]
  have h':i.toNat < s.data.toList.length:=by rw [Array.length_toList];exact h
  rw [ajo h']
  rfl
 ·rw [dif_neg h]
  have h':¬ i.toNat < s.data.toList.length:=by rw [Array.length_toList];exact h
  rw [akx (by omega)]
  rfl
theorem yN {a b:ByteArray} {i:Int} (h0:0 ≤ i) (h:i < (a.size:Int)):bt (a ++ b) i = bt a i:=by
 rw [oQ,oQ,akJ,Array.toList_append,akZ]
 rw [Array.length_toList];show i.toNat < a.size;omega
theorem mY {s:ByteArray} {a b:Nat} {j:Int} (hj:0 ≤ j) (h:j < ((s.extract a b).size:Int)):bt (s.extract a b) j = bt s (a + j):=by
 have h':=h
 simp only [ajJ] at h'
 rw [oQ,oQ,Lib.extract_data,ajU,ai8 (by omega),aj3]
 rw [show a + j.toNat = ((a:Int) + j).toNat from by omega]
theorem Dg {s t:ByteArray} (hz:s.size = t.size) (h:∀ i:Int,0 ≤ i → i < (s.size:Int) → bt s i = bt t i):s = t:=by
 have es:s.data.toList.length = s.size:=by rw [Array.length_toList];rfl
 have et:t.data.toList.length = t.size:=by rw [Array.length_toList];rfl
 refine akd (Array.toList_inj.mp (List.ext_getElem (by omega) fun i h1 h2=>?_))
 have:=h i (by omega) (by omega)
 rw [oQ,oQ] at this
 have e:((i:Int)).toNat = i:=by omega
 rw [e,ajo h1,ajo h2] at this
 exact UInt8.toNat_inj.mp (Int.ofNat.inj this)
theorem R9 (xs:List Int) (i:Int) (h:∀ x ∈ xs,0 ≤ x ∧ x ≤ 255):bt (strOfNums xs) i = xs[i.toNat]?.getD 0:=by
 rw [oQ,strOfNums_data,ajf]
 by_cases hi:i.toNat < xs.length
 ·rw [ajo hi]
  have:=h _ (List.getElem_mem hi)
  simp [UInt8.toNat_ofNat']
  omega
 ·rw [akx (by omega)]
  rfl
theorem uz (a b:ByteArray):(a ++ b).extract a.size (a ++ b).size = b:=by
 rw [ByteArray.extract_append]
 have e:a.extract a.size (a ++ b).size = ⟨#[]⟩:=eq_empty (by simp only [ajJ];omega)
 rw [e,ajs,show a.size - a.size = 0 from by omega,show a.size + b.size - a.size = b.size from by omega,ak3]
 exact akd (by rw [akJ];simp)
theorem empty_append (s:ByteArray):(⟨#[]⟩:ByteArray) ++ s = s:=by
 refine akd ?_
 rw [akJ];simp
theorem append_empty (s:ByteArray):s ++ (⟨#[]⟩:ByteArray) = s:=by
 refine akd ?_
 rw [akJ];simp
theorem Oo : (⟨#[]⟩:ByteArray).size = 0:=rfl
theorem size_ext {s:ByteArray} {i n:Int} (h0:0 ≤ i) (hn:0 ≤ n) (hs:i + n ≤ (s.size:Int)):((s.extract i.toNat (i + n).toNat).size:Int) = n:=by
 simp only [ajJ];omega
theorem Oq {s:ByteArray} {i n j:Int} (h0:0 ≤ i) (hj:0 ≤ j) (hn:j < n) (hs:i + n ≤ (s.size:Int)):bt (s.extract i.toNat (i + n).toNat) j = bt s (i + j):=by
 rw [mY hj (by rw [size_ext h0 (by omega) hs];exact hn)]
 congr 1
 omega
theorem dV (a b:Bool):(a == !b) = (a != b):=by cases a <;> cases b <;> rfl
theorem dW (a b:Bool):(a != !b) = (a == b):=by cases a <;> cases b <;> rfl
section
open Go
variable {P : Program} {d c j:Nat} {e:TypeId} {xs ys:Array Value} {js:List Nat} {a b:Value} {r s:Bool} {w:World}
theorem Ot (ha:(part e xs (j * c)).run P w = .ok a w) (hb:(part e ys (j * c)).run P w = .ok b w) (he:(Op.equalIn d e a b).run P w = .ok r w):(Op.eqItems d e c xs ys [j]).run P w = .ok r w:=by
 simp only [Op.eqItems,Sem.run_bind,ha,hb,he,Result.andThen_ok]
 cases r <;> simp
theorem Fg (ha:(part e xs (j * c)).run P w = .ok a w) (hb:(part e ys (j * c)).run P w = .ok b w) (he:(Op.equalIn d e a b).run P w = .ok r w) (hr:(Op.eqItems d e c xs ys js).run P w = .ok s w):(Op.eqItems d e c xs ys (j :: js)).run P w = .ok (r && s) w:=by
 rw [Op.eqItems]
 simp only [Sem.run_bind,ha,hb,he,Result.andThen_ok]
 cases r
 ·simp
 ·simpa using hr
theorem Ou {t:TypeId} {n:Nat} (hu:P.underlying t = some (.array n e)) (hi:(P.info? e).isSome = true) (hc:P.cellsOf e = 1) (h:(Op.eqItems d e 1 xs ys (List.range n)).run P w = .ok r w):(Op.equalIn (d + 1) t (.agg xs) (.agg ys)).run P w = .ok r w:=by
 obtain ⟨i,hi⟩:=akw.mp hi
 rw [run_equalIn_array (P:=P) w d xs ys hu hi,hc]
 exact h
end
end
section
open Go.RowKit Go.Proofs.YtfokaoeinpnagaaGreatW.aX
def wh (w:World) (g:Nat) (xs:List Int):Prop:=∀ j,j < xs.length → w.cell? ⟨g,j,none⟩ = some (.int .u8 (xs.getD j 0)) ∧ w.frozen? ⟨g,j,none⟩ = false
def fF (c:Int):Int:=if 65 ≤ c ∧ c ≤ 90 then c + 32 else c
def numsOf (s:ByteArray):List Int:=s.data.toList.map fun b=>(b.toNat:Int)
theorem numsOf_length (s:ByteArray):(numsOf s).length = s.size:=by simp [numsOf]
theorem numsOf_at (s:ByteArray) (j:Nat):(numsOf s).getD j 0 = bt s j:=by
 rw [oQ,numsOf,ajy,ajf]
 rw [show ((j:Int)).toNat = j from by omega]
 cases s.data.toList[j]? <;> rfl
def gU (s:ByteArray):ByteArray:=strOfNums ((numsOf s).map fF)
def ji (k:Nat) (xs:List Int):List Int:=(xs.take k).map fF ++ xs.drop k
theorem gV (k:Nat) (xs:List Int):(ji k xs).length = xs.length:=by simp [ji];omega
theorem yO (xs:List Int):ji 0 xs = xs:=by simp [ji]
theorem Bg (xs:List Int):ji xs.length xs = xs.map fF:=by simp [ji]
theorem Fh (k:Nat) (xs:List Int) (h:k < xs.length):(ji k xs).getD k 0 = xs.getD k 0:=by
 simp only [ji,ajy]
 rw [List.getElem?_append_right (by simp;omega)]
 simp only [ajb,ajq,aj3]
 congr 2
 omega
theorem vB (k:Nat) (xs:List Int) (h:k < xs.length):(ji k xs).set k (fF (xs.getD k 0)) = ji (k + 1) xs:=by
 apply akl
 intro i
 rw [List.getElem?_set]
 have hl:=gV k xs
 by_cases e:k = i
 ·subst e
  rw [ai8 rfl,ai8 (by omega)]
  simp only [ji]
  rw [akZ (by simp;omega),ajf,ajU,ai8 (by omega),ajy,ajo h]
  rfl
 ·rw [ai9 e]
  simp only [ji]
  by_cases h2:i < k
  ·rw [akZ (by simp;omega),akZ (by simp;omega),ajf,ajf,ajU,ajU,ai8 h2,ai8 (by omega)]
  ·by_cases h3:i < xs.length
   ·rw [List.getElem?_append_right (by simp;omega),List.getElem?_append_right (by simp;omega),aj3,aj3]
    congr 1
    simp only [ajb,ajq]
    omega
   ·rw [akx (by simp;omega),akx (by simp;omega)]
theorem Bh (s:ByteArray) (k:Nat):0 ≤ bt s k ∧ bt s k ≤ 255:=gK s k
theorem yP (w:World) (e:TypeId) (s:ByteArray):wh (Lib.bytesWorld w e s) w.heap.size (numsOf s):=by
 intro j hj
 rw [numsOf_length] at hj
 refine ⟨?_,?_⟩
 ·rw [Lib.bytesWorld_cell w e s j hj,numsOf_at,oQ,ajy]
  rfl
 ·have hlt:j < (Lib.bytesCells w e s).size:=by
   have:s.size ≤ (Lib.bytesCells w e s).size:=by simp [Lib.bytesCells]
   omega
  simp [World.frozen?,Lib.bytesWorld_at_new]
  omega
theorem rowAt_set {w:World} {g:Nat} {xs:List Int} (h:wh w g xs) (k:Nat) (v:Int) (hk:k < xs.length):wh (w.setCell ⟨g,k,none⟩ (.int .u8 v)) g (xs.set k v):=by
 intro j hj
 rw [akK] at hj
 obtain ⟨h1,h2⟩:=h j hj
 refine ⟨?_,by rw [World.frozen?_setCell];exact h2⟩
 by_cases e:j = k
 ·subst e
  rw [World.cell?_setCell_same w _ _ h1]
  simp [ajy,hj]
 ·rw [World.cell?_setCell_other w _ _ _ (by intro hc;injection hc with _ h3 _;exact e h3.symm),h1]
  simp [ajy,List.getElem?_set,Ne.symm e]
theorem yQ {B:Nat} {a w:World} (h:Below B a w) (hB:B ≤ w.heap.size) (e:TypeId) (s:ByteArray):Below B a (Lib.bytesWorld w e s) :=
 ⟨h.os,h.tape,h.output,by rw [Lib.bytesWorld_size];have:=h.size;omega,fun k hk=>(Lib.bytesWorld_at_old w e s k (by omega)).trans (h.block k hk)⟩
end
section
open Go.RowKit Go.Proofs.YtfokaoeinpnagaaGreatW.aX
def sg (b:Int):ByteArray:=strOfNums [b]
def root : ByteArray:=⟨#[0]⟩
theorem l7 (b:Int):(sg b).size = 1:=by unfold sg;rw [strOfNums_size];rfl
theorem iQ : root.size = 1:=rfl
theorem Jg (b:Int) (h:0 ≤ b ∧ b ≤ 255):bt (sg b) 0 = b:=by
 unfold sg;rw [R9 [b] 0 (by simpa using h)];rfl
theorem Dh : bt root 0 = 0:=by decide
def Ab : List ByteArray → ByteArray
 | []=>⟨#[]⟩
 | x :: l=>sg x.size ++ x ++ Ab l
def enc (l:List ByteArray):ByteArray:=Ab l ++ root
def wY (x:ByteArray):Prop:=1 ≤ x.size ∧ x.size ≤ 63
instance (x : ByteArray):Decidable (wY x):=by unfold wY;infer_instance
theorem kP : enc [] = root:=empty_append _
theorem jE (x:ByteArray) (l:List ByteArray):enc (x :: l) = sg x.size ++ x ++ enc l:=by unfold enc;rw [Ab,ak2]
theorem Fj (l m:List ByteArray):Ab (l ++ m) = Ab l ++ Ab m:=by
 induction l with
 | nil=>simp only [List.nil_append,Ab];exact (empty_append _).symm
 | cons x l ih=>simp only [List.cons_append,Ab,ih,ak2]
theorem l8 (l:List ByteArray):1 ≤ (enc l).size:=by unfold enc;rw [ajs,iQ];omega
theorem Ov {b:Int} {x r:ByteArray} (h:0 ≤ b ∧ b ≤ 255):bt (sg b ++ x ++ r) 0 = b:=by
 rw [ak2,yN (by omega) (by rw [l7];omega),Jg b h]
theorem Kz {b:Int} {x r:ByteArray}:(sg b ++ x ++ r).extract 1 (1 + x.size) = x:=by
 rw [ak2,show (1:Nat) = (sg b).size + 0 from by rw [l7],show (sg b).size + 0 + x.size = (sg b).size + x.size from by omega,ByteArray.extract_append_size_add,ByteArray.extract_append_eq_left rfl]
theorem Fp {b:Int} {x r:ByteArray}:(sg b ++ x ++ r).extract (1 + x.size) (sg b ++ x ++ r).size = r:=by
 have:(sg b ++ x).size = 1 + x.size:=by rw [ajs,l7]
 have h:=uz (sg b ++ x) r
 rw [this] at h
 exact h
theorem jF {b:Int} {x r:ByteArray}:(sg b ++ x ++ r).size = 1 + x.size + r.size:=by simp only [ajs,l7]
theorem abB (n:ByteArray) (k:Nat) (hk:(k:Int) = bt n 0) (hlt:1 + k ≤ n.size):n = sg k ++ n.extract 1 (1 + k) ++ n.extract (1 + k) n.size:=by
 have h1:n.extract 0 1 = sg k:=by
  have hz:(n.extract 0 1).size = 1:=by rw [ajJ];omega
  refine Dg (by rw [hz,l7]) fun i h0 hi=>?_
  have:i = 0:=by omega
  subst this
  have hr:=gK n 0
  rw [mY (by omega) (by rw [hz];omega),Jg _ (by omega),hk]
  rfl
 rw [← h1,ByteArray.extract_append_extract,show min 0 1 = 0 from rfl,show max 1 (1 + k) = 1 + k from by omega,ByteArray.extract_append_extract]
 rw [show min 0 (1 + k) = 0 from by omega,show max (1 + k) n.size = n.size from by omega,ak3]
def jZ : Nat → ByteArray → Option (List ByteArray)
 | 0,_=>none
 | k + 1,n =>
  if n.size = 0 then none
  else if n = root then some []
  else if 1 ≤ bt n 0 ∧ bt n 0 ≤ 63 ∧ bt n 0 + 1 < (n.size:Int) then
   (jZ k (n.extract (1 + (bt n 0).toNat) n.size)).map (n.extract 1 (1 + (bt n 0).toNat) :: ·)
  else none
theorem lM : ∀ (k:Nat) (n:ByteArray) (l:List ByteArray),jZ k n = some l → n = enc l ∧ ∀ x ∈ l,wY x
 | 0,_,_,h=>by simp [jZ] at h
 | k + 1,n,l,h=>by
  rw [jZ] at h
  split at h
  ·cases h
  ·split at h
   ·rename_i hr
    cases h
    exact ⟨by rw [kP];exact hr,by simp⟩
   ·split at h
    ·rename_i hc
     obtain ⟨m,hm,rfl⟩:=zmm h
     obtain ⟨e,hok⟩:=lM k _ m hm
     have hz:(n.extract 1 (1 + (bt n 0).toNat)).size = (bt n 0).toNat:=by rw [ajJ];omega
     refine ⟨?_,?_⟩
     ·rw [jE,hz,← e]
      exact abB n _ (by omega) (by omega)
     ·intro x hx
      rcases ajr.mp hx with rfl | hx
      ·unfold wY;omega
      ·exact hok x hx
    ·cases h
theorem wm (x:ByteArray) (l:List ByteArray) (h:wY x):enc (x :: l) ≠ root:=by
 intro e
 have:=ajC ByteArray.size e
 have h2:=l8 l
 have h1:=h.1
 rw [jE,jF,iQ] at this
 omega
theorem qH : ∀ (k:Nat) (l:List ByteArray),(∀ x ∈ l,wY x) → (enc l).size ≤ k → jZ k (enc l) = some l
 | 0,l,_,hk=>by have:=l8 l;omega
 | k + 1,[],_,_=>by
  rw [jZ,kP,ai9 (by rw [iQ];omega),ai8 rfl]
 | k + 1,x :: l,hok,hk=>by
  have hx:=hok x (by simp)
  have h1:=l8 l
  have hr:=wm x l hx
  obtain ⟨hx1,hx2⟩:=hx
  rw [jE] at hk hr ⊢
  rw [jF] at hk
  rw [jZ,ai9 (by rw [jF];omega),ai9 hr,Ov (by omega),jF,ai8 (by omega)]
  have e:((x.size:Int)).toNat = x.size:=by omega
  have hc:=@Fp (x.size:Int) x (enc l)
  rw [jF] at hc
  rw [e,Kz,hc,qH k l (fun y hy=>hok y (by simp [hy])) (by omega)]
  rfl
def qX (n:ByteArray):Option (List ByteArray):=if n.size ≤ 255 then jZ 255 n else none
theorem vC {n:ByteArray} {l:List ByteArray} (h:qX n = some l):n = enc l ∧ (∀ x ∈ l,wY x) ∧ n.size ≤ 255:=by
 unfold qX at h
 split at h
 ·exact ⟨(lM _ _ _ h).1,(lM _ _ _ h).2,by assumption⟩
 ·cases h
theorem yR {l:List ByteArray} (hok:∀ x ∈ l,wY x) (hz:(enc l).size ≤ 255):qX (enc l) = some l:=by
 unfold qX
 rw [ai8 hz,qH _ _ hok hz]
theorem yS : ∀ (k:Nat) (n:ByteArray),n.size ≤ k → jZ k n = jZ n.size n:=by
 intro k n hk
 cases h:jZ k n with
 | some l =>
  obtain ⟨e,hok⟩:=lM _ _ _ h
  subst e
  exact (qH _ _ hok (ajd _)).symm
 | none =>
  cases h2:jZ n.size n with
  | none=>rfl
  | some l =>
   obtain ⟨e,hok⟩:=lM _ _ _ h2
   rw [e] at h hk
   rw [qH k l hok hk] at h
   cases h
theorem yT {n:ByteArray} (h:1 ≤ n.size):jZ n.size n = if n = root then some [] else if 1 ≤ bt n 0 ∧ bt n 0 ≤ 63 ∧ bt n 0 + 1 < (n.size:Int) then
   (jZ (n.extract (1 + (bt n 0).toNat) n.size).size (n.extract (1 + (bt n 0).toNat) n.size)).map (n.extract 1 (1 + (bt n 0).toNat) :: ·) else none:=by
 obtain ⟨k,hk⟩:∃ k,n.size = k + 1:=⟨n.size - 1,by omega⟩
 conv=>lhs;rw [hk,jZ]
 rw [ai9 (by omega)]
 split
 ·rfl
 ·split
  ·rw [yS k _ (by rw [ajJ];omega)]
  ·rfl
def gN (n:ByteArray):Bool:=(qX n).isSome
def up (n:ByteArray):ByteArray × Bool:=match qX n with
 | some (_ :: l)=>(enc l,true)
 | _=>(⟨#[]⟩,false)
def same (a b:ByteArray):Bool:=gN a && gN b && decide (gU a = gU b)
theorem lH {n:ByteArray}:gN n = true ↔ ∃ l,n = enc l ∧ (∀ x ∈ l,wY x) ∧ n.size ≤ 255:=by
 unfold gN
 constructor
 ·intro h
  obtain ⟨l,hl⟩:=akw.mp h
  exact ⟨l,vC hl⟩
 ·rintro ⟨l,rfl,h1,h2⟩
  rw [yR h1 h2];rfl
theorem yU {x:ByteArray} {l:List ByteArray} (hok:∀ y ∈ x :: l,wY y) (hz:(enc (x :: l)).size ≤ 255):up (enc (x :: l)) = (enc l,true):=by
 unfold up;rw [yR hok hz]
theorem Di : up root = (⟨#[]⟩,false):=by
 unfold up;rw [← kP,yR (by simp) (by rw [kP,iQ];omega)]
theorem Ow {n:ByteArray} (h:gN n = false):up n = (⟨#[]⟩,false):=by
 unfold gN at h
 unfold up
 cases hl:qX n with
 | none=>rfl
 | some l=>rw [hl] at h;cases h
theorem Dj {n:ByteArray} (h:(up n).2 = true):∃ x l,n = enc (x :: l) ∧ (∀ y ∈ x :: l,wY y) ∧ n.size ≤ 255 ∧ (up n).1 = enc l:=by
 unfold up at h ⊢
 split at h
 ·rename_i x l hl
  obtain ⟨e,h1,h2⟩:=vC hl
  exact ⟨x,l,e,h1,h2,rfl⟩
 ·cases h
end
end Go.Proofs.YtfokaoeinpnagaaGreat.B
namespace Go.Proofs.YtfokaoeinpnagaaGreatW.dL
open Go.Proofs.YtfokaoeinpnagaaGreatW.aX (ah)
def qI (md:Region.Mode) (o:Oper):List Nat:=(o.after.toList.filter (fun e=>Region.binds md e)).map (fun e=>e.on)
def Dk (md:Region.Mode) (ops:Array Oper) (i:Nat) (oi:Oper):List Nat:=(List.range ops.size).filter fun j=>!(j == i) && match ops[j]? with
 | some oj=>!(oj.after.any (fun e=>Region.binds md e && e.on == i) || oi.apart ops oj)
 | none=>false
def nG (md:Region.Mode) (ops:Array Oper):Bool × List (List Nat × List Nat):=(Region.noSelect ops,(List.range ops.size).map fun i=>match ops[i]? with
 | some o=>(qI md o,Dk md ops i o)
 | none=>([],[]))
def nN (T:List (List Nat × List Nat)) (l:List Bool) (i:Nat):Bool:=!l.getD i true && match T[i]? with
 | some r=>r.1.all (fun j=>l.getD j false)
 | none=>false
def yV (T:List (List Nat × List Nat)) (l:List Bool):List Nat:=(List.range T.length).filter (nN T l)
def Fq (T:List (List Nat × List Nat)) (l:List Bool) (i:Nat):Bool:=match T[i]? with
 | some r=>r.2.all (fun j=>l.getD j true)
 | none=>false
def wZ (T:List (List Nat × List Nat)) (l:List Bool):Bool:=(List.range T.length).all fun j=>!l.getD j false || match T[j]? with
 | some r=>r.1.all (fun k=>l.getD k false)
 | none=>true
def vD (T:List (List Nat × List Nat)) (i:Nat):Nat → Nat → Bool
 | 0,_=>false
 | fuel + 1,d=>match T[d]? with
  | some r=>r.1.any fun j=>j == i || vD T i fuel j
  | none=>false
def lastT (T:List (List Nat × List Nat)) (l:List Bool) (ds:List Nat) (i:Nat):Bool:=ds.all fun d=>l.getD d true || vD T i T.length d
section
variable {md : Region.Mode} {ops:Array Oper} {T:Bool × List (List Nat × List Nat)} {l l' li lj lk:Array Bool} {ds:List Nat} {i j k:Nat}
theorem gd (l:Array Bool) (j:Nat) (b:Bool):l.getD j b = l.toList.getD j b:=by simp [ajT,ajy]
theorem Bj (o:Oper) (p:Nat → Bool):o.after.all (fun e=>!Region.binds md e || p e.on) = (qI md o).all p:=by
 unfold qI
 rw [← Array.all_toList]
 induction o.after.toList with
 | nil=>rfl
 | cons e r ih =>
  rw [List.all_cons,ih,List.filter_cons]
  cases h:Region.binds md e <;> simp
theorem KA (o:Oper) (p:Nat → Bool):o.after.any (fun e=>Region.binds md e && p e.on) = (qI md o).any p:=by
 unfold qI
 rw [← Array.any_toList]
 induction o.after.toList with
 | nil=>rfl
 | cons e r ih =>
  rw [List.any_cons,ih,List.filter_cons]
  cases h:Region.binds md e <;> simp
theorem nO : (nG md ops).2.length = ops.size:=by simp [nG]
theorem qJ {o:Oper} (h:ops[i]? = some o):(nG md ops).2[i]? = some (qI md o,Dk md ops i o):=by
 have hi:=(ake.1 h).1
 unfold nG
 rw [ajf,List.getElem?_range hi,Option.map_some,h]
theorem qK (h:ops[i]? = none):(nG md ops).2[i]? = none:=by
 have hi:ops.size ≤ i:=Array.getElem?_eq_none_iff.1 h
 exact akx (by rw [nO];exact hi)
theorem G9 : nN (nG md ops).2 l.toList i = (!l.getD i true && ((ops[i]?).map (·.after.all fun e=>!Region.binds md e || l.getD e.on false)).getD false):=by
 unfold nN
 rw [gd]
 cases h:ops[i]? with
 | none=>rw [qK h];rfl
 | some o =>
  rw [qJ h]
  simp only [Option.map_some,Option.getD_some]
  rw [← Bj]
  simp only [gd]
theorem ready_eq : Region.ready md ops l = yV (nG md ops).2 l.toList:=by
 unfold Region.ready yV
 rw [nO]
 refine List.filter_congr (fun i _=>?_)
 rw [G9]
theorem free_eq : Region.free md ops l i = Fq (nG md ops).2 l.toList i:=by
 unfold Region.free Fq
 cases h:ops[i]? with
 | none=>rw [qK h]
 | some oi =>
  rw [qJ h]
  simp only [Dk]
  rw [List.all_filter]
  congr 1
  funext j
  rw [gd]
  cases hj:ops[j]? with
  | none=>cases (j == i) <;> cases (l.toList.getD j true) <;> simp
  | some oj =>
   cases (j == i) <;> cases (l.toList.getD j true) <;> cases (oj.after.any (fun e=>Region.binds md e && e.on == i) || oi.apart ops oj) <;> simp_all
theorem KC : Region.uq md ops l = wZ (nG md ops).2 l.toList:=by
 unfold Region.uq wZ
 rw [nO]
 congr 1
 funext j
 rw [gd]
 cases h:ops[j]? with
 | none=>rw [qK h]
 | some o =>
  rw [qJ h]
  simp only
  rw [← Bj]
  simp only [gd]
theorem Fu : ∀ (fuel d:Nat),Region.lU md ops i fuel d = vD (nG md ops).2 i fuel d
 | 0,_=>rfl
 | fuel + 1,d=>by
  unfold Region.lU vD
  cases h:ops[d]? with
  | none=>rw [qK h]
  | some o =>
   rw [qJ h]
   simp only
   rw [← KA]
   congr 1
   funext e
   rw [Fu fuel]
theorem Sb : Region.lastB md ops l ds i = lastT (nG md ops).2 l.toList ds i:=by
 unfold Region.lastB lastT
 rw [nO]
 congr 1
 funext d
 rw [gd,Fu]
theorem wo (h:nN T.2 l.toList i = true) (hT:nG md ops = T):(Region.ready md ops l).contains i = true:=by
 subst hT
 rw [ready_eq]
 unfold yV
 rw [List.contains_iff_mem,akB,ajL]
 refine ⟨?_,h⟩
 unfold nN at h
 rw [ajg] at h
 cases hq:(nG md ops).2[i]? with
 | none=>rw [hq] at h;simp at h
 | some r=>exact (aj1.1 hq).1
theorem He (h:(l.toList.set i true == l'.toList) = true):(l.setIfInBounds i true == l') = true:=by
 rw [ajI] at h ⊢
 apply Array.ext'
 rw [Array.toList_setIfInBounds]
 exact h
def abC (T:Bool × List (List Nat × List Nat)) (l l':List Bool) (i:Nat):Bool:=T.1 && Fq T.2 l i && nN T.2 l i && (l.set i true == l')
theorem jO (hT:nG md ops = T) (h:abC T l.toList l'.toList i = true):R5 md ops l l' i = true:=by
 simp only [abC,ajg] at h
 obtain ⟨⟨⟨h1,h2⟩,h3⟩,h4⟩:=h
 have h5:=wo h3 hT
 have h6:=He h4
 subst hT
 simp only [R5,ajg]
 exact ⟨⟨⟨h1,by rw [free_eq];exact h2⟩,h5⟩,h6⟩
def Ox (T:Bool × List (List Nat × List Nat)) (ds:List Nat) (l l':List Bool) (i:Nat):Bool:=T.1 && Fq T.2 l i && nN T.2 l i && wZ T.2 l && lastT T.2 l ds i && (l.set i true == l')
theorem Sc (hT:nG md ops = T) (h:Ox T ds l.toList l'.toList i = true):takeB md ops ds l l' i = true:=by
 simp only [Ox,ajg] at h
 obtain ⟨⟨⟨⟨⟨h1,h2⟩,h3⟩,h4⟩,h5⟩,h6⟩:=h
 have h7:=wo h3 hT
 have h8:=He h6
 subst hT
 simp only [takeB,ajg]
 exact ⟨⟨⟨⟨⟨h1,by rw [free_eq];exact h2⟩,h7⟩,by rw [KC];exact h4⟩,by rw [Sb];exact h5⟩,h8⟩
theorem Hf (hT:nG md ops = T) (h:(yV T.2 l.toList == [i] && l.toList.set i true == l'.toList) = true):Df md ops l l' i = true:=by
 simp only [ajg] at h
 obtain ⟨h1,h2⟩:=h
 subst hT
 simp only [Df,ajg]
 exact ⟨by rw [ready_eq];exact h1,He h2⟩
theorem Jh (hT:nG md ops = T) (h:(yV T.2 l.toList == []) = true):(Region.ready md ops l == []) = true:=by
 subst hT
 rw [ready_eq]
 exact h
def Xx (B:List Nat) (d:Nat):List Nat → Nat
 | []=>0
 | n :: r=>(2 ^ n ||| (if n < d then B.getD n 0 else 0)) ||| Xx B d r
def qL (T:List (List Nat × List Nat)) (B:List Nat):Bool:=(List.range T.length).all fun d=>match T[d]? with
 | some r=>(B.getD d 0 ||| Xx B d r.1) == Xx B d r.1
 | none=>false
theorem Ji {B:List Nat} {d i:Nat}:∀ {ns:List Nat},(Xx B d ns).testBit i = true → ∃ n ∈ ns,n = i ∨ (n < d ∧ (B.getD n 0).testBit i = true)
 | [],h=>by simp [Xx] at h
 | n :: r,h=>by
  unfold Xx at h
  rw [Nat.testBit_or,Nat.testBit_or,aj4,aj4] at h
  rcases h with (h | h) | h
  ·rw [Nat.testBit_two_pow] at h
   exact ⟨n,akr,.inl (by simpa using h)⟩
  ·by_cases hn:n < d
   ·rw [ai8 hn] at h
    exact ⟨n,akr,.inr ⟨hn,h⟩⟩
   ·rw [ai9 hn] at h
    simp at h
  ·obtain ⟨m,hm,h2⟩:=Ji h
   exact ⟨m,ajY _ hm,h2⟩
theorem Bl {T:List (List Nat × List Nat)} {B:List Nat} (hB:qL T B = true):∀ (fuel d:Nat),d < fuel → d < T.length → (B.getD d 0).testBit i = true → vD T i fuel d = true
 | 0,d,h,_,_=>by omega
 | fuel + 1,d,h,hd,hb=>by
  have h1:=ajp.1 hB d (ajL.2 hd)
  cases hr:T[d]? with
  | none=>rw [hr] at h1;simp at h1
  | some r =>
   rw [hr] at h1
   simp only [ajI] at h1
   have h2:(Xx B d r.1).testBit i = true:=by rw [← h1,Nat.testBit_or,hb,Bool.true_or]
   obtain ⟨n,hn,h3⟩:=Ji h2
   unfold vD
   rw [hr]
   simp only
   rw [aj8]
   refine ⟨n,hn,?_⟩
   rcases h3 with rfl | ⟨h4,h5⟩
   ·simp
   ·rw [Bl hB fuel n (by omega) (by omega) h5,Bool.or_true]
def UH (T:List (List Nat × List Nat)) (B:List Nat) (l:List Bool) (ds:List Nat) (i:Nat):Bool:=ds.all fun d=>l.getD d true || (decide (d < T.length) && (B.getD d 0).testBit i)
def UJ (T:Bool × List (List Nat × List Nat)) (B:List Nat) (ds:List Nat) (l l':List Bool) (i:Nat):Bool:=T.1 && Fq T.2 l i && nN T.2 l i && wZ T.2 l && UH T.2 B l ds i && (l.set i true == l')
theorem yX {B:List Nat} (hT:nG md ops = T) (hB:qL T.2 B = true) (h:UJ T B ds l.toList l'.toList i = true):takeB md ops ds l l' i = true:=by
 refine Sc hT ?_
 simp only [UJ,Ox,ajg] at h ⊢
 obtain ⟨⟨⟨⟨⟨h1,h2⟩,h3⟩,h4⟩,h5⟩,h6⟩:=h
 refine ⟨⟨⟨⟨⟨h1,h2⟩,h3⟩,h4⟩,?_⟩,h6⟩
 unfold UH at h5
 unfold lastT
 rw [ajp] at h5 ⊢
 intro d hd
 have h7:=h5 d hd
 rw [aj4,ajg,ajt] at h7
 rcases h7 with h7 | ⟨h8,h9⟩
 ·rw [h7,Bool.true_or]
 ·rw [Bl hB _ d h8 h8 h9,Bool.or_true]
theorem Bo {P:Program} {Q:Exit → Act → World → Prop} {S:World → Prop} {n:Nat} {a:Act} {w:World} {B:List Nat} (hT:nG md ops = T) (hB:qL T.2 B = true) (h:ah (nG md ops = T) → ah (qL T.2 B = true) → dx P md ops Q S ds n l a w):dx P md ops Q S ds n l a w:=h ⟨hT⟩ ⟨hB⟩
end
def rO : Code → Nat → Option (Array Oper)
 | .region id ops _,k=>if id == k then some ops else none
 | .seq a b,k=>match rO a k with
  | some o=>some o
  | none=>rO b k
 | .cond _ a b,k=>match rO a k with
  | some o=>some o
  | none=>rO b k
 | .block _ c,k=>rO c k
 | .loop c,k=>rO c k
 | .scope c,k=>rO c k
 | .rangeFunc _ _ a b,k=>match rO a k with
  | some o=>some o
  | none=>rO b k
 | _,_=>none
def opsOf (f:Func) (k:Nat):Array Oper:=((f.body.bind fun c=>rO c k)).getD #[]
end Go.Proofs.YtfokaoeinpnagaaGreatW.dL
namespace Go.Proofs.YtfokaoeinpnagaaGreatW.aX
theorem fP.one {α:Type} {R:α → List Value → Prop} {ps:List α} {cs:List Value} {p:α} {v:Value} (hp:R p [v]) (h:fP R 1 ps cs):fP R 1 (p :: ps) (v :: cs):=by
 refine ⟨by simp [h.1],fun j q hq=>?_⟩
 cases j with
 | zero =>
  simp only [List.getElem?_cons_zero,ajl] at hq
  subst hq
  simpa using hp
 | succ j =>
  simp only [List.getElem?_cons_succ] at hq
  have h1:=h.2 j q hq
  simpa [Nat.mul_one] using h1
theorem fP.front {α:Type} {R:α → List Value → Prop} {size:Nat} {ps:List α} {cs c all:List Value} {p:α} (hp:R p c) (hc:c.length = size) (h:fP R size ps cs) (ha:c ++ cs = all):fP R size (p :: ps) all:=by
 subst ha
 refine ⟨by rw [ajh,hc,h.1,List.length_cons,ajV,Nat.add_comm],fun j q hq=>?_⟩
 cases j with
 | zero =>
  simp only [List.getElem?_cons_zero,ajl] at hq
  subst hq
  rw [akg,aj9,akU (by omega),akL (by omega)]
  exact hp
 | succ j =>
  simp only [List.getElem?_cons_succ] at hq
  have h1:=h.2 j q hq
  rw [ajV,List.drop_append,List.drop_of_length_le (by rw [hc];exact Nat.le_add_left _ _),List.nil_append,hc,Nat.add_sub_cancel]
  exact h1
theorem fP.c2 {α:Type} {R:α → List Value → Prop} {ps:List α} {cs:List Value} {p:α} {va vb:Value} (hp:R p [va,vb]) (h:fP R 2 ps cs):fP R 2 (p :: ps) (va :: vb :: cs):=fP.front hp rfl h rfl
theorem fP.c3 {α:Type} {R:α → List Value → Prop} {ps:List α} {cs:List Value} {p:α} {va vb vc:Value} (hp:R p [va,vb,vc]) (h:fP R 3 ps cs):fP R 3 (p :: ps) (va :: vb :: vc :: cs):=fP.front hp rfl h rfl
theorem fP.c4 {α:Type} {R:α → List Value → Prop} {ps:List α} {cs:List Value} {p:α} {va vb vc vd:Value} (hp:R p [va,vb,vc,vd]) (h:fP R 4 ps cs):fP R 4 (p :: ps) (va :: vb :: vc :: vd :: cs):=fP.front hp rfl h rfl
theorem fP.c5 {α:Type} {R:α → List Value → Prop} {ps:List α} {cs:List Value} {p:α} {va vb vc vd ve:Value} (hp:R p [va,vb,vc,vd,ve]) (h:fP R 5 ps cs):fP R 5 (p :: ps) (va :: vb :: vc :: vd :: ve :: cs):=fP.front hp rfl h rfl
theorem fP.c6 {α:Type} {R:α → List Value → Prop} {ps:List α} {cs:List Value} {p:α} {va vb vc vd ve vf:Value} (hp:R p [va,vb,vc,vd,ve,vf]) (h:fP R 6 ps cs):fP R 6 (p :: ps) (va :: vb :: vc :: vd :: ve :: vf :: cs):=fP.front hp rfl h rfl
theorem fP.c7 {α:Type} {R:α → List Value → Prop} {ps:List α} {cs:List Value} {p:α} {va vb vc vd ve vf vg:Value} (hp:R p [va,vb,vc,vd,ve,vf,vg]) (h:fP R 7 ps cs):fP R 7 (p :: ps) (va :: vb :: vc :: vd :: ve :: vf :: vg :: cs):=fP.front hp rfl h rfl
theorem fP.c8 {α:Type} {R:α → List Value → Prop} {ps:List α} {cs:List Value} {p:α} {va vb vc vd ve vf vg vh:Value} (hp:R p [va,vb,vc,vd,ve,vf,vg,vh]) (h:fP R 8 ps cs):fP R 8 (p :: ps) (va :: vb :: vc :: vd :: ve :: vf :: vg :: vh :: cs):=fP.front hp rfl h rfl
theorem fP.c9 {α:Type} {R:α → List Value → Prop} {ps:List α} {cs:List Value} {p:α} {va vb vc vd ve vf vg vh vi:Value} (hp:R p [va,vb,vc,vd,ve,vf,vg,vh,vi]) (h:fP R 9 ps cs):fP R 9 (p :: ps) (va :: vb :: vc :: vd :: ve :: vf :: vg :: vh :: vi :: cs):=fP.front hp rfl h rfl
theorem fP.c10 {α:Type} {R:α → List Value → Prop} {ps:List α} {cs:List Value} {p:α} {va vb vc vd ve vf vg vh vi vj:Value} (hp:R p [va,vb,vc,vd,ve,vf,vg,vh,vi,vj]) (h:fP R 10 ps cs):fP R 10 (p :: ps) (va :: vb :: vc :: vd :: ve :: vf :: vg :: vh :: vi :: vj :: cs):=fP.front hp rfl h rfl
end Go.Proofs.YtfokaoeinpnagaaGreatW.aX
namespace Go.Proofs.YtfokaoeinpnagaaGreatW.dL
def up (b:Nat → Bool) (i:Nat):Nat → Bool:=fun j=>if j = i then true else b j
section
variable {P : Program} {ops:Array Oper} {Q:Exit → Act → World → Prop} {md:Region.Mode} {T:Bool × List (List Nat × List Nat)} {B:List Nat} {O:List Nat} {b:Nat → Bool} {i j n:Nat}
end
end Go.Proofs.YtfokaoeinpnagaaGreatW.dL
namespace Go.Proofs.YtfokaoeinpnagaaGreatW.aX
open Go.RowKit
section
variable {P : Program} {ops:Array Oper} {rest:List Oper} {o:Oper} {a:Act} {Q:Exit → Act → World → Prop} {W:World}
theorem Hg (hw:Region.wanted o (yielded ops a.tmps) = true) (h:wpList P ops Q ({ o with guard:=none } :: rest) a W):wpList P ops Q (o :: rest) a W:=by
 have h1:Region.wanted { o with guard:=none } (yielded ops a.tmps) = true:=rfl
 unfold wpList at h ⊢
 rw [ai8 h1] at h
 rw [ai8 hw]
 exact h
end
end Go.Proofs.YtfokaoeinpnagaaGreatW.aX
namespace Go.Proofs.YtfokaoeinpnagaaGreat.ZQ
section
open Go.RowKit Go.Proofs.YtfokaoeinpnagaaGreatW.aX Go.Proofs.YtfokaoeinpnagaaGreatW.dL Go.Proofs.YtfokaoeinpnagaaGreatW.eO
attribute [local go_sem] jV jW lF lG jo jq jX jY
def abD : Option Int → Value
 | none=>.nilIface
 | some c=>.iface 0 (.int .i64 c)
theorem aJ : abD none = .nilIface:=rfl
theorem aK (c:Int):abD (some c) = .iface 0 (.int .i64 c):=rfl
theorem Jj : (Tryz.prog.info? 9).map (fun i=>(i.zero,i.size,i.bytes)) = some (some (.string ⟨#[]⟩),1,16):=by kernel_rfl
end
section
open Go.RowKit Go.Proofs.YtfokaoeinpnagaaGreatW.aX Go.Proofs.YtfokaoeinpnagaaGreatW.dL Go.Proofs.YtfokaoeinpnagaaGreatW.eO
attribute [local go_sem] jV jW lF lG jo jq jX jY
mutual
def bH.l0 : Nat → ByteArray → List ByteArray → Option (List ByteArray × Bool)
 | 0,_,_=>none
 | k + 1,x0,x4=>if (x0.size:Int) > 0 then (bH.j1 k x0 x4 (x0.toList != ([0]:List UInt8))) else (bH.j1 k x0 x4 false)
def bH.j1 : Nat → ByteArray → List ByteArray → Bool → Option (List ByteArray × Bool)
 | 0,_,_,_=>none
 | k + 1,x0,x4,x15=>if x15 = true then (if 0 < (x0.size:Int) then (if (wrap64 (bt x0 0)) < 1 then (some (([]:List ByteArray),false)) else (if (wrap64 (bt x0 0)) > 63 then (some (([]:List ByteArray),false)) else (if (wrap64 ((wrap64 (bt x0 0)) + 1)) ≥ (x0.size:Int) then (some (([]:List ByteArray),false)) else (if 1 ≤ (wrap64 (1 + (wrap64 (bt x0 0)))) then (if (wrap64 (1 + (wrap64 (bt x0 0)))) ≤ (x0.size:Int) then (if x4.length < 8796093022208 then (if 0 ≤ (wrap64 (1 + (wrap64 (bt x0 0)))) then (bH.l0 k (x0.extract ((wrap64 (1 + (wrap64 (bt x0 0)))):Int).toNat x0.size) (x4 ++ [x0.extract 1 ((wrap64 (1 + (wrap64 (bt x0 0)))):Int).toNat])) else (none)) else (none)) else (none)) else (none))))) else (none)) else (some (x4,(x0.toList == ([0]:List UInt8))))
end
def bH.f (k:Nat) (a0:ByteArray):Option (List ByteArray × Bool):=if (a0.size:Int) > 255 then (some (([]:List ByteArray),false)) else (bH.l0 k a0 ([]:List ByteArray))
def bH.T8 : Bool × List (List Nat × List Nat):=(true,[([],[]),([],[]),([],[]),([2],[2]),([1,3],[1,3]),([4],[4]),([0,5],[0,5]),([],[]),([],[]),([8],[8]),([7,9],[7,9]),([6,6,0,1,2,3,4,5,6],[0,6]),([10,11,0,1,2,3,4,5,6,7,8,9,10,11],[1,7,10])])
def bH.B8 : List Nat:=[0,0,0,4,14,30,63,0,0,256,896,127,4095]
theorem bH.agm : nG .any (opsOf Tryz.f126 8) = bH.T8:=by kernel_rfl
theorem bH.abE : qL bH.T8.2 bH.B8 = true:=by kernel_rfl
theorem bH.calls (k:Nat) (a0:ByteArray) (r1:List ByteArray) (r2:Bool) (w:World) (h:bH.f k a0 = some (r1,r2)) :
  Calls Tryz.prog 126 #[.string a0] w fun e w'=>∃ UK:Value,e = .returned (.tuple #[UK,.bool r2]) ∧ Kd.R Kd.string 9 w' w.heap.size (fun _=>True) UK r1 ∧ Below w.heap.size w w':=by
 have HB:=ah.mk (Below.refl w.heap.size w)
 have H:(if (a0.size:Int) > 255 then (some (([]:List ByteArray),false)) else (bH.l0 k a0 ([]:List ByteArray))) = some (r1,r2):=h
 clear h
 by_cases c2:(a0.size:Int) > 255
 ·rw [ai8 c2] at H
  have Ac:decide (255 < (a0.size:Int)) = true:=aja c2
  have KD:decide (255 < a0.size) = true:=aja (by omega)
  clear c2
  simp only [ajl,ajm] at H
  obtain ⟨rfl,rfl⟩:=H
  go_enter Tryz.func126,Tryz.ntmps126
  go_wp2
  go_ret2
  exact ⟨_,by first | rfl | (simp [aJ,aK] <;> rfl) | (simp [*,aJ,aK] <;> rfl),by first | exact Kd.kC _ _ _ _ _ | exact Kd.mW _ _ _ _ _ | exact Kd.mX _ _ _ _ _ | exact Kd.mR _ _ _ _ _ | exact Kd.mV _ _ _ _ _,by repeat (first | exact HB.out | apply ak | apply aj | apply au)⟩
 ·rw [ai9 c2] at H
  have Ac:decide (255 < (a0.size:Int)) = false:=ajc c2
  have KD:decide (255 < a0.size) = false:=ajc (by omega)
  clear c2
  have H':=ah.mk H
  clear H
  go_enter Tryz.func126,Tryz.ntmps126
  go_wp2
  go_loopg [0,4] k (fun kq v0 v4 w'=>∃ (bF:ByteArray) (yY:List ByteArray),v0 = .string bF ∧ ah (bH.l0 kq bF yY = some (r1,r2)) ∧ ah (kq ≤ k) ∧ ah (Kd.R Kd.string 9 w' w.heap.size (fun _=>True) v4 yY) ∧ ah (Below w.heap.size w w'))
  case atStart=>exact ⟨(a0),(([]:List ByteArray)),(by first | rfl | (simp;done) | (simp [*];done) | (simp [B.dV];done) | (simp [B.dW];done)),H',⟨ajd _⟩,⟨by first | exact Kd.kC _ _ _ _ _ | exact Kd.mW _ _ _ _ _ | exact Kd.mX _ _ _ _ _ | exact Kd.mR _ _ _ _ _ | exact Kd.mV _ _ _ _ _⟩,⟨by repeat (first | exact HB.out | apply ak | apply aj | apply au)⟩⟩
  case round =>
   clear H'
   try clear c1
   try clear c2
   try clear Ac
   try clear KD
   try clear p2
   obtain ⟨bF,yY,rfl,HA,PO,qY,HB⟩:=hrel
   cases gk with
   | zero=>exact absurd HA.out (by simp [bH.l0])
   | succ k1 =>
    have H:=HA.out
    clear HA
    simp only [bH.l0] at H
    have HC3:=ah.mk H
    clear H
    go_upto_region 4 with (fail)
    go_cut [15] (fun v15 wc=>∃ (kq:Nat) (Jk:Bool),v15 = .bool Jk ∧ ah (bH.j1 kq bF yY Jk = some (r1,r2)) ∧ ah (kq ≤ k1) ∧ ah (Kd.R Kd.string 9 wc w.heap.size (fun _=>True) u4 yY) ∧ ah (Below w.heap.size w wc))
    case first =>
     have H:=HC3.out
     clear HC3
     by_cases c4:(bF.size:Int) > 0
     ·rw [ai8 c4] at H
      have yZ:decide (0 < (bF.size:Int)) = true:=aja c4
      have Hl:decide (0 < bF.size) = true:=aja (by omega)
      clear c4
      (first | rw [yZ] | rw [Xy] | (simp only [iI,jh];rw [yZ]) | skip)
      have H':=ah.mk H
      clear H
      go_wp2
      go_meet
      case rel=>exact ⟨_,((bF.toList != ([0]:List UInt8))),(by first | rfl | (simp;done) | (simp [*];done) | (simp [B.dV];done) | (simp [B.dW];done)),H',⟨by have:=PO.out;first | omega | exact ajd _⟩,⟨by (with_reducible repeat (first | apply Kd.gq | apply Kd.gT | apply Kd.iq));exact qY.out⟩,⟨by repeat (first | exact HB.out | apply ak | apply aj | apply au)⟩⟩
     ·rw [ai9 c4] at H
      have yZ:decide (0 < (bF.size:Int)) = false:=ajc c4
      have Hl:decide (0 < bF.size) = false:=ajc (by omega)
      clear c4
      (first | rw [yZ] | rw [Xy] | (simp only [iI,jh];rw [yZ]) | skip)
      have H':=ah.mk H
      clear H
      go_wp2
      go_meet
      case rel=>exact ⟨_,(false),(by first | rfl | (simp;done) | (simp [*];done) | (simp [B.dV];done) | (simp [B.dW];done)),H',⟨by have:=PO.out;first | omega | exact ajd _⟩,⟨by (with_reducible repeat (first | apply Kd.gq | apply Kd.gT | apply Kd.iq));exact qY.out⟩,⟨by repeat (first | exact HB.out | apply ak | apply aj | apply au)⟩⟩
    case rest =>
     clear HC3
     try clear c1
     try clear c2
     try clear Ac
     try clear KD
     try clear p2
     try clear c4
     try clear yZ
     try clear Hl
     try clear Xy
     try clear p2
     obtain ⟨kq,Jk,rfl,HA,HJ2,qY,HB⟩:=hcut
     cases kq with
     | zero=>exact absurd HA.out (by simp [bH.j1])
     | succ kj2 =>
      have H:=HA.out
      clear HA
      simp only [bH.j1] at H
      by_cases c5:Jk = true
      ·subst c5
       have H1:(if 0 < (bF.size:Int) then (if (wrap64 (bt bF 0)) < 1 then (some (([]:List ByteArray),false)) else (if (wrap64 (bt bF 0)) > 63 then (some (([]:List ByteArray),false)) else (if (wrap64 ((wrap64 (bt bF 0)) + 1)) ≥ (bF.size:Int) then (some (([]:List ByteArray),false)) else (if 1 ≤ (wrap64 (1 + (wrap64 (bt bF 0)))) then (if (wrap64 (1 + (wrap64 (bt bF 0)))) ≤ (bF.size:Int) then (if yY.length < 8796093022208 then (if 0 ≤ (wrap64 (1 + (wrap64 (bt bF 0)))) then (bH.l0 kj2 (bF.extract ((wrap64 (1 + (wrap64 (bt bF 0)))):Int).toNat bF.size) (yY ++ [bF.extract 1 ((wrap64 (1 + (wrap64 (bt bF 0)))):Int).toNat])) else (none)) else (none)) else (none)) else (none))))) else (none)) = some (r1,r2):=by rw [ai8 rfl] at H;exact H
       clear H
       have H:=H1
       clear H1
       by_cases c6:0 < (bF.size:Int)
       ·rw [ai8 c6] at H
        have Ho:decide (0 < (bF.size:Int)) = true:=aja c6
        have KE:decide (0 < bF.size) = true:=aja (by omega)
        clear c6
        by_cases c8:(wrap64 (bt bF 0)) < 1
        ·rw [ai8 c8] at H
         have KF:decide ((wrap64 (bt bF 0)) < 1) = true:=aja c8
         (try (have KG:decide (((bt bF 0)) < 1) = true:=by have h_:decide ((wrap64 (bt bF 0)) < 1) = true:=aja c8;rw [B.jQ (by omega) (by omega)] at h_;exact h_))
         clear c8
         simp only [ajl,ajm] at H
         obtain ⟨rfl,rfl⟩:=H
         have p7:0 ≤ (0:Int):=(by omega)
         have q7:0 < bF.size:=(by have:(0:Int) < (bF.size:Int):=ajw (by first | (with_reducible assumption) | assumption);omega)
         have hx7:∀ h:0 < bF.size,((bF[0]'h).toNat:Int) = bt bF 0:=pE bF 0
         clear p7
         have qi7:(0 < (bF.size:Int)) = True:=ajj (ajw (by first | (with_reducible assumption) | assumption))
         replace q7:=ajj q7
         go_wp2
         go_ret2
         exact ⟨_,by first | rfl | (simp [aJ,aK] <;> rfl) | (simp [*,aJ,aK] <;> rfl),by first | exact Kd.kC _ _ _ _ _ | exact Kd.mW _ _ _ _ _ | exact Kd.mX _ _ _ _ _ | exact Kd.mR _ _ _ _ _ | exact Kd.mV _ _ _ _ _,by repeat (first | exact HB.out | apply ak | apply aj | apply au)⟩
        ·rw [ai9 c8] at H
         have KF:decide ((wrap64 (bt bF 0)) < 1) = false:=ajc c8
         (try (have KG:decide (((bt bF 0)) < 1) = false:=by have h_:decide ((wrap64 (bt bF 0)) < 1) = false:=ajc c8;rw [B.jQ (by omega) (by omega)] at h_;exact h_))
         clear c8
         by_cases c9:(wrap64 (bt bF 0)) > 63
         ·rw [ai8 c9] at H
          have Hq:decide (63 < (wrap64 (bt bF 0))) = true:=aja c9
          (try (have Oy:decide (63 < ((bt bF 0))) = true:=by have h_:decide (63 < (wrap64 (bt bF 0))) = true:=aja c9;rw [B.jQ (by omega) (by omega)] at h_;exact h_))
          clear c9
          simp only [ajl,ajm] at H
          obtain ⟨rfl,rfl⟩:=H
          have p7:0 ≤ (0:Int):=(by omega)
          have q7:0 < bF.size:=(by have:(0:Int) < (bF.size:Int):=ajw (by first | (with_reducible assumption) | assumption);omega)
          have hx7:∀ h:0 < bF.size,((bF[0]'h).toNat:Int) = bt bF 0:=pE bF 0
          clear p7
          have qi7:(0 < (bF.size:Int)) = True:=ajj (ajw (by first | (with_reducible assumption) | assumption))
          replace q7:=ajj q7
          go_wp2
          go_ret2
          exact ⟨_,by first | rfl | (simp [aJ,aK] <;> rfl) | (simp [*,aJ,aK] <;> rfl),by first | exact Kd.kC _ _ _ _ _ | exact Kd.mW _ _ _ _ _ | exact Kd.mX _ _ _ _ _ | exact Kd.mR _ _ _ _ _ | exact Kd.mV _ _ _ _ _,by repeat (first | exact HB.out | apply ak | apply aj | apply au)⟩
         ·rw [ai9 c9] at H
          have Hq:decide (63 < (wrap64 (bt bF 0))) = false:=ajc c9
          (try (have Oy:decide (63 < ((bt bF 0))) = false:=by have h_:decide (63 < (wrap64 (bt bF 0))) = false:=ajc c9;rw [B.jQ (by omega) (by omega)] at h_;exact h_))
          clear c9
          by_cases c10:(wrap64 ((wrap64 (bt bF 0)) + 1)) ≥ (bF.size:Int)
          ·rw [ai8 c10] at H
           have Fv:decide ((bF.size:Int) ≤ (wrap64 ((wrap64 (bt bF 0)) + 1))) = true:=aja c10
           (try (have Jl:decide ((bF.size:Int) ≤ ((((bt bF 0)) + 1))) = true:=by have h_:decide ((bF.size:Int) ≤ (wrap64 ((wrap64 (bt bF 0)) + 1))) = true:=aja c10;rw [B.jQ (by omega) (by omega)] at h_;rw [B.jQ (by omega) (by omega)] at h_;exact h_))
           clear c10
           simp only [ajl,ajm] at H
           obtain ⟨rfl,rfl⟩:=H
           have p7:0 ≤ (0:Int):=(by omega)
           have q7:0 < bF.size:=(by have:(0:Int) < (bF.size:Int):=ajw (by first | (with_reducible assumption) | assumption);omega)
           have hx7:∀ h:0 < bF.size,((bF[0]'h).toNat:Int) = bt bF 0:=pE bF 0
           clear p7
           have qi7:(0 < (bF.size:Int)) = True:=ajj (ajw (by first | (with_reducible assumption) | assumption))
           replace q7:=ajj q7
           go_wp2
           go_ret2
           exact ⟨_,by first | rfl | (simp [aJ,aK] <;> rfl) | (simp [*,aJ,aK] <;> rfl),by first | exact Kd.kC _ _ _ _ _ | exact Kd.mW _ _ _ _ _ | exact Kd.mX _ _ _ _ _ | exact Kd.mR _ _ _ _ _ | exact Kd.mV _ _ _ _ _,by repeat (first | exact HB.out | apply ak | apply aj | apply au)⟩
          ·rw [ai9 c10] at H
           have Fv:decide ((bF.size:Int) ≤ (wrap64 ((wrap64 (bt bF 0)) + 1))) = false:=ajc c10
           (try (have Jl:decide ((bF.size:Int) ≤ ((((bt bF 0)) + 1))) = false:=by have h_:decide ((bF.size:Int) ≤ (wrap64 ((wrap64 (bt bF 0)) + 1))) = false:=ajc c10;rw [B.jQ (by omega) (by omega)] at h_;rw [B.jQ (by omega) (by omega)] at h_;exact h_))
           clear c10
           by_cases c11:1 ≤ (wrap64 (1 + (wrap64 (bt bF 0))))
           ·rw [ai8 c11] at H
            have UL:=ajj c11
            have abF:decide (1 ≤ (wrap64 (1 + (wrap64 (bt bF 0))))) = true:=aja c11
            by_cases c12:(wrap64 (1 + (wrap64 (bt bF 0)))) ≤ (bF.size:Int)
            ·rw [ai8 c12] at H
             have UM:=ajj c12
             have UN:decide ((wrap64 (1 + (wrap64 (bt bF 0)))) ≤ (bF.size:Int)) = true:=aja c12
             by_cases c13:yY.length < 8796093022208
             ·rw [ai8 c13] at H
              have abG:=ah.mk c13
              clear c13
              obtain ⟨y101,hy101⟩:∃ y_:List ByteArray,y_ = (yY ++ [bF.extract 1 ((wrap64 (1 + (wrap64 (bt bF 0)))):Int).toNat]):=⟨_,rfl⟩
              replace H:(if 0 ≤ (wrap64 (1 + (wrap64 (bt bF 0)))) then (bH.l0 kj2 (bF.extract ((wrap64 (1 + (wrap64 (bt bF 0)))):Int).toNat bF.size) y101) else (none)) = some (r1,r2):=by first | (rw [hy101];with_reducible exact H) | (have Hr:=(Option.bind_some _ _).symm.trans H;rw [hy101];with_reducible exact Hr) | (have Hr:=(Option.bind_some _ _).symm.trans H;with_reducible exact Hr) | with_reducible exact H | (rw [hy101];exact H) | exact H
              have UO:=ah.mk hy101
              clear hy101
              obtain ⟨Dl,qw⟩:∃ j_:Int,(wrap64 (1 + (wrap64 (bt bF 0)))) = j_:=⟨_,rfl⟩
              replace H:(if 0 ≤ (Dl) then (bH.l0 kj2 (bF.extract ((Dl):Int).toNat bF.size) y101) else (none)) = some (r1,r2):=by first | (rw [qw] at H;exact H) | (simp only [qw] at H ⊢;exact H)
              (try rw [qw] at UL)
              (try rw [qw] at abF)
              (try rw [qw] at c11)
              (try rw [qw] at UM)
              (try rw [qw] at UN)
              (try rw [qw] at c12)
              (try rw [qw] at UO)
              have agn:(IntKind.i64.wrap (1 + (wrap64 (bt bF 0)))) = Dl:=(iI _).trans qw
              by_cases c15:0 ≤ (Dl)
              ·rw [ai8 c15] at H
               have ahT:=ajj c15
               have ahU:decide (0 ≤ (Dl)) = true:=aja c15
               clear c15
               have ahV:=ajj (ajw (by first | (with_reducible assumption) | assumption):(Dl) ≤ (bF.size:Int))
               have H':=ah.mk H
               clear H
               have p7:0 ≤ (0:Int):=(by omega)
               have q7:0 < bF.size:=(by have:(0:Int) < (bF.size:Int):=ajw (by first | (with_reducible assumption) | assumption);omega)
               have hx7:∀ h:0 < bF.size,((bF[0]'h).toNat:Int) = bt bF 0:=pE bF 0
               clear p7
               have qi7:(0 < (bF.size:Int)) = True:=ajj (ajw (by first | (with_reducible assumption) | assumption))
               replace q7:=ajj q7
               try go_wp2
               have fM:=ah.mk (Kd.iq qY.out)
               have jJ:=ah.mk (au HB.out)
               clear qY
               clear HB
               have qY:=fM
               have HB:=jJ
               clear fM jJ
               refine Ol (n:=13) (S:=fun w'=>True) (ds:=[]) #[false,false,false,false,false,false,false,false,false,false,false,false,false] (by kernel_rfl) rfl rfl trivial (fun hHeld=>?_);refine Bo bH.agm bH.abE (fun wR HW_=>?_)
               generalize wc.drew = w17 at qY HB hHeld ⊢
               refine lX (i:=0) (N:=some 32) (v:=?_) (a':=?_) #[true,false,false,false,false,false,false,false,false,false,false,false,false] rfl rfl (jO wR.out (by kernel_rfl)) (fun _ _ _ h=>h) (Or.inl ⟨by rfl,?_⟩) ?_ ?_
               rotate_left
               ·intro w'
                go_simp
                with_reducible rfl
               rotate_left
               ·simp only [Act.put,ajN,List.set_cons_zero,List.set_cons_succ,iI,jh]
                rfl
               refine lX (i:=1) (N:=some 33) (v:=?_) (a':=?_) #[true,true,false,false,false,false,false,false,false,false,false,false,false] rfl rfl (jO wR.out (by kernel_rfl)) (fun _ _ _ h=>h) (Or.inl ⟨by rfl,?_⟩) ?_ ?_
               rotate_left
               ·intro w'
                go_simp
                with_reducible rfl
               rotate_left
               ·simp only [Act.put,ajN,List.set_cons_zero,List.set_cons_succ,iI,jh]
                rfl
               refine lX (i:=2) (N:=some 34) (v:=?_) (a':=?_) #[true,true,true,false,false,false,false,false,false,false,false,false,false] rfl rfl (jO wR.out (by kernel_rfl)) (fun _ _ _ h=>h) (Or.inl ⟨by rfl,?_⟩) ?_ ?_
               rotate_left
               ·intro w'
                go_simp
                with_reducible rfl
               rotate_left
               ·simp only [Act.put,ajN,List.set_cons_zero,List.set_cons_succ,iI,jh]
                rfl
               refine lX (i:=3) (N:=some 35) (v:=?_) (a':=?_) #[true,true,true,true,false,false,false,false,false,false,false,false,false] rfl rfl (jO wR.out (by kernel_rfl)) (fun _ _ _ h=>h) (Or.inl ⟨by rfl,?_⟩) ?_ ?_
               rotate_left
               ·intro w'
                go_simp
                with_reducible rfl
               rotate_left
               ·simp only [Act.put,ajN,List.set_cons_zero,List.set_cons_succ,iI,jh]
                rfl
               refine lX (i:=4) (N:=some 36) (v:=?_) (a':=?_) #[true,true,true,true,true,false,false,false,false,false,false,false,false] rfl rfl (jO wR.out (by kernel_rfl)) (fun _ _ _ h=>h) (Or.inl ⟨by rfl,?_⟩) ?_ ?_
               rotate_left
               ·intro w'
                go_simp
                with_reducible rfl
               rotate_left
               ·simp only [Act.put,ajN,List.set_cons_zero,List.set_cons_succ,iI,jh]
                rfl
               refine lX (i:=7) (N:=some 39) (v:=?_) (a':=?_) #[true,true,true,true,true,false,false,true,false,false,false,false,false] rfl rfl (jO wR.out (by kernel_rfl)) (fun _ _ _ h=>h) (Or.inl ⟨by rfl,?_⟩) ?_ ?_
               rotate_left
               ·intro w'
                go_simp
                with_reducible rfl
               rotate_left
               ·simp only [Act.put,ajN,List.set_cons_zero,List.set_cons_succ,iI,jh]
                rfl
               refine lX (i:=8) (N:=some 40) (v:=?_) (a':=?_) #[true,true,true,true,true,false,false,true,true,false,false,false,false] rfl rfl (jO wR.out (by kernel_rfl)) (fun _ _ _ h=>h) (Or.inl ⟨by rfl,?_⟩) ?_ ?_
               rotate_left
               ·intro w'
                go_simp
                with_reducible rfl
               rotate_left
               ·simp only [Act.put,ajN,List.set_cons_zero,List.set_cons_succ,iI,jh]
                rfl
               refine lX (i:=9) (N:=some 41) (v:=?_) (a':=?_) #[true,true,true,true,true,false,false,true,true,true,false,false,false] rfl rfl (jO wR.out (by kernel_rfl)) (fun _ _ _ h=>h) (Or.inl ⟨by rfl,?_⟩) ?_ ?_
               rotate_left
               ·intro w'
                go_simp
                with_reducible rfl
               rotate_left
               ·simp only [Act.put,ajN,List.set_cons_zero,List.set_cons_succ,iI,jh]
                rfl
               refine lX (i:=10) (N:=some 42) (v:=?_) (a':=?_) #[true,true,true,true,true,false,false,true,true,true,true,false,false] rfl rfl (jO wR.out (by kernel_rfl)) (fun _ _ _ h=>h) (Or.inl ⟨by rfl,?_⟩) ?_ ?_
               rotate_left
               ·intro w'
                go_simp
                with_reducible rfl
               rotate_left
               ·simp only [Act.put,ajN,List.set_cons_zero,List.set_cons_succ,iI,jh]
                rfl
               refine Xv (i:=5) (N:=some 37) #[true,true,true,true,true,true,false,true,true,true,true,false,false] rfl rfl (Hf wR.out (by kernel_rfl)) (by decide) (fun K hK=>?_)
               refine Xw (w1:=?_) (v:=?_) (by rfl) rfl ?_ ?_
               rotate_left 2
               ·go_simp
                constructor
                ·rfl
                ·rfl
               refine hK.out _ _ trivial (fun hHeld=>?_)
               clear hK K
               refine UG (a':=?_) ?_ ?_
               rotate_left
               ·show Act.put _ (some 37) _ = _
                simp only [Act.put,ajN,List.set_cons_zero,List.set_cons_succ,iI,jh]
                rfl
               refine Xv (i:=6) (N:=some 38) #[true,true,true,true,true,true,true,true,true,true,true,false,false] rfl rfl (Hf wR.out (by kernel_rfl)) (by decide) (fun K hK=>?_)
               refine Kd.zZ Kd.string (w0:=w) w.heap.size (by rfl) (.tmp 32) (.tmp 37) 40 9 (.string ⟨#[]⟩) 16 rfl Tryz.underlying40 Jj rfl (by decide) (by omega) u4 yY (bF.extract 1 ((Dl):Int).toNat) [.string (bF.extract 1 ((Dl):Int).toNat)] (fun _=>True) (fun _=>False) rfl rfl ?aP (fun _ hk=>hk.elim) ?aF ?aO ?aB ?aS ?aL ?_
               (case aP=>exact rfl)
               (case aB=>exact (by repeat first | exact HB.out | apply ak | apply aj | apply au))
               (case aF=>exact (fun _ _=>trivial))
               (case aO=>exact (by (with_reducible repeat (first | apply Kd.gq | apply Kd.gT | apply Kd.iq));exact qY.out))
               (case aS=>exact (dB (by repeat first | exact HB.out | apply ak | apply aj | apply au)))
               (case aL=>have:=abG.out;omega)
               intro aiT w18 ho hb hg hat
               rw [← UO.out] at ho
               have fM:=ah.mk (hb)
               have jJ:=ah.mk (ho)
               clear HB
               clear qY
               have HB:=fM
               have abH:=jJ
               clear fM jJ
               clear ho hb hg hat
               refine hK.out _ _ trivial (fun hHeld=>?_)
               clear hK K
               refine UG (a':=?_) ?_ ?_
               rotate_left
               ·show Act.put _ (some 38) _ = _
                simp only [Act.put,ajN,List.set_cons_zero,List.set_cons_succ,iI,jh]
                rfl
               refine lX (i:=11) (N:=some 4) (v:=?_) (a':=?_) #[true,true,true,true,true,true,true,true,true,true,true,true,false] rfl rfl (jO wR.out (by kernel_rfl)) (fun _ _ _ h=>h) (Or.inl ⟨by rfl,?_⟩) ?_ ?_
               rotate_left
               ·intro w'
                go_simp
                with_reducible rfl
               rotate_left
               ·simp only [Act.put,ajN,List.set_cons_zero,List.set_cons_succ,iI,jh]
                rfl
               refine lX (i:=12) (N:=some 0) (v:=?_) (a':=?_) #[true,true,true,true,true,true,true,true,true,true,true,true,true] rfl rfl (jO wR.out (by kernel_rfl)) (fun _ _ _ h=>h) (Or.inl ⟨by rfl,?_⟩) ?_ ?_
               rotate_left
               ·intro w'
                go_simp
                with_reducible rfl
               rotate_left
               ·simp only [Act.put,ajN,List.set_cons_zero,List.set_cons_succ,iI,jh]
                rfl
               refine UF (Jh wR.out (by kernel_rfl)) ?_
               try go_wp2
               go_roundg kj2
               case measure=>have:=PO.out;have:=HJ2.out;omega
               case rel=>exact ⟨(bF.extract ((Dl):Int).toNat bF.size),(y101),(by first | rfl | (simp;done) | (simp only [← qw] <;> (first | rfl | simp)) | (simp [*];done)),H',⟨by have:=PO.out;have:=HJ2.out;omega⟩,⟨by (with_reducible repeat (first | apply Kd.gq | apply Kd.gT | apply Kd.iq));exact abH.out⟩,⟨by repeat (first | exact HB.out | apply ak | apply aj | apply au)⟩⟩
              ·rw [ai9 c15] at H
               exact absurd H (by simp)
             ·rw [ai9 c13] at H
              exact absurd H (by simp)
            ·rw [ai9 c12] at H
             exact absurd H (by simp)
           ·rw [ai9 c11] at H
            exact absurd H (by simp)
       ·rw [ai9 c6] at H
        exact absurd H (by simp)
      ·replace c5:=ajP.mpr c5
       subst c5
       have H1:(some (yY,(bF.toList == ([0]:List UInt8)))) = some (r1,r2):=by rw [ai9 (show ¬ (false = true) by decide)] at H;exact H
       clear H
       have H:=H1
       clear H1
       simp only [ajl,ajm] at H
       obtain ⟨rfl,rfl⟩:=H
       go_wp2
       go_ret2
       exact ⟨_,by first | rfl | (simp [aJ,aK] <;> rfl) | (simp [*,aJ,aK] <;> rfl),by (with_reducible repeat (first | apply Kd.gq | apply Kd.gT | apply Kd.iq));exact qY.out,by repeat (first | exact HB.out | apply ak | apply aj | apply au)⟩
def fQ.f (k:Nat) (a0:ByteArray):Option (Bool):=(bH.f k a0).bind fun Oz=>(some Oz.2)
theorem fQ.calls (k:Nat) (a0:ByteArray) (r:Bool) (w:World) (h:fQ.f k a0 = some r) :
  Calls Tryz.prog 109 #[.string a0] w fun e w'=>e = .returned (.bool r) ∧ Below w.heap.size w w':=by
 have HB:=ah.mk (Below.refl w.heap.size w)
 have H:((bH.f k a0).bind fun Oz=>(some Oz.2)) = some r:=h
 clear h
 replace H:=zbm H
 obtain ⟨⟨agp,t105⟩,Fw,H⟩:=H
 replace H:(some t105) = some r:=H
 have A2:=ah.mk Fw
 clear Fw
 obtain rfl:=ajz H
 go_enter Tryz.func109,Tryz.ntmps109
 go_wp2_with (first | ((with_reducible refine bS (f:=126) rfl ?_);refine gJ (some 7) rfl rfl Tryz.func126 (by kernel_rfl) rfl #[.string a0] rfl (by (try simp only [ajG,ajk,ajn]) <;> rfl) ?_;(with_reducible refine (bH.calls k a0 agp t105 _ A2.out).mono ?_);rintro e w3 ⟨aiU,rfl,ho0,hb⟩;refine ⟨_,rfl,?_⟩;have fM:=ah.mk (Kd.nM ho0 (dB (by repeat first | exact HB.out | apply ak | apply aj | apply au)));have jJ:=ah.mk (bL (by repeat first | exact HB.out | apply ak | apply aj | apply au) hb);clear HB;have ahW:=fM;have HB:=jJ;clear fM jJ;(try clear hb);(try clear hb2);(try clear hk);(try clear hi);(try clear ho0)))
 go_ret
 exact ⟨by first | rfl | (simp [aJ,aK] <;> rfl) | (simp [*,aJ,aK] <;> rfl),by repeat (first | exact HB.out | apply ak | apply aj | apply au)⟩
def mZ.f (a0:Int):Option (Int):=if a0 ≥ 65 then (if a0 ≤ 90 then (some ((a0 + 32) % 256)) else (some a0)) else (some a0)
theorem mZ.calls (a0:Int) (r:Int) (w:World) (h:mZ.f a0 = some r) :
  Calls Tryz.prog 127 #[.int .u8 a0] w fun e w'=>e = .returned (.int .u8 r) ∧ bQ w w':=by
 have H:(if a0 ≥ 65 then (if a0 ≤ 90 then (some ((a0 + 32) % 256)) else (some a0)) else (some a0)) = some r:=h
 clear h
 by_cases c2:a0 ≥ 65
 ·rw [ai8 c2] at H
  have Ac:decide (65 ≤ a0) = true:=aja c2
  clear c2
  by_cases c3:a0 ≤ 90
  ·rw [ai8 c3] at H
   have vE:decide (a0 ≤ 90) = true:=aja c3
   clear c3
   obtain rfl:=ajz H
   go_enter Tryz.func127,Tryz.ntmps127
   go_wp2
   go_ret
   exact ⟨by first | rfl | (simp;done) | (simp [*];done),by repeat (first | exact bQ.refl _ | apply bQ.step)⟩
  ·rw [ai9 c3] at H
   have vE:decide (a0 ≤ 90) = false:=ajc c3
   clear c3
   obtain rfl:=ajz H
   go_enter Tryz.func127,Tryz.ntmps127
   go_wp2
   go_ret
   exact ⟨by first | rfl | (simp;done) | (simp [*];done),by repeat (first | exact bQ.refl _ | apply bQ.step)⟩
 ·rw [ai9 c2] at H
  have Ac:decide (65 ≤ a0) = false:=ajc c2
  clear c2
  obtain rfl:=ajz H
  go_enter Tryz.func127,Tryz.ntmps127
  go_wp2
  go_ret
  exact ⟨by first | rfl | (simp;done) | (simp [*];done),by repeat (first | exact bQ.refl _ | apply bQ.step)⟩
def jk.f (a0:ByteArray):Option ByteArray:=if a0.size ≤ 140737488355328 then some (B.gU a0) else none
theorem jk.small (c:Int) (h0:0 ≤ c) (h1:c ≤ 255):mZ.f c = some (B.fF c):=by
 unfold mZ.f B.fF
 by_cases h2:65 ≤ c
 ·by_cases h3:c ≤ 90
  ·rw [ai8 (by omega),ai8 h3,ai8 ⟨h2,h3⟩];congr 1;omega
  ·rw [ai8 (by omega),ai9 h3,ai9 (by omega)]
 ·rw [ai9 (by omega),ai9 (by omega)]
theorem jk.calls (a0:ByteArray) (r:ByteArray) (w:World) (h:jk.f a0 = some r) :
  Calls Tryz.prog 110 #[.string a0] w fun e w'=>e = .returned (.string r) ∧ Below w.heap.size w w':=by
 unfold jk.f at h
 by_cases hs:a0.size ≤ 140737488355328
 ·rw [ai8 hs] at h
  obtain rfl:=ajz h
  clear h
  have kc:=fun (W:World)=>Lib.run_convert_string_bytes (P:=Tryz.prog) W 9 189 5 a0 Tryz.underlying9 Tryz.underlying189 Tryz.underlying5
  have hb0:=ah.mk (B.yQ (Below.refl w.heap.size w) (ajd _) 5 a0)
  have hr0:=ah.mk (B.yP w 5 a0)
  go_enter Tryz.func110,Tryz.ntmps110
  go_wp2
  generalize Lib.bytesWorld w 5 a0 = w1 at hb0 hr0 ⊢
  generalize grownCap w a0.size 0 5 = C
  have hz:=ah.mk (B.numsOf_length a0)
  have hg:=ah.mk (ajd w.heap.size)
  generalize hgg:w.heap.size = g at hb0 hr0 hg ⊢
  have hg':=ah.mk hgg
  clear hgg
  go_loopw [10] (fun v wr=>∃ k:Nat,k ≤ a0.size ∧ v = .int .i64 k ∧ ah (B.wh wr g (B.ji k (B.numsOf a0))) ∧ ah (Below g w wr)) (fun v _=>a0.size - (intOf v).toNat)
  case atStart=>exact ⟨0,ajO _,rfl,⟨by rw [B.yO];exact hr0.out⟩,hb0⟩
  case round =>
   obtain ⟨k,hk,rfl,hrow,hbel⟩:=hrel
   clear hr0 hb0 kc
   by_cases hlt:k < a0.size
   ·have hkl:k < (B.numsOf a0).length:=by rw [hz.out];exact hlt
    have hc:=(hrow.out k (by rw [B.gV];exact hkl))
    rw [B.Fh k _ hkl,B.numsOf_at] at hc
    obtain ⟨hc1,hc2⟩:=hc
    have hrange:=B.Bh a0 k
    have hsm:=ah.mk (jk.small (bt a0 k) hrange.1 hrange.2)
    have hset:=ah.mk (B.rowAt_set hrow.out k (B.fF (bt a0 k)) (by rw [B.gV];exact hkl))
    have hset':=ah.mk (show B.wh (wr.setCell ⟨g,k,none⟩ (.int .u8 (B.fF (bt a0 k)))) g (B.ji (k + 1) (B.numsOf a0)) by
     have h1:=hset.out
     rw [← B.numsOf_at,B.vB k _ hkl] at h1
     rw [← B.numsOf_at]
     exact h1)
    have lN:=ah.mk (hbel.out.setCell (p:=⟨g,k,none⟩) (ajd _) (.int .u8 (B.fF (bt a0 k))))
    clear hset hrow hbel hkl
    generalize bt a0 k = c at *
    go_wp2_with (go_at_call 127;(with_reducible refine (mZ.calls c _ _ hsm.out).mono ?_);rintro e w' ⟨rfl,⟨nd,rfl⟩⟩)
    go_roundw
    case rel=>exact ⟨k + 1,by omega,by go_num,⟨fun j hj=>hset'.out j hj⟩,⟨by first | exact lN.out | exact ⟨lN.out.os,lN.out.tape,lN.out.output,lN.out.size,lN.out.block⟩⟩⟩
    case measure=>simp [intOf];omega
   ·obtain rfl:k = a0.size:=by omega
    have hl:(B.ji a0.size (B.numsOf a0)).length = a0.size:=by rw [B.gV];exact hz.out
    have kd:=fun (dst:TypeId) (hd:Tryz.prog.underlying dst = some .string)=>run_convert_bytes_arg (P:=Tryz.prog) wr 189 5 Tryz.underlying189 Tryz.underlying5 g 0 a0.size C (B.ji a0.size (B.numsOf a0)) hl (fun i hi=>by rw [ajD];exact (hrow.out i (by rw [hl];exact hi)).1) dst hd
    replace kd:=kd 9 Tryz.underlying9
    have he:=ah.mk (show strOfNums (B.ji a0.size (B.numsOf a0)) = B.gU a0 by
     have:=B.Bg (B.numsOf a0)
     rw [hz.out] at this
     rw [this];rfl)
    generalize strOfNums (B.ji a0.size (B.numsOf a0)) = q at kd he
    clear hrow hl hlt
    have he':=he.out
    clear he
    subst he'
    go_wp2
    go_ret
    exact ⟨rfl,by rw [hg'.out];exact hbel.out⟩
 ·rw [ai9 hs] at h
  exact absurd h (by simp)
def ng.f (k:Nat) (a0:ByteArray):Option (ByteArray):=(fQ.f k a0).bind fun KH=>(if KH = true then ((jk.f a0).bind fun t109=>(some t109)) else (some (⟨#[]⟩:ByteArray)))
theorem ng.calls (k:Nat) (a0:ByteArray) (r:ByteArray) (w:World) (h:ng.f k a0 = some r) :
  Calls Tryz.prog 68 #[.string a0] w fun e w'=>e = .returned (.string r) ∧ Below w.heap.size w w':=by
 have HB:=ah.mk (Below.refl w.heap.size w)
 have H:((fQ.f k a0).bind fun KH=>(if KH = true then ((jk.f a0).bind fun t109=>(some t109)) else (some (⟨#[]⟩:ByteArray)))) = some r:=h
 clear h
 replace H:=zbm H
 obtain ⟨KH,Fw,H⟩:=H
 replace H:(if KH = true then ((jk.f a0).bind fun t109=>(some t109)) else (some (⟨#[]⟩:ByteArray))) = some r:=H
 have A2:=ah.mk Fw
 clear Fw
 by_cases c3:KH = true
 ·subst c3
  have H1:((jk.f a0).bind fun t109=>(some t109)) = some r:=by rw [ai8 rfl] at H;exact H
  clear H
  have H:=H1
  clear H1
  replace H:=zbm H
  obtain ⟨t109,OA,H⟩:=H
  replace H:(some t109) = some r:=H
  have A4:=ah.mk OA
  clear OA
  obtain rfl:=ajz H
  go_enter Tryz.func68,Tryz.ntmps68
  go_wp2_with (first | ((with_reducible refine bS (f:=109) rfl ?_);refine gJ (some 4) rfl rfl Tryz.func109 (by kernel_rfl) rfl #[.string a0] rfl (by (try simp only [ajG,ajk,ajn]) <;> rfl) ?_;(with_reducible refine (fQ.calls k a0 true _ A2.out).mono ?_);rintro e w5 ⟨rfl,hb⟩;refine ⟨_,rfl,?_⟩;have fM:=ah.mk (bL (by repeat first | exact HB.out | apply ak | apply aj | apply au) hb);clear HB;have HB:=fM;clear fM;(try clear hb);(try clear hb2);(try clear hk);(try clear hi)) | ((with_reducible refine bS (f:=110) rfl ?_);refine gJ (some 7) rfl rfl Tryz.func110 (by kernel_rfl) rfl #[.string a0] rfl (by (try simp only [ajG,ajk,ajn]) <;> rfl) ?_;(with_reducible refine (jk.calls a0 t109 _ A4.out).mono ?_);rintro e w6 ⟨rfl,hb⟩;refine ⟨_,rfl,?_⟩;have fM:=ah.mk (bL (by repeat first | exact HB.out | apply ak | apply aj | apply au) hb);clear HB;have HB:=fM;clear fM;(try clear hb);(try clear hb2);(try clear hk);(try clear hi)))
  go_ret
  exact ⟨by first | rfl | (simp [aJ,aK] <;> rfl) | (simp [*,aJ,aK] <;> rfl),by repeat (first | exact HB.out | apply ak | apply aj | apply au)⟩
 ·replace c3:=ajP.mpr c3
  subst c3
  have H1:(some (⟨#[]⟩:ByteArray)) = some r:=by rw [ai9 (show ¬ (false = true) by decide)] at H;exact H
  clear H
  have H:=H1
  clear H1
  obtain rfl:=ajz H
  go_enter Tryz.func68,Tryz.ntmps68
  go_wp2_with (first | ((with_reducible refine bS (f:=109) rfl ?_);refine gJ (some 4) rfl rfl Tryz.func109 (by kernel_rfl) rfl #[.string a0] rfl (by (try simp only [ajG,ajk,ajn]) <;> rfl) ?_;(with_reducible refine (fQ.calls k a0 false _ A2.out).mono ?_);rintro e w7 ⟨rfl,hb⟩;refine ⟨_,rfl,?_⟩;have fM:=ah.mk (bL (by repeat first | exact HB.out | apply ak | apply aj | apply au) hb);clear HB;have HB:=fM;clear fM;(try clear hb);(try clear hb2);(try clear hk);(try clear hi)))
  go_ret
  exact ⟨by first | rfl | (simp [aJ,aK] <;> rfl) | (simp [*,aJ,aK] <;> rfl),by repeat (first | exact HB.out | apply ak | apply aj | apply au)⟩
def uD.f (k:Nat) (a0:ByteArray):Option (ByteArray × Bool):=(fQ.f k a0).bind fun t201=>(if t201 = true then (if a0.toList = ([0]:List UInt8) then (some ((⟨#[]⟩:ByteArray),false)) else (if 0 < (a0.size:Int) then (if 0 ≤ (wrap64 (1 + (wrap64 (bt a0 0)))) then (if (wrap64 (1 + (wrap64 (bt a0 0)))) ≤ (a0.size:Int) then (some (a0.extract ((wrap64 (1 + (wrap64 (bt a0 0)))):Int).toNat a0.size,true)) else (none)) else (none)) else (none))) else (some ((⟨#[]⟩:ByteArray),false)))
theorem uD.calls (k:Nat) (a0:ByteArray) (r1:ByteArray) (r2:Bool) (w:World) (h:uD.f k a0 = some (r1,r2)) :
  Calls Tryz.prog 71 #[.string a0] w fun e w'=>e = .returned (.tuple #[.string r1,.bool r2]) ∧ Below w.heap.size w w':=by
 have HB:=ah.mk (Below.refl w.heap.size w)
 have H:((fQ.f k a0).bind fun t201=>(if t201 = true then (if a0.toList = ([0]:List UInt8) then (some ((⟨#[]⟩:ByteArray),false)) else (if 0 < (a0.size:Int) then (if 0 ≤ (wrap64 (1 + (wrap64 (bt a0 0)))) then (if (wrap64 (1 + (wrap64 (bt a0 0)))) ≤ (a0.size:Int) then (some (a0.extract ((wrap64 (1 + (wrap64 (bt a0 0)))):Int).toNat a0.size,true)) else (none)) else (none)) else (none))) else (some ((⟨#[]⟩:ByteArray),false)))) = some (r1,r2):=h
 clear h
 replace H:=zbm H
 obtain ⟨t201,Fw,H⟩:=H
 replace H:(if t201 = true then (if a0.toList = ([0]:List UInt8) then (some ((⟨#[]⟩:ByteArray),false)) else (if 0 < (a0.size:Int) then (if 0 ≤ (wrap64 (1 + (wrap64 (bt a0 0)))) then (if (wrap64 (1 + (wrap64 (bt a0 0)))) ≤ (a0.size:Int) then (some (a0.extract ((wrap64 (1 + (wrap64 (bt a0 0)))):Int).toNat a0.size,true)) else (none)) else (none)) else (none))) else (some ((⟨#[]⟩:ByteArray),false))) = some (r1,r2):=H
 have A2:=ah.mk Fw
 clear Fw
 by_cases c3:t201 = true
 ·subst c3
  have H1:(if a0.toList = ([0]:List UInt8) then (some ((⟨#[]⟩:ByteArray),false)) else (if 0 < (a0.size:Int) then (if 0 ≤ (wrap64 (1 + (wrap64 (bt a0 0)))) then (if (wrap64 (1 + (wrap64 (bt a0 0)))) ≤ (a0.size:Int) then (some (a0.extract ((wrap64 (1 + (wrap64 (bt a0 0)))):Int).toNat a0.size,true)) else (none)) else (none)) else (none))) = some (r1,r2):=by rw [ai8 rfl] at H;exact H
  clear H
  have H:=H1
  clear H1
  by_cases c4:a0.toList = ([0]:List UInt8)
  ·rw [ai8 c4] at H
   have yZ:(a0.toList == ([0]:List UInt8)) = true:=ajI.mpr c4
   have Hl:(a0.toList != ([0]:List UInt8)) = false:=akz.mpr c4
   clear c4
   simp only [ajl,ajm] at H
   obtain ⟨rfl,rfl⟩:=H
   go_enter Tryz.func71,Tryz.ntmps71
   go_wp2_with (first | ((with_reducible refine bS (f:=109) rfl ?_);refine gJ (some 5) rfl rfl Tryz.func109 (by kernel_rfl) rfl #[.string a0] rfl (by (try simp only [ajG,ajk,ajn]) <;> rfl) ?_;(with_reducible refine (fQ.calls k a0 true _ A2.out).mono ?_);rintro e w5 ⟨rfl,hb⟩;refine ⟨_,rfl,?_⟩;have fM:=ah.mk (bL (by repeat first | exact HB.out | apply ak | apply aj | apply au) hb);clear HB;have HB:=fM;clear fM;(try clear hb);(try clear hb2);(try clear hk);(try clear hi)))
   go_ret2
   exact ⟨by first | rfl | (simp [aJ,aK] <;> rfl) | (simp [*,aJ,aK] <;> rfl),by repeat (first | exact HB.out | apply ak | apply aj | apply au)⟩
  ·rw [ai9 c4] at H
   have yZ:(a0.toList == ([0]:List UInt8)) = false:=aj7.mpr c4
   have Hl:(a0.toList != ([0]:List UInt8)) = true:=aki.mpr c4
   by_cases c6:0 < (a0.size:Int)
   ·rw [ai8 c6] at H
    have Ho:decide (0 < (a0.size:Int)) = true:=aja c6
    have KE:decide (0 < a0.size) = true:=aja (by omega)
    clear c6
    obtain ⟨UQ,OB⟩:∃ j_:Int,(wrap64 (1 + (wrap64 (bt a0 0)))) = j_:=⟨_,rfl⟩
    replace H:(if 0 ≤ (UQ) then (if (UQ) ≤ (a0.size:Int) then (some (a0.extract ((UQ):Int).toNat a0.size,true)) else (none)) else (none)) = some (r1,r2):=by first | (rw [OB] at H;exact H) | (simp only [OB] at H ⊢;exact H)
    (try rw [OB] at A2)
    have ahX:(IntKind.i64.wrap (1 + (wrap64 (bt a0 0)))) = UQ:=(iI _).trans OB
    by_cases c9:0 ≤ (UQ)
    ·rw [ai8 c9] at H
     have Hq:=ajj c9
     have Oy:decide (0 ≤ (UQ)) = true:=aja c9
     clear c9
     by_cases c10:(UQ) ≤ (a0.size:Int)
     ·rw [ai8 c10] at H
      have Fv:=ajj c10
      have Jl:decide ((UQ) ≤ (a0.size:Int)) = true:=aja c10
      clear c10
      simp only [ajl,ajm] at H
      obtain ⟨rfl,rfl⟩:=H
      go_enter Tryz.func71,Tryz.ntmps71
      go_wp2_with (first | ((with_reducible refine bS (f:=109) rfl ?_);refine gJ (some 5) rfl rfl Tryz.func109 (by kernel_rfl) rfl #[.string a0] rfl (by (try simp only [ajG,ajk,ajn]) <;> rfl) ?_;(with_reducible refine (fQ.calls k a0 true _ A2.out).mono ?_);rintro e UR ⟨rfl,hb⟩;refine ⟨_,rfl,?_⟩;have fM:=ah.mk (bL (by repeat first | exact HB.out | apply ak | apply aj | apply au) hb);clear HB;have HB:=fM;clear fM;(try clear hb);(try clear hb2);(try clear hk);(try clear hi);have p7:0 ≤ (0:Int):=(by omega);have q7:0 < a0.size:=(by have:(0:Int) < (a0.size:Int):=ajw (by first | (with_reducible assumption) | assumption);omega);have hx7:∀ h:0 < a0.size,((a0[0]'h).toNat:Int) = bt a0 0:=pE a0 0;clear p7;have qi7:(0 < (a0.size:Int)) = True:=ajj (ajw (by first | (with_reducible assumption) | assumption));replace q7:=ajj q7))
      go_ret2
      exact ⟨by first | rfl | (simp [aJ,aK] <;> rfl) | (simp only [← OB];first | rfl | (simp [aJ,aK] <;> rfl)) | (simp [*,aJ,aK] <;> rfl),by repeat (first | exact HB.out | apply ak | apply aj | apply au)⟩
     ·rw [ai9 c10] at H
      exact absurd H (by simp)
    ·rw [ai9 c9] at H
     exact absurd H (by simp)
   ·rw [ai9 c6] at H
    exact absurd H (by simp)
 ·replace c3:=ajP.mpr c3
  subst c3
  have H1:(some ((⟨#[]⟩:ByteArray),false)) = some (r1,r2):=by rw [ai9 (show ¬ (false = true) by decide)] at H;exact H
  clear H
  have H:=H1
  clear H1
  simp only [ajl,ajm] at H
  obtain ⟨rfl,rfl⟩:=H
  go_enter Tryz.func71,Tryz.ntmps71
  go_wp2_with (first | ((with_reducible refine bS (f:=109) rfl ?_);refine gJ (some 5) rfl rfl Tryz.func109 (by kernel_rfl) rfl #[.string a0] rfl (by (try simp only [ajG,ajk,ajn]) <;> rfl) ?_;(with_reducible refine (fQ.calls k a0 false _ A2.out).mono ?_);rintro e w12 ⟨rfl,hb⟩;refine ⟨_,rfl,?_⟩;have fM:=ah.mk (bL (by repeat first | exact HB.out | apply ak | apply aj | apply au) hb);clear HB;have HB:=fM;clear fM;(try clear hb);(try clear hb2);(try clear hk);(try clear hi)))
  go_ret2
  exact ⟨by first | rfl | (simp [aJ,aK] <;> rfl) | (simp [*,aJ,aK] <;> rfl),by repeat (first | exact HB.out | apply ak | apply aj | apply au)⟩
end
end Go.Proofs.YtfokaoeinpnagaaGreat.ZQ
namespace Go.Proofs.YtfokaoeinpnagaaGreat.B
open Go.RowKit Go.Proofs.YtfokaoeinpnagaaGreatW.aX
structure vF (T e:TypeId) (B b o:Nat) (cs:Array Value) (p v:Value) (bs:List Value) (w:World):Prop where
 base:B ≤ b
 blk:w.heap[b]? = some (.cells cs T (0,0))
 p_:cs[o]? = some p
 v_:cs[o + 1]? = some v
 self:p = .pointer none ∨ p = .pointer (some ⟨b,o,none⟩)
 own:w.ownsRow B e 1 v bs.length bs
 ne:v.ownBlock ≠ some b
theorem vF.lt {T e:TypeId} {B b o:Nat} {cs:Array Value} {p v:Value} {bs:List Value} {w:World} (h:vF T e B b o cs p v bs w):b < w.heap.size:=by
 rcases ako b w.heap.size with h' | h'
 ·exact h'
 ·have:=h.blk;rw [akh h'] at this;cases this
theorem heap_set {w:World} {b o:Nat} {cs:Array Value} {T:TypeId} {fr:Nat × Nat} (h:w.heap[b]? = some (.cells cs T fr)) (x:Value):(w.setCell ⟨b,o,none⟩ x).heap[b]? = some (.cells (cs.setIfInBounds o x) T fr):=by
 simp [World.setCell,Array.getElem?_modify,h]
theorem Dm {w:World} {B b o:Nat} {e:TypeId} {n k:Nat} {v x:Value} {xs:List Value} (h:w.ownsRow B e n v k xs) (hne:v.ownBlock ≠ some b):(w.setCell ⟨b,o,none⟩ x).ownsRow B e n v k xs :=
 h.kept (row:=some b) ⟨rfl,rfl,rfl,by simp [World.setCell],fun k _ hk=>Below.heap_setCell _ _ _ _ (fun e=>hk (by simp [e]))⟩ (Or.inr hne)
theorem vF.used {T e:TypeId} {B b o:Nat} {cs:Array Value} {p v:Value} {bs:List Value} {w:World} (h:vF T e B b o cs p v bs w) :
  vF T e B b o (cs.setIfInBounds o (.pointer (some ⟨b,o,none⟩))) (.pointer (some ⟨b,o,none⟩)) v bs (w.setCell ⟨b,o,none⟩ (.pointer (some ⟨b,o,none⟩))):=by
 have ho:o < cs.size:=by
  rcases ako o cs.size with h' | h'
  ·exact h'
  ·have:=h.p_;rw [akh h'] at this;cases this
 exact ⟨h.base,heap_set h.blk _,by simp [ho],by simpa [akf] using h.v_,.inr rfl,Dm h.own h.ne,h.ne⟩
theorem vF.KI {T e:TypeId} {B b o:Nat} {cs:Array Value} {v:Value} {bs:List Value} {w:World} (h:vF T e B b o cs (.pointer (some ⟨b,o,none⟩)) v bs w) :
  cs.setIfInBounds o (.pointer (some ⟨b,o,none⟩)) = cs:=by
 apply Array.ext_getElem?
 intro i
 rw [akf]
 by_cases e:o = i
 ·subst e
  have:=h.p_
  rw [ai8 rfl]
  split
  ·exact this.symm
  ·rename_i hn;rw [akh (by omega)] at this;cases this
 ·rw [ai9 e]
theorem vF.put {T e:TypeId} {B b o:Nat} {cs:Array Value} {p v v':Value} {bs bs':List Value} {w w':World} (h:vF T e B b o cs p v bs w) (hb:w'.heap[b]? = some (.cells cs T (0,0))) (hown:w'.ownsRow B e 1 v' bs'.length bs') (hTe:T ≠ e) :
  vF T e B b o (cs.setIfInBounds (o + 1) v') p v' bs' (w'.setCell ⟨b,o + 1,none⟩ v'):=by
 have hne:=Lib.ownBlock_ne hown hb hTe
 have ho:o + 1 < cs.size:=by
  rcases ako (o + 1) cs.size with h' | h'
  ·exact h'
  ·have:=h.v_;rw [akh h'] at this;cases this
 exact ⟨h.base,heap_set hb _,by simpa [akf] using h.p_,by simp [ho],h.self,Dm hown hne,hne⟩
theorem vF.set {T e:TypeId} {B b o:Nat} {cs:Array Value} {p v:Value} {bs:List Value} {w:World} (h:vF T e B b o cs p v bs w) (i:Nat) (x:Value) (h1:i ≠ o) (h2:i ≠ o + 1) :
  vF T e B b o (cs.setIfInBounds i x) p v bs (w.setCell ⟨b,i,none⟩ x) :=
 ⟨h.base,heap_set h.blk _,by rw [akf,ai9 h1];exact h.p_,by rw [akf,ai9 h2];exact h.v_,h.self,Dm h.own h.ne,h.ne⟩
theorem vF.drewN {T e:TypeId} {B b o:Nat} {cs:Array Value} {p v:Value} {bs:List Value} {w:World} (h:vF T e B b o cs p v bs w) (n:Nat):vF T e B b o cs p v bs (w.drewN n):=⟨h.base,h.blk,h.p_,h.v_,h.self,h.own,h.ne⟩
theorem vF.below {T e:TypeId} {B b o:Nat} {cs:Array Value} {p v:Value} {bs:List Value} {w w':World} (h:vF T e B b o cs p v bs w) (hb:Below w.heap.size w w'):vF T e B b o cs p v bs w' :=
 ⟨h.base,(hb.block b h.lt).trans h.blk,h.p_,h.v_,h.self,tY h.own hb,h.ne⟩
theorem wS (t s:ByteArray):Lib.strCells t ++ Lib.strCells s = Lib.strCells (t ++ s):=by
 simp [Lib.strCells]
theorem y5 (t:ByteArray):Lib.strCells t = Lib.byteCells t.data.toList:=rfl
end Go.Proofs.YtfokaoeinpnagaaGreat.B

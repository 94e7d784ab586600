/- A part of the proof of SeekStill: cut, joined and given short names by a program of this session (wip/tools/pack.py); Lean checks it. No condition. -/
import Derived.Test.YtfokaoeinpnagaaGreatPSSlli
import Derived.Test.YtfokaoeinpnagaaGreatPSSllg
import Derived.Test.YtfokaoeinpnagaaGreatPSSlld
set_option linter.unusedSectionVars false
set_option linter.unusedSimpArgs false
set_option linter.unusedVariables false
set_option maxHeartbeats 16000000
set_option maxRecDepth 100000
namespace Go.Proofs.YtfokaoeinpnagaaGreat.Kc
section
attribute [local go_sem_proc] Nat.reduceAdd Nat.reduceMul Nat.reduceEqDiff Nat.reduceBEq Nat.reduceMod Nat.reduceDiv reduceCtorEq
attribute [local go_sem_proc ↓] reduceIte
open Go Ev
variable {ext : Env} {F n:Nat}
structure Th where
 jL:ByteArray → Bool
 low:ByteArray → ByteArray
 CS:Int → ByteArray → Bool
 lw:Int → ByteArray → ByteArray
structure Th.CU (r:Bool) (θ:Th) (ext:Env):Prop where
 nc:∀ q,q.size ≤ 1000000 → ext 109 [vs q] = some ([vb (θ.jL q)],[vs q])
 nl:∀ q,q.size ≤ 1000000 → ext 68 [vs q] = some ([vs (θ.low q)],[vs q])
 rc:r = true → ∀ q,q.size ≤ 1000000 → ext 42 [vs q] = some ([vb (θ.jL q)],[vs q])
 rl:r = true → ∀ q,q.size ≤ 1000000 → ext 41 [vs q] = some ([vs (θ.low q)],[vs q])
 dc:∀ k q,q.size ≤ 1000000 → ext 128 [vi k,vs q] = some ([vb (θ.CS k q)],[vi k,vs q])
 dl:∀ k q,q.size ≤ 1000000 → ext 132 [vi k,vs q] = some ([vs (θ.lw k q)],[vi k,vs q])
 ec:r = true → ∀ k q,q.size ≤ 1000000 → ext 118 [vi k,vs q] = some ([vb (θ.CS k q)],[vi k,vs q])
 el:r = true → ∀ k q,q.size ≤ 1000000 → ext 119 [vi k,vs q] = some ([vs (θ.lw k q)],[vi k,vs q])
abbrev Th.Ok (θ:Th) (ext:Env):Prop:=θ.CU true ext
variable {θ : Th}
theorem Tj {rb:Bool} (T:θ.CU rb ext) (q:ByteArray) (h:q.size ≤ 1000000):G ext F (n + 1) 109 [vs q] = some ([vb (θ.jL q)],[vs q]):=(aiD (gN rfl) _).trans (T.nc q h)
theorem LU {rb:Bool} (T:θ.CU rb ext) (q:ByteArray) (h:q.size ≤ 1000000):G ext F (n + 1) 68 [vs q] = some ([vs (θ.low q)],[vs q]):=(aiD (gN rfl) _).trans (T.nl q h)
theorem Z9 {rb:Bool} (T:θ.CU rb ext) (k:Int) (q:ByteArray) (h:q.size ≤ 1000000):G ext F (n + 1) 128 [vi k,vs q] = some ([vb (θ.CS k q)],[vi k,vs q]):=(aiD (gN rfl) _).trans (T.dc k q h)
theorem aac {rb:Bool} (T:θ.CU rb ext) (k:Int) (q:ByteArray) (h:q.size ≤ 1000000):G ext F (n + 1) 132 [vi k,vs q] = some ([vs (θ.lw k q)],[vi k,vs q]):=(aiD (gN rfl) _).trans (T.dl k q h)
def Th.key (θ:Th) (q:ByteArray) (t c:Int):Bool:=decide (θ.jL q = true ∧ θ.low q = q ∧ (0 ≤ t ∧ t ≤ 65535) ∧ (0 ≤ c ∧ c ≤ 65535))
def Th.dat (θ:Th) (t:Int) (d:List ByteArray):Bool:=decide ((∀ x ∈ d,θ.CS t x = true ∧ θ.lw t x = x) ∧ d.Nodup)
def Th.set (θ:Th) (q:ByteArray) (t c:Int) (d:List ByteArray) (ttl:Int):Bool:=decide (θ.key q t c = true ∧ θ.dat t d = true ∧ (0 ≤ ttl ∧ ttl < 2147483648) ∧ d ≠ [])
theorem Ho {l:List ByteArray} {s:ByteArray}:xJ l s = true ↔ s ∈ l:=by
 unfold xJ
 rw [ai0]
 simp
theorem LV {l:List ByteArray}:((l.map aY).all fun r=>r.length == 1) = true:=by
 rw [aib]
 intro r hr
 obtain ⟨x, -,rfl⟩:=aiq.mp hr
 rfl
theorem LW {t:Int} {d:List ByteArray} {i:Nat} {x:ByteArray} (hx:d[i]? = some x) (h:θ.dat t (d.take i) = true) (hc:θ.CS t x = true) (hw:θ.lw t x = x) (hi:xJ (d.take i) x = false):θ.dat t (d.take (i + 1)) = true:=by
 unfold Th.dat at *
 have hi:¬ x ∈ d.take i:=fun h=>by rw [Ho.mpr h] at hi;cases hi
 rw [aii] at *
 refine ⟨all_succ h.1 hx ⟨hc,hw⟩,?_⟩
 rw [aiL,hx,Option.toList_some]
 refine ajr.mpr ⟨h.2,List.pairwise_singleton _ _,fun a ha b hb=>?_⟩
 rw [aiR] at hb;subst hb;rintro rfl;exact hi ha
theorem FE {t:Int} {d:List ByteArray} {i:Nat} {x:ByteArray} (hx:d[i]? = some x) (h:θ.CS t x = false ∨ θ.lw t x ≠ x ∨ xJ (d.take i) x = true):θ.dat t d = false:=by
 unfold Th.dat
 rw [aiT]
 rintro ⟨h1,h2⟩
 have hm:=h1 x (ai2 hx)
 rcases h with h | h | h
 ·rw [h] at hm;simp at hm
 ·exact h hm.2
 ·rw [Ho,ajM] at h
  obtain ⟨j,hj,he⟩:=h
  have h3:=aiO.mp hx
  exact List.pairwise_iff_getElem.mp h2 j i (by omega) h3.1 (by omega) (by rw [he,h3.2])
theorem z8 {rb:Bool} (T:θ.CU rb ext) (q:ByteArray) (t c:Int) (d:List ByteArray) (ttl:Int) (hl:d.length ≤ 1000000000000) (hF:200000000000001 ≤ F) (hq:q.size ≤ 1000000) (hd:∀ x ∈ d,x.size ≤ 1000000):G ext F (n + 3) 113 [oF q t c d ttl] = some ([vb (θ.set q t c d ttl)],[oF q t c d ttl]):=by
 refine cK (cf:=PW) rfl ?_
 have h1:=fun n=>Tj (F:=F) (n:=n) T q hq
 have h2:=fun n=>LU (F:=F) (n:=n) T q hq
 dsimp only [PW,ak,bU,aR,bD,aD,bq,dB,dU,cB,aC,bP,bV,bI,aN];simp only [h1,h2,Tg,go_sem]
 repeat' (refine dI (fun h=>?_) (fun h=>?_) <;> simp only [h,h1,h2,Tg,go_sem])
 ·refine jH d.length (fun i=>⟨[(1,PV.c (CV.one (PL.ptr 40000 0))),(3,PV.c (CV.one (PL.ptr 80000 0))),(39,PV.c (CV.one (PL.f (FV.sl (List.map aY d))))),(40,PV.c (CV.one (PL.f (FV.int IntKind.i64 (List.map aY d).length)))),(41,PV.c (CV.one (PL.f (FV.int .i64 i))))],[(40000,.dM [.f (.str q),.f (.int .i64 t),.f (.int .i64 c),.f (.sl (d.map aY)),.f (.int .i64 ttl)]),(80000,Ob.dM [PL.f (FV.str q),PL.f (FV.int IntKind.i64 t),PL.f (FV.int IntKind.i64 c)])]⟩) (fun i=>θ.dat t (d.take i) = true) (by omega) rfl (by simp [Th.dat]) (fun i hi hP=>?_) (fun hP=>?_)
  ·obtain ⟨x,hx,hlt,ht,h0⟩:=at_ hi
   have hn:=nx hi (aij hl (by decide))
   have h1:=fun n=>Z9 (F:=F) (n:=n) T t x (hd x (ai2 hx))
   have h2:=fun n=>aac (F:=F) (n:=n) T t x (hd x (ai2 hx))
   have h3:=fun n=>DW (ext:=ext) (F:=F) (n:=n) (d.take i) x (by simp;omega) hF
   have hle:(i:Int) ≤ (d.length:Int):=by omega
   have hrw:=@LV d
   have hcut:(0:Int) ≤ i ∧ (i:Int) ≤ d.length:=by omega
   simp only [ahZ,ah3,hlt,hx,ht,h0,aY,h1,h2,h3,go_sem]
   repeat' (refine dI (fun h=>?_) (fun h=>?_) <;> simp only [h,ahZ,ah3,hlt,hx,ht,h0,hn,aY,h1,h2,h3,hle,hrw,← List.map_take,ai9,Nat.sub_zero,hcut,go_sem])
   ·simp [Th.set,FE hx (.inr (.inr h))]
   ·exact LW hx hP (by assumption) (aiB (by assumption)) h
   ·simp [Th.set,FE hx (.inr (.inl (of_decide_eq_false h)))]
   ·simp [Th.set,FE hx (.inl h)]
  ·have hd:=@end_ _ d
   rw [aiC] at hP
   simp only [ahZ,hd,go_sem]
   repeat' (refine dI (fun h=>?_) (fun h=>?_) <;> simp only [h,ahZ,hd,go_sem])
   all_goals (simp [Th.set,Th.key,hP];simp_all)
   all_goals (cases d <;> simp <;> omega)
 all_goals (simp [Th.set,Th.key];try simp_all)
 all_goals (try omega)
end
section
open Go Ev
variable {ext : Env} {F n:Nat} {θ:Th}
structure Sr where
 room:Int
 l:List It
 ch:Int
abbrev Sr.v (s:Sr):AV:=vst s.room s.l s.ch
abbrev It.v (x:It):AV:=vit x.q x.t x.c x.d x.ttl x.u x.r
def it0 : It:=⟨⟨#[]⟩,0,0,[],0,0,0⟩
def old (l:List It) (k:Qn):Option It:=l.find? fun x=>decide (x.k = k)
def rid (l:List It) (k:Qn):List It:=l.eraseP fun x=>decide (x.k = k)
end
section
attribute [local go_sem_proc] Nat.reduceAdd Nat.reduceMul Nat.reduceEqDiff Nat.reduceBEq Nat.reduceMod Nat.reduceDiv reduceCtorEq
attribute [local go_sem_proc ↓] reduceIte
open Go Ev
variable {ext : Env} {F n:Nat}
theorem uY {α:Type} {body:St → Option (Out × St)} {rs:St → St} {k:Out × St → Prop} {u:Tok k} {F:Nat} {σ:St} (N:Nat) (T:α → St) (P:Nat → α → Prop) (hF:N < F) (x:α) (hs:rs σ = T x) (h0:P 0 x)
  (step:∀ i x,i < N → P i x → W (fun p=>match p.1 with
   | .iK=>∃ y,rs p.2 = T y ∧ P (i + 1) y
   | o=>k (o,p.2)) ⟨⟩ (body (T x)))
  (last:∀ x,P N x → W (fun p=>match p.1 with
   | .iK=>False
   | o=>k (o,p.2)) ⟨⟩ (body (T x))):W k u (iter body rs F σ):=by
 refine BO (fun m σ=>∃ i x,i ≤ N ∧ m = N - i ∧ rs σ = T x ∧ P i x) ?_ F N σ hF ⟨0,x,aiy _,rfl,hs,h0⟩
 rintro m σ ⟨i,x,hi,rfl,hr,hP⟩
 rw [hr]
 by_cases hlt:i < N
 ·refine uE (step i x hlt hP) fun p hp=>?_
  obtain ⟨o,s⟩:=p
  cases o with
  | iK =>
   obtain ⟨y,h1,h2⟩:=hp
   exact ⟨N - (i + 1),by omega,i + 1,y,by omega,rfl,h1,h2⟩
  | ext j=>exact hp
  | ret=>exact hp
 ·have:i = N:=by omega
  subst this
  refine uE (last x hP) fun p hp=>?_
  obtain ⟨o,s⟩:=p
  cases o with
  | iK=>exact hp.elim
  | ext j=>exact hp
  | ret=>exact hp
abbrev Qn.f (k:Qn):List FV:=[.str k.q,.int .i64 k.t,.int .i64 k.c]
abbrev fnQ (k:Qn):AV:=.one (.fn 135 [k.f])
theorem LX (x k:Qn):G ext F (n + 1) 135 [vq x.q x.t x.c,.one (.fp k.f)] = some ([vb (decide (x = k))],[vq x.q x.t x.c,.one (.fp k.f)]):=by
 refine cK (cf:=P5) rfl ?_
 dsimp only [P5,ak,bU,aR,bD,aD,bq,dB,dU,cB,aC,bP,bV,bI,aN];simp only [go_sem]
 cases x;cases k;simp
def Tm (l:List Qn) (k:Qn):Int:=match l.findIdx? fun x=>decide (x = k) with | some i=>i | none=>-1
theorem VI {l:List Qn} {k:Qn} (h:∀ x ∈ l,x ≠ k):Tm l k = -1:=by
 have:l.findIdx? (fun x=>decide (x = k)) = none:=ajx.mpr fun x hx=>by simpa using h x hx
 simp [Tm,this]
theorem VJ {l:List Qn} {k:Qn} {i:Nat} {x:Qn} (h:∀ x ∈ l.take i,x ≠ k) (hx:l[i]? = some x) (hk:x = k):Tm l k = i:=by
 have hi:=(aiO.mp hx)
 have:l.findIdx? (fun x=>decide (x = k)) = some i:=by
  refine ajj.mpr ⟨hi.1,by simp [hi.2,hk],fun j hj=>?_⟩
  have:=h (l[j]'(by have:=hi.1;omega)) (by rw [ajM];exact ⟨j,by have:=hi.1;omega,rfl⟩)
  simpa using this
 simp [Tm,this]
theorem VK (l:List Qn) (k:Qn):(Tm l k = -1 ∧ ∀ x ∈ l,x ≠ k) ∨ ∃ (i:Nat),Tm l k = (i:Int) ∧ ∃ h:i < l.length,(∀ x ∈ l.take i,x ≠ k) ∧ l[i] = k:=by
 have hp:Tm l k = match l.findIdx? fun x=>decide (x = k) with | some i=>(i:Int) | none=>-1:=rfl
 cases h:l.findIdx? fun x=>decide (x = k) with
 | none =>
  rw [h] at hp
  exact .inl ⟨hp,fun x hx=>by simpa using ajx.mp h x hx⟩
 | some i =>
  rw [h] at hp
  obtain ⟨hi,hx,hb⟩:=ajj.mp h
  refine .inr ⟨i,hp,hi,fun x hx=>?_,by simpa using hx⟩
  obtain ⟨j,hj,rfl⟩:=ajM.mp hx
  have:=hb j (by omega)
  simpa using this
theorem BR (l:List Qn) (k:Qn) (hl:l.length ≤ 1000000000000) (hF:200000000000001 ≤ F):G ext F (n + 2) 149 [vl (l.map rQ),fnQ k] = some ([vi (Tm l k)],[vl (l.map rQ),fnQ k]):=by
 refine cK (cf:=P8) rfl ?_
 dsimp only [P8,ak,bU,aR,bD,aD,bq,dB,dU,cB,aC,bP,bV,bI,aN];simp only [go_sem]
 refine jH l.length (fun i=>⟨[(0,PV.c (CV.one (PL.f (FV.sl (l.map rQ))))),(1,PV.c (CV.one (PL.fn 135 [k.f]))),(7,PV.c (CV.one (PL.f (FV.int .i64 (l.map rQ).length)))),(8,PV.c (CV.one (PL.f (FV.int .i64 i))))],[]⟩) (fun i=>∀ x ∈ l.take i,x ≠ k) (by omega) rfl (by simp) (fun i hi hP=>?_) (fun hP=>?_)
 ·obtain ⟨x,hx,hd,ht,h0⟩:=at_ hi
  have hn:=nx hi (aij hl (by decide))
  have hq:=fun n=>LX (ext:=ext) (F:=F) (n:=n) x k
  simp only [ahZ,ah3,hd,hx,ht,h0,rQ,hq,go_sem]
  repeat' (refine dI (fun h=>?_) (fun h=>?_) <;> simp only [h,ahZ,ah3,hd,hx,ht,h0,hn,rQ,hq,go_sem])
  ·rw [VJ hP hx (by simpa using h)]
  ·exact all_succ hP hx (by simpa using h)
 ·have hd:=@end_ _ l
  simp only [ahZ,hd,go_sem]
  repeat' (refine dI (fun h=>?_) (fun h=>?_) <;> simp only [h,ahZ,hd,go_sem])
  rw [aiC] at hP
  rw [VI hP]
theorem Qo {l:List Qn} {k x:Qn} {i:Nat} (h:l[i]? = some x):(l.take (i + 1)).filter (fun y=>decide (y ≠ k)) = (l.take i).filter (fun y=>decide (y ≠ k)) ++ if x = k then [] else [x]:=by
 rw [aiL,List.filter_append,h]
 by_cases hx:x = k <;> simp [hx]
theorem zi (l:List Qn) (k:Qn) (hl:l.length ≤ 1000000000000) (hF:200000000000001 ≤ F):G ext F (n + 3) 134 [.one (.own 3 (l.map rQ)),fnQ k] = some ([.one (.own 3 ((l.filter fun x=>decide (x ≠ k)).map rQ))],[.one .any,fnQ k]):=by
 refine cK (cf:=PZ) rfl ?_
 have h1:=fun n=>BR (ext:=ext) (F:=F) (n:=n) l k hl hF
 dsimp only [PZ,ak,bU,aR,bD,aD,bq,dB,dU,cB,aC,bP,bV,bI,aN];simp only [h1,go_sem]
 rcases VK l k with ⟨hp,hno⟩ | ⟨i0,hp,hi0,hpre,hat⟩
 ·rw [hp]
  simp only [show decide ((-1:Int) = -1) = true from rfl,go_sem]
  rw [List.filter_eq_self.mpr (fun x hx=>by simpa using hno x hx)]
 ·rw [hp]
  have hne:decide ((i0:Int) = -1) = false:=by simp
  simp only [hne,nx hi0 (aij hl (by decide)),ahZ,go_sem]
  refine uY (l.length - (i0 + 1)) (fun x:List Qn × Nat × Nat=>⟨[(0,PV.c (CV.one (PL.own 20202 x.1.length))),(1,PV.c (CV.one (PL.fn 135 [k.f]))),(5,PV.c (CV.one (PL.f (FV.int IntKind.i64 x.2.1)))),(6,PV.c (CV.one (PL.f (FV.int IntKind.i64 x.2.2))))],[(20202,Ob.row 3 (x.1.map rQ))]⟩) (fun r x=>x.2.2 = i0 + 1 + r ∧ x.2.1 < x.2.2 ∧ x.1.length = l.length ∧ x.1.take x.2.1 = (l.take x.2.2).filter (fun y=>decide (y ≠ k)) ∧ x.1.drop x.2.2 = l.drop x.2.2) (by omega) (l,i0,i0 + 1) rfl ⟨rfl,Nat.lt_succ_self _,rfl,?_,rfl⟩ (fun r x hr hP=>?_) (fun x hP=>?_)
  ·rw [aiL,List.filter_append,List.filter_eq_self.mpr (fun x hx=>by simpa using hpre x hx),aic hi0]
   simp [hat]
  ·obtain ⟨R,c,j⟩:=x
   obtain ⟨rfl,hc,hlen,htk,hdr⟩:=hP
   simp only at hc hlen htk hdr ⊢
   have hj:i0 + 1 + r < R.length:=by omega
   obtain ⟨x,hx,hd,ht,h0⟩:=at_ hj
   have hn:=nx hj (by omega)
   have hq:=fun n=>LX (ext:=ext) (F:=F) (n:=n) x k
   have hlt:((i0 + 1 + r:Nat):Int) < (R.length:Int):=by omega
   have hcR:c < R.length:=by omega
   obtain ⟨y,hy,hcd,hct,hc0⟩:=at_ hcR
   have hcl:(c:Int) < (R.length:Int):=by omega
   have hcn:=nx hcR (by omega)
   simp only [ahZ,ah3,hd,hx,ht,h0,rQ,hq,hlt,go_sem]
   repeat' (refine dI (fun h=>?_) (fun h=>?_) <;> simp only [h,ahZ,ah3,hd,hx,ht,h0,hn,rQ,hq,hlt,hy,hct,hc0,hcl,hcn,go_sem])
   all_goals
    have hxl:l[i0 + 1 + r]? = some x:=by
     have:=aio (fun z:List Qn=>z[0]?) hdr
     simp only [aiS,Nat.add_zero,hx] at this
     exact this.symm
    have hdr':List.drop (i0 + 1 + r + 1) R = List.drop (i0 + 1 + r + 1) l:=by
     have:=aio (List.drop 1) hdr
     simpa only [List.drop_drop] using this
    have hft:=Qo (k:=k) hxl
   ·simp only [aii] at h
    rw [ahX h,ai1] at hft
    exact ⟨(R,c,i0 + 1 + r + 1),rfl,rfl,by show c < i0 + 1 + r + 1;omega,hlen,by rw [hft];exact htk,hdr'⟩
   ·simp only [aiT] at h
    rw [ahY h] at hft
    refine ⟨(R.set c x,c + 1,i0 + 1 + r + 1),?_,rfl,by show c + 1 < i0 + 1 + r + 1;omega,by simp [hlen],?_,?_⟩
    ·simp [ajk,rQ]
    ·show List.take (c + 1) (R.set c x) = _
     rw [hft,aiL,List.take_set,List.set_eq_of_length_le (by simp;omega),htk,List.getElem?_set_self hcR]
     rfl
    ·show List.drop _ (R.set c x) = _
     rw [List.drop_set_of_lt (show c < i0 + 1 + r + 1 by omega)]
     exact hdr'
  ·obtain ⟨R,c,j⟩:=x
   obtain ⟨rfl,hc,hlen,htk,hdr⟩:=hP
   simp only at hc hlen htk hdr ⊢
   have hj:i0 + 1 + (l.length - (i0 + 1)) = R.length:=by omega
   rw [hj]
   rw [hj,ajB (l:=l) (i:=R.length) (by omega)] at htk
   have hd:=@end_ _ R
   have hct:(c:Int).toNat = c:=by simp
   have htt:List.take c (List.take c (List.map rQ R) ++ List.replicate (R.length - c) [FV.str ⟨#[]⟩,FV.int IntKind.i64 0,FV.int IntKind.i64 0]) = (l.filter fun y=>decide (y ≠ k)).map rQ:=by
    rw [ajL (by simp;omega),List.take_take,Nat.min_self,← List.map_take,htk]
   simp only [ahZ,hd,go_sem]
   repeat' (refine dI (fun h=>?_) (fun h=>?_) <;> simp only [h,ahZ,hd,go_sem])
   rw [hct]
   exact ⟨by omega,by omega,⟨by omega,by simp;omega⟩,by rw [htt]⟩
structure lq (ext:Env):Prop where
 cq:∀ l:List Qn,l.length ≤ 1000000 → ext 115 [vl (l.map rQ)] = some ([.one (.own 3 (l.map rQ))],[vl (l.map rQ)])
 cs:∀ l:List ByteArray,l.length ≤ 1000000 → ext 72 [vl (l.map aY)] = some ([vl (l.map aY)],[vl (l.map aY)])
theorem LY (C:lq ext) (l:List Qn) (h:l.length ≤ 1000000):G ext F (n + 1) 115 [vl (l.map rQ)] = some ([.one (.own 3 (l.map rQ))],[vl (l.map rQ)]):=(aiD (gN rfl) _).trans (C.cq l h)
theorem LZ (C:lq ext) (l:List ByteArray) (h:l.length ≤ 1000000):G ext F (n + 1) 72 [vl (l.map aY)] = some ([vl (l.map aY)],[vl (l.map aY)]):=(aiD (gN rfl) _).trans (C.cs l h)
def CW (l:List Qn) (k:Qn):List Qn:=l.filter fun x=>decide (x ≠ k)
theorem sJ {l:List Qn} {k:Qn}:(CW l k).length ≤ l.length:=List.length_filter_le ..
theorem L6 (C:lq ext) (l:List Qn) (k:Qn) (hl:l.length ≤ 1000000) (hF:200000000000001 ≤ F):G ext F (n + 4) 116 [vl (l.map rQ),vq k.q k.t k.c] = some ([.one (.own 3 ((CW l k).map rQ))],[vl (l.map rQ),vq k.q k.t k.c]):=by
 refine cK (cf:=c116) rfl ?_
 have h1:=fun n=>LY (F:=F) (n:=n) C l hl
 have h2:=fun n=>zi (ext:=ext) (F:=F) (n:=n) l k (by omega) hF
 dsimp only [c116,ak,bU,aR,bD,aD,bq,dB,dU,cB,aC,bP,bV,bI,aN];simp only [h1,h2,go_sem]
 rfl
theorem DY (C:lq ext) (l:List Qn) (k:Qn) (hl:l.length ≤ 1000000) (hF:200000000000001 ≤ F):G ext F (n + 5) 86 [vl (l.map rQ),vq k.q k.t k.c] = some ([vl ((CW l k ++ [k]).map rQ)],[vl (l.map rQ),vq k.q k.t k.c]):=by
 refine cK (cf:=c86) rfl ?_
 have h1:=fun n=>L6 (ext:=ext) (F:=F) (n:=n) C l k hl hF
 have hl2:=@sJ l k
 dsimp only [c86,ak,bU,aR,bD,aD,bq,dB,dU,cB,aC,bP,bV,bI,aN];simp only [h1,ahZ,go_sem]
 have hsz:((CW l k).length + 1) * 32 ≤ 140737488355328:=by omega
 simp [rQ,hsz]
theorem aad (l:List Qn):((l.map rQ).all fun r=>r.length == 3) = true:=by
 rw [aib]
 intro r hr
 obtain ⟨x, -,rfl⟩:=aiq.mp hr
 rfl
theorem L8 (C:lq ext) (l:List Qn) (most:Int) (hl:l.length ≤ 1000000) (hm:0 ≤ most ∧ most ≤ 1000000000000) (hF:200000000000001 ≤ F):G ext F (n + 2) 85 [vl (l.map rQ),vi most] = some ([vl ((l.drop (l.length - most.toNat)).map rQ),vl ((l.take (l.length - most.toNat)).map rQ)],[vl (l.map rQ),vi most]):=by
 refine cK (cf:=c85) rfl ?_
 have h1:=fun n=>LY (F:=F) (n:=n) C (l.drop (l.length - most.toNat)) (by simp;omega)
 have h2:=fun n=>LY (F:=F) (n:=n) C (l.take (l.length - most.toNat)) (by simp;omega)
 obtain ⟨a,ha⟩:∃ a,a = l.length - most.toNat:=⟨_,rfl⟩
 rw [← ha] at h1 h2 ⊢
 have hc:IntKind.i64.wrap ((l.length:Int) - if (if (l.length:Int) < most then (l.length:Int) else most) < 0 then 0 else if (l.length:Int) < most then (l.length:Int) else most) = (a:Int):=by
  rw [oD (by split <;> split <;> omega) (by split <;> split <;> omega)]
  split <;> split <;> omega
 have hat:(a:Int).toNat = a:=by simp
 have hc1:(0:Int) ≤ a ∧ (a:Int) ≤ (l.length:Int):=by omega
 have hk1:List.take (l.length - a) (List.drop a (l.map rQ)) = (l.drop a).map rQ:=by rw [ajB (by simp),List.map_drop]
 have hk2:List.take a (l.map rQ) = (l.take a).map rQ:=List.map_take.symm
 dsimp only [c85,ak,bU,aR,bD,aD,bq,dB,dU,cB,aC,bP,bV,bI,aN];simp only [ahZ,hc,hat,hc1,hk1,hk2,h1,h2,aad l,ai9,Nat.sub_zero,go_sem]
end
section
attribute [local go_sem_proc] Nat.reduceAdd Nat.reduceMul Nat.reduceEqDiff Nat.reduceBEq Nat.reduceMod Nat.reduceDiv reduceCtorEq
attribute [local go_sem_proc ↓] reduceIte
open Go Ev
variable {ext : Env} {F n:Nat} {θ:Th}
abbrev kJ : KS:=.agg [.str,.int .i64,.int .i64]
abbrev kq (k:Qn):KV:=.agg [.str k.q,.int .i64 k.t,.int .i64 k.c]
def ent (x:It):KV × FC:=(kq x.k,.agg (rI x))
structure Sv where
 room:Int
 m:List It
 o:List Qn
 ch:Int
abbrev Sv.v (s:Sv):AV:=.one (.ptr [.f (.int .i64 s.room),.mp kJ (s.m.map ent),.f (.sl (s.o.map rQ)),.f (.int .i64 s.ch)])
def svo : Option Sv → AV
 | some s=>s.v
 | none=>.one .iw
theorem DZ (s:Sv):svo (some s) = s.v:=rfl
theorem FH {a b:Qn}:kq a = kq b ↔ a = b:=by
 constructor
 ·intro h;simp only [kq,KV.agg.injEq,ai3,SV.str.injEq,SV.int.injEq] at h
  cases a;cases b;simp_all
 ·rintro rfl;rfl
theorem lZ (l:List It) (k:Qn):wI (l.map ent) (kq k) = l.findIdx? fun x=>decide (x.k = k):=by
 unfold wI
 rw [List.map_map,List.findIdx?_map]
 refine aio (fun p=>List.findIdx? p l) (funext fun x=>?_)
 simp only [Function.comp,ent]
 by_cases h:x.k = k
 ·simp [h]
 ·have:¬ kq x.k = kq k:=fun e=>h (FH.mp e)
  simp only [this,h,decide_false]
theorem pE (l:List It) (k:Qn):rz (l.map ent) (kq k) = (old l k).map fun x=>.agg (rI x):=by
 have hf:old l k = (l.findIdx? fun x=>decide (x.k = k)).bind fun i=>l[i]?:=List.find?_eq_bind_findIdx?_getElem? ..
 unfold rz
 rw [lZ,hf]
 cases l.findIdx? fun x=>decide (x.k = k) with
 | none=>rfl
 | some i=>simp only [Option.bind_some,ah3];cases l[i]? <;> rfl
theorem xK (l:List It) (k:Qn):AY (l.map ent) (kq k) = (rid l k).map ent:=by
 unfold AY rid
 rw [lZ,List.eraseP_eq_eraseIdx]
 cases l.findIdx? fun x=>decide (x.k = k) with
 | none=>rfl
 | some i=>simp [List.eraseIdx_eq_take_drop_succ,List.map_take,List.map_drop]
def upd (l:List It) (x:It):List It:=match l.findIdx? fun y=>decide (y.k = x.k) with
 | some i=>l.set i x
 | none=>l ++ [x]
theorem xL (l:List It) (x:It):wJ (l.map ent) (kq x.k) (.agg (rI x)) = (upd l x).map ent:=by
 unfold wJ upd
 rw [lZ]
 cases l.findIdx? fun y=>decide (y.k = x.k) with
 | none=>simp [ent]
 | some i=>simp [ajk,ent]
theorem L9 (room:Int):G ext F (n + 1) 48 [vi room] = some ([svo (if room < 1 ∨ 1000 < room then none else some ⟨room,[],[],0⟩)],[vi room]):=by
 refine cK (cf:=c48) rfl ?_
 dsimp only [c48,ak,bU,aR,bD,aD,bq,dB,dU,cB,aC,bP,bV,bI,aN];simp only [go_sem]
 repeat' (refine dI (fun h=>?_) (fun h=>?_) <;> simp only [h,go_sem])
 all_goals (simp only [aii,aiT] at *)
 all_goals first | rw [ahX (by omega)] | rw [ahY (by omega)]
 all_goals rfl
theorem D5 (C:lq ext) (x:It) (hx:x.d.length ≤ 1000000):G ext F (n + 2) 79 [x.v] = some ([x.v],[x.v]):=by
 refine cK (cf:=c79) rfl ?_
 have h1:=fun n=>LZ (F:=F) (n:=n) C x.d hx
 dsimp only [c79,ak,bU,aR,bD,aD,bq,dB,dU,cB,aC,bP,bV,bI,aN];simp only [h1,go_sem]
def bA (s:Sv) (now:Int) (k:Qn):It × Bool:=match old s.m k with
 | some x=>if jr now x.u then (x,true) else (it0,false)
 | none=>(it0,false)
theorem Hq (C:lq ext) (s:Sv) (now:Int) (k:Qn) (hd:∀ x ∈ s.m,x.d.length ≤ 1000000):G ext F (n + 3) 43 [s.v,vi now,vq k.q k.t k.c] = some ([(bA s now k).1.v,vb (bA s now k).2],[s.v,vi now,vq k.q k.t k.c]):=by
 refine cK (cf:=Z0) rfl ?_
 have hk:=pE s.m k
 unfold bA
 cases ho:old s.m k with
 | none =>
  rw [ho] at hk
  dsimp only [Z0,ak,bU,aR,bD,aD,bq,dB,dU,cB,aC,bP,bV,bI,aN];simp only [hk,Option.map_none,Option.isSome_none,go_sem]
  rfl
 | some x =>
  rw [ho] at hk
  have h1:=fun n=>D5 (F:=F) (n:=n) C x (hd x (ajS ho))
  cases hv:jr now x.u
  all_goals
   dsimp only [Z0,ak,bU,aR,bD,aD,bq,dB,dU,cB,aC,bP,bV,bI,aN];simp only [hk,Option.map_some,Option.isSome_some,rI,ji,hv,h1,go_sem]
  rfl
def Jc (θ:Th) (s:Sv) (now:Int) (x:It):Int :=
 if x.u < 0 ∨ θ.set x.q x.t x.c x.d x.ttl = false ∨ x.r < 1 ∨ 5 < x.r then 1
 else if jr now x.u = false then 14
 else match old s.m x.k with
  | some o=>if Lx o.r (jr now o.u) x.r = false then 10 else 0
  | none=>0
theorem Ma (now:Int) (x:It):G ext F (n + 4) 84 [.one .iw,vi now,x.v] = some ([vi 1],[.one .iw,vi now,x.v]):=by
 refine cK (cf:=VD) rfl ?_
 dsimp only [VD,ak,bU,aR,bD,aD,bq,dB,dU,cB,aC,bP,bV,bI,aN];simp only [go_sem]
theorem VL {rb:Bool} (T:θ.CU rb ext) (s:Sv) (now:Int) (x:It) (hF:200000000000001 ≤ F) (hq:x.q.size ≤ 1000000) (hn:x.d.length ≤ 1000000) (hd:∀ y ∈ x.d,y.size ≤ 1000000):G ext F (n + 4) 84 [s.v,vi now,x.v] = some ([vi (Jc θ s now x)],[s.v,vi now,x.v]):=by
 refine cK (cf:=VD) rfl ?_
 have hk:=pE s.m x.k
 have h1:=fun n=>z8 (ext:=ext) (F:=F) (n:=n) T x.q x.t x.c x.d x.ttl (by omega) hF hq hd
 unfold Jc
 cases hold:old s.m x.k with
 | none =>
  rw [hold] at hk
  dsimp only [VD,ak,bU,aR,bD,aD,bq,dB,dU,cB,aC,bP,bV,bI,aN];simp only [h1,hk,ji,Option.map_none,Option.isSome_none,go_sem]
  repeat' (refine dI (fun h=>?_) (fun h=>?_) <;> simp only [h,h1,hk,ji,Option.map_none,Option.isSome_none,go_sem])
  all_goals clear h1 hk
  all_goals simp only [aii,aiT] at *
  all_goals simp [*]
 | some o =>
  rw [hold] at hk
  dsimp only [VD,ak,bU,aR,bD,aD,bq,dB,dU,cB,aC,bP,bV,bI,aN];simp only [h1,hk,ji,He,Option.map_some,Option.isSome_some,rI,go_sem]
  repeat' (refine dI (fun h=>?_) (fun h=>?_) <;> simp only [h,h1,hk,ji,He,Option.map_some,Option.isSome_some,rI,go_sem])
  all_goals clear h1 hk
  all_goals simp only [aii,aiT] at *
  all_goals simp [*]
end
section
open Go Ev
variable {ext : Env} {F n:Nat} {θ:Th}
abbrev Se.it (x:Se) (u r:Int):It:=⟨x.q,x.t,x.c,x.d,x.ttl,u,r⟩
def uF (θ:Th) (s:Sv) (now:Int) (x:Se) (r:Int):Sv × Int :=
 let it:=x.it (fD now x.ttl) r
 if Jc θ s now it ≠ 0 then (s,Jc θ s now it)
 else
  let t:=CW s.o x.k ++ [x.k]
  (⟨s.room,(t.take (t.length - s.room.toNat)).foldl rid (upd s.m it),t.drop (t.length - s.room.toNat),s.ch + 1⟩,0)
structure Aa (θ:Th) (ext:Env):Prop where
 p0:∀ now x r,ext 50 [.one .iw,vi now,Se.v x,vi r] = some ([vi 1],[.one .iw,vi now,x.v,vi r])
 p1:∀ (s:Sv) now (x:Se) r,0 ≤ s.room ∧ s.room ≤ 1000000 → 0 ≤ s.ch ∧ s.ch ≤ 1000000000000 → s.o.length ≤ 100000 → s.m.length ≤ 100000 → x.q.size ≤ 1000000 → x.d.length ≤ 1000000 → (∀ y ∈ x.d,y.size ≤ 1000000) →
  ext 50 [s.v,vi now,x.v,vi r] = some ([vi (uF θ s now x r).2],[(uF θ s now x r).1.v,vi now,x.v,vi r])
theorem Mc (Q:Aa θ ext) (s:Sv) (now:Int) (x:Se) (r:Int) (h1:0 ≤ s.room ∧ s.room ≤ 1000000) (h2:0 ≤ s.ch ∧ s.ch ≤ 1000000000000) (h3:s.o.length ≤ 100000) (h3':s.m.length ≤ 100000) (h4:x.q.size ≤ 1000000) (h5:x.d.length ≤ 1000000) (h6:∀ y ∈ x.d,y.size ≤ 1000000):G ext F (n + 1) 50 [s.v,vi now,x.v,vi r] = some ([vi (uF θ s now x r).2],[(uF θ s now x r).1.v,vi now,x.v,vi r]):=(aiD (gN rfl) _).trans (Q.p1 s now x r h1 h2 h3 h3' h4 h5 h6)
abbrev na : ByteArray:=⟨#[1,97,0]⟩
abbrev nb : ByteArray:=⟨#[1,98,0]⟩
abbrev nc_ : ByteArray:=⟨#[1,99,0]⟩
abbrev dd : ByteArray:=⟨#[49,49,49,49]⟩
abbrev sa : Se:=⟨na,1,1,[dd],5⟩
abbrev sb : Se:=⟨nb,1,1,[dd],5⟩
abbrev sc : Se:=⟨nc_,1,1,[dd],5⟩
abbrev sz : Se:=⟨na,1,1,[dd],0⟩
abbrev t0 : Sv:=⟨2,[],[],0⟩
abbrev t1 : Sv:=⟨2,[sa.it 6 5],[sa.k],1⟩
abbrev t2 : Sv:=⟨2,[sa.it 6 5,sb.it 6 3],[sa.k,sb.k],2⟩
abbrev t3 : Sv:=⟨2,[sa.it 6 5,sb.it 6 3],[sb.k,sa.k],2⟩
abbrev t4 : Sv:=⟨2,[sa.it 6 5,sc.it 7 1],[sa.k,sc.k],3⟩
abbrev t5 : Sv:=⟨2,[sc.it 7 1],[sc.k],4⟩
end
section
open Go Ev
variable {θ : Th}
abbrev ks (l:List It):List Qn:=l.map It.k
theorem jD {l:List It} {b:Qn} {x:It} (h:old l b = some x):x.k = b ∧ x ∈ l:=⟨by simpa using List.find?_some h,ajS h⟩
theorem sK {l:List It} {a:Qn}:(rid l a).Sublist l:=List.eraseP_sublist ..
theorem uG {l:List It} {a:Qn} (h:(ks l).Nodup):(ks (rid l a)).Nodup:=(sK.map _).nodup h
theorem qX (l:List It) (x:It):(x.k ∉ ks l ∧ upd l x = l ++ [x]) ∨ ∃ a y b,l = a ++ y :: b ∧ y.k = x.k ∧ x.k ∉ ks a ∧ upd l x = a ++ x :: b:=by
 unfold upd
 cases h:l.findIdx? fun y=>decide (y.k = x.k) with
 | none =>
  refine .inl ⟨fun hm=>?_,rfl⟩
  obtain ⟨y,hy,hk⟩:=aiq.mp hm
  have:=ajx.mp h y hy
  simp [hk] at this
 | some i =>
  obtain ⟨hi,hx,hb⟩:=ajj.mp h
  refine .inr ⟨l.take i,l[i],l.drop (i + 1),?_,by simpa using hx,fun hm=>?_,?_⟩
  ·rw [List.getElem_cons_drop,aju]
  ·obtain ⟨y,hy,hk⟩:=aiq.mp hm
   obtain ⟨j,hj,rfl⟩:=ajM.mp hy
   have:=hb j (by omega)
   simp [hk] at this
  ·simp only [List.set_eq_take_append_cons_drop,hi,aiu]
theorem uH {l:List It} {x:It} (h:(ks l).Nodup):(ks (upd l x)).Nodup:=by
 rcases qX l x with ⟨hn,hu⟩ | ⟨a,y,c,rfl,hy,ha,hu⟩
 ·rw [hu]
  simp only [ks,ajq,ah8,ail]
  refine ajr.mpr ⟨h,List.pairwise_singleton _ _,fun p hp q hq=>?_⟩
  rw [aiR] at hq;subst hq;rintro rfl;exact hn hp
 ·rw [hu]
  have:ks (a ++ x :: c) = ks (a ++ y :: c):=by simp [ks,hy]
  rw [this];exact h
end
end Go.Proofs.YtfokaoeinpnagaaGreat.Kc
namespace Go.Proofs.YtfokaoeinpnagaaGreat.Kc.Ne
section
open Go Ev
variable {ext : Env} {F n:Nat} {θ:Th}
structure Nt where
 k:Qn
 nx:Bool
 s:Se
 u:Int
 deriving DecidableEq
def rN (x:Nt):List FV:=[.str x.k.q,.int .i64 x.k.t,.int .i64 x.k.c,.bool x.nx,.str x.s.q,.int .i64 x.s.t,.int .i64 x.s.c,.sl (x.s.d.map aY),.int .i64 x.s.ttl,.int .i64 x.u]
abbrev Nt.v (x:Nt):AV:=.agg [.f (.str x.k.q),.f (.int .i64 x.k.t),.f (.int .i64 x.k.c),.f (.bool x.nx),.f (.str x.s.q),.f (.int .i64 x.s.t),.f (.int .i64 x.s.c),.f (.sl (x.s.d.map aY)),.f (.int .i64 x.s.ttl),.f (.int .i64 x.u)]
abbrev _root_.Go.Proofs.YtfokaoeinpnagaaGreat.Kc.Qn.v (k:Qn):AV:=vq k.q k.t k.c
def nt0 : Nt:=⟨⟨⟨#[]⟩,0,0⟩,false,⟨⟨#[]⟩,0,0,[],0⟩,0⟩
structure On where
 o:Int
 now:Int
 k:Qn
 nx:Bool
 s:Se
abbrev On.v (x:On):AV:=.agg [.f (.int .i64 x.o),.f (.int .i64 x.now),.f (.str x.k.q),.f (.int .i64 x.k.t),.f (.int .i64 x.k.c),.f (.bool x.nx),.f (.str x.s.q),.f (.int .i64 x.s.t),.f (.int .i64 x.s.c),.f (.sl (x.s.d.map aY)),.f (.int .i64 x.s.ttl)]
structure Nv where
 room:Int
 m:List Nt
 o:List Qn
 ch:Int
structure Rn where
 room:Int
 l:List Nt
 ch:Int
abbrev kJ : KS:=.agg [.str,.int .i64,.int .i64]
abbrev kq (k:Qn):KV:=.agg [.str k.q,.int .i64 k.t,.int .i64 k.c]
theorem FH {a b:Qn}:kq a = kq b ↔ a = b:=by
 constructor
 ·intro h;simp only [kq,KV.agg.injEq,ai3,SV.str.injEq,SV.int.injEq] at h
  cases a;cases b;simp_all
 ·rintro rfl;rfl
def old (l:List Nt) (k:Qn):Option Nt:=l.find? fun x=>decide (x.k = k)
def rid (l:List Nt) (k:Qn):List Nt:=l.eraseP fun x=>decide (x.k = k)
def ent (x:Nt):KV × FC:=(kq x.k,.agg (rN x))
theorem lZ (l:List Nt) (k:Qn):wI (l.map ent) (kq k) = l.findIdx? fun x=>decide (x.k = k):=by
 unfold wI
 rw [List.map_map,List.findIdx?_map]
 refine aio (fun p=>List.findIdx? p l) (funext fun x=>?_)
 simp only [Function.comp,ent]
 by_cases h:x.k = k
 ·simp [h]
 ·have:¬ kq x.k = kq k:=fun e=>h (FH.mp e)
  simp only [this,h,decide_false]
theorem pE (l:List Nt) (k:Qn):rz (l.map ent) (kq k) = (old l k).map fun x=>.agg (rN x):=by
 have hf:old l k = (l.findIdx? fun x=>decide (x.k = k)).bind fun i=>l[i]?:=List.find?_eq_bind_findIdx?_getElem? ..
 unfold rz
 rw [lZ,hf]
 cases l.findIdx? fun x=>decide (x.k = k) with
 | none=>rfl
 | some i=>simp only [Option.bind_some,ah3];cases l[i]? <;> rfl
theorem xK (l:List Nt) (k:Qn):AY (l.map ent) (kq k) = (rid l k).map ent:=by
 unfold AY rid
 rw [lZ,List.eraseP_eq_eraseIdx]
 cases l.findIdx? fun x=>decide (x.k = k) with
 | none=>rfl
 | some i=>simp [List.eraseIdx_eq_take_drop_succ,List.map_take,List.map_drop]
def upd (l:List Nt) (x:Nt):List Nt:=match l.findIdx? fun y=>decide (y.k = x.k) with
 | some i=>l.set i x
 | none=>l ++ [x]
theorem xL (l:List Nt) (x:Nt):wJ (l.map ent) (kq x.k) (.agg (rN x)) = (upd l x).map ent:=by
 unfold wJ upd
 rw [lZ]
 cases l.findIdx? fun y=>decide (y.k = x.k) with
 | none=>simp [ent]
 | some i=>simp [ajk,ent]
abbrev ks (l:List Nt):List Qn:=l.map Nt.k
theorem jD {l:List Nt} {b:Qn} {x:Nt} (h:old l b = some x):x.k = b ∧ x ∈ l:=⟨by simpa using List.find?_some h,ajS h⟩
theorem sK {l:List Nt} {a:Qn}:(rid l a).Sublist l:=List.eraseP_sublist ..
theorem uG {l:List Nt} {a:Qn} (h:(ks l).Nodup):(ks (rid l a)).Nodup:=(sK.map _).nodup h
theorem qX (l:List Nt) (x:Nt):(x.k ∉ ks l ∧ upd l x = l ++ [x]) ∨ ∃ a y b,l = a ++ y :: b ∧ y.k = x.k ∧ x.k ∉ ks a ∧ upd l x = a ++ x :: b:=by
 unfold upd
 cases h:l.findIdx? fun y=>decide (y.k = x.k) with
 | none =>
  refine .inl ⟨fun hm=>?_,rfl⟩
  obtain ⟨y,hy,hk⟩:=aiq.mp hm
  have:=ajx.mp h y hy
  simp [hk] at this
 | some i =>
  obtain ⟨hi,hx,hb⟩:=ajj.mp h
  refine .inr ⟨l.take i,l[i],l.drop (i + 1),?_,by simpa using hx,fun hm=>?_,?_⟩
  ·rw [List.getElem_cons_drop,aju]
  ·obtain ⟨y,hy,hk⟩:=aiq.mp hm
   obtain ⟨j,hj,rfl⟩:=ajM.mp hy
   have:=hb j (by omega)
   simp [hk] at this
  ·simp only [List.set_eq_take_append_cons_drop,hi,aiu]
theorem uH {l:List Nt} {x:Nt} (h:(ks l).Nodup):(ks (upd l x)).Nodup:=by
 rcases qX l x with ⟨hn,hu⟩ | ⟨a,y,c,rfl,hy,ha,hu⟩
 ·rw [hu]
  simp only [ks,ajq,ah8,ail]
  refine ajr.mpr ⟨h,List.pairwise_singleton _ _,fun p hp q hq=>?_⟩
  rw [aiR] at hq;subst hq;rintro rfl;exact hn hp
 ·rw [hu]
  have:ks (a ++ x :: c) = ks (a ++ y :: c):=by simp [ks,hy]
  rw [this];exact h
theorem Qp {l:List Nt} {x:Nt}:(upd l x).length ≤ l.length + 1:=by
 rcases qX l x with ⟨-,hu⟩ | ⟨a,y,c,rfl, -, -,hu⟩ <;> rw [hu] <;> simp
theorem Qq {l:List Nt} {x y:Nt} (h:y ∈ upd l x):y = x ∨ y ∈ l:=by
 rcases qX l x with ⟨-,hu⟩ | ⟨a,z,c,rfl, -, -,hu⟩ <;> rw [hu] at h <;> simp at h ⊢
 ·rcases h with h | h <;> simp [h]
 ·rcases h with h | h | h <;> simp [h]
theorem xM : ∀ {g:List Qn} {l:List Nt},(g.foldl rid l).Sublist l
 | [],l=>ajH _
 | a :: g,l=>(xM (g:=g)).trans sK
abbrev Nv.v (s:Nv):AV:=.one (.ptr [.f (.int .i64 s.room),.mp kJ (s.m.map ent),.f (.sl (s.o.map rQ)),.f (.int .i64 s.ch)])
abbrev Rn.v (s:Rn):AV:=.agg [.f (.int .i64 s.room),.f (.sl (s.l.map rN)),.f (.int .i64 s.ch)]
def nvo : Option Nv → AV
 | some s=>s.v
 | none=>.one .iw
theorem D6 (s:Nv):nvo (some s) = s.v:=rfl
end
section
attribute [local go_sem_proc] Nat.reduceAdd Nat.reduceMul Nat.reduceEqDiff Nat.reduceBEq Nat.reduceMod Nat.reduceDiv reduceCtorEq
attribute [local go_sem_proc ↓] reduceIte
open Go Ev
variable {ext : Env} {F n:Nat} {θ:Th} {gt:ByteArray → Int → Int → Int × Bool}
structure uZ (r:Bool) (gt:ByteArray → Int → Int → Int × Bool) (ext:Env):Prop where
 og:∀ s a z,s.size ≤ 1000000 → ext 117 [vs s,vi a,vi z] = some ([vi (gt s a z).1,vb (gt s a z).2],[vs s,vi a,vi z])
 rg:r = true → ∀ s a z,s.size ≤ 1000000 → ext 120 [vs s,vi a,vi z] = some ([vi (gt s a z).1,vb (gt s a z).2],[vs s,vi a,vi z])
 nn:∀ s a z,0 ≤ (gt s a z).1
theorem aae {rg:Bool} (O:uZ rg gt ext) (s:ByteArray) (a z:Int) (h:s.size ≤ 1000000):G ext F (n + 1) 117 [vs s,vi a,vi z] = some ([vi (gt s a z).1,vb (gt s a z).2],[vs s,vi a,vi z]):=(aiD (gN rfl) _).trans (O.og s a z h)
theorem Hr (room:Int):G ext F (n + 1) 49 [vi room] = some ([nvo (if room < 1 ∨ 1000 < room then none else some ⟨room,[],[],0⟩)],[vi room]):=by
 refine cK (cf:=c49) rfl ?_
 dsimp only [c49,ak,bU,aR,bD,aD,bq,dB,dU,cB,aC,bP,bV,bI,aN];simp only [go_sem]
 repeat' (refine dI (fun h=>?_) (fun h=>?_) <;> simp only [h,go_sem])
 all_goals (simp only [aii,aiT] at *)
 all_goals first | rw [ahX (by omega)] | rw [ahY (by omega)]
 all_goals rfl
theorem ni (C:lq ext) (x:Nt) (hx:x.s.d.length ≤ 1000000):G ext F (n + 2) 90 [x.v] = some ([x.v],[x.v]):=by
 refine cK (cf:=c90) rfl ?_
 have h1:=fun n=>LZ (F:=F) (n:=n) C x.s.d hx
 dsimp only [c90,ak,bU,aR,bD,aD,bq,dB,dU,cB,aC,bP,bV,bI,aN];simp only [h1,go_sem]
theorem D7 (k:Qn):G ext F (n + 1) 89 [k.v] = some ([vq k.q 0 k.c],[k.v]):=by
 refine cK (cf:=c89) rfl ?_
 dsimp only [c89,ak,bU,aR,bD,aD,bq,dB,dU,cB,aC,bP,bV,bI,aN];simp only [go_sem]
abbrev _root_.Go.Proofs.YtfokaoeinpnagaaGreat.Kc.Qn.w (k:Qn):Qn:=⟨k.q,0,k.c⟩
def _root_.Go.Proofs.YtfokaoeinpnagaaGreat.Kc.Th.ask (θ:Th) (k:Qn):Bool:=θ.key k.q k.t k.c && !decide (k.t = 0)
theorem Md {rb:Bool} (T:θ.CU rb ext) (k:Qn) (hq:k.q.size ≤ 1000000):G ext F (n + 2) 88 [k.v] = some ([vb (θ.ask k)],[k.v]):=by
 refine cK (cf:=c88) rfl ?_
 have h1:=fun n=>Tj (F:=F) (n:=n) T k.q hq
 have h2:=fun n=>LU (F:=F) (n:=n) T k.q hq
 dsimp only [c88,ak,bU,aR,bD,aD,bq,dB,dU,cB,aC,bP,bV,bI,aN];simp only [h1,h2,go_sem]
 repeat' (refine dI (fun h=>?_) (fun h=>?_) <;> simp only [h,h1,h2,go_sem])
 all_goals clear h1 h2
 all_goals simp only [aii,aiT] at *
 all_goals (simp [Th.ask,Th.key, *])
 all_goals (try omega)
 all_goals (have a1:0 ≤ k.t:=by omega);(have a2:¬ k.t = 0:=by omega);simp [a1,a2]
def vP (θ:Th) (gt:ByteArray → Int → Int → Int × Bool) (x:Se):Int × Bool :=
 if θ.set x.q x.t x.c x.d x.ttl = true ∧ x.t = 6 then (if x.ttl < (gt (x.d.headD ⟨#[]⟩) ((x.d.headD ⟨#[]⟩).size - 4) 4).1 then x.ttl else (gt (x.d.headD ⟨#[]⟩) ((x.d.headD ⟨#[]⟩).size - 4) 4).1,true) else (0,false)
theorem Me {x:Se} (h:θ.set x.q x.t x.c x.d x.ttl = true):∃ y d,x.d = y :: d:=by
 unfold Th.set at h
 rw [aii] at h
 exact List.exists_cons_of_ne_nil h.2.2.2
theorem FJ {rb:Bool} (T:θ.CU rb ext) {rg:Bool} (O:uZ rg gt ext) (x:Se) (hF:200000000000001 ≤ F) (hq:x.q.size ≤ 1000000) (hn:x.d.length ≤ 1000000) (hd:∀ y ∈ x.d,y.size ≤ 1000000):G ext F (n + 4) 87 [x.v] = some ([vi (vP θ gt x).1,vb (vP θ gt x).2],[x.v]):=by
 refine cK (cf:=c87) rfl ?_
 have h1:=fun n=>z8 (F:=F) (n:=n) T x.q x.t x.c x.d x.ttl (by omega) hF hq hd
 by_cases h6:x.t = 6
 ·have h6':decide (x.t = 6) = true:=ah0 h6
  cases hs:θ.set x.q x.t x.c x.d x.ttl with
  | false =>
   rw [hs] at h1
   have e:vP θ gt x = (0,false):=by unfold vP;rw [hs];rfl
   rw [e]
   dsimp only [c87,ak,bU,aR,bD,aD,bq,dB,dU,cB,aC,bP,bV,bI,aN];simp only [h1,h6',go_sem]
  | true =>
   rw [hs] at h1
   obtain ⟨y,ds,hy⟩:=Me hs
   have e:vP θ gt x = (if x.ttl < (gt y (y.size - 4) 4).1 then x.ttl else (gt y (y.size - 4) 4).1,true):=by unfold vP;rw [ahX ⟨hs,h6⟩,hy];rfl
   rw [e]
   have hys:=hd y (by rw [hy];simp)
   have hw:IntKind.i64.wrap ((y.size:Int) - 4) = y.size - 4:=oD (by omega) (by omega)
   have hg:=fun n=>aae (F:=F) (n:=n) O y (y.size - 4) 4 hys
   simp only [Se.v,oF,hy,ah8,aY] at h1 ⊢
   dsimp only [c87,ak,bU,aR,bD,aD,bq,dB,dU,cB,aC,bP,bV,bI,aN];simp only [h1,h6',ah8,List.getElem?_cons_zero,aY,hw,hg,Int.toNat_zero,go_sem]
   exact ⟨aiU _,by rw [hy];rfl⟩
 ·have h6':decide (x.t = 6) = false:=ah2 h6
  have e:vP θ gt x = (0,false):=by unfold vP;rw [ahY (fun h=>h6 h.2)]
  rw [e]
  dsimp only [c87,ak,bU,aR,bD,aD,bq,dB,dU,cB,aC,bP,bV,bI,aN];simp only [h6',go_sem]
end
section
open Go Ev
variable {ext : Env} {F n:Nat} {θ:Th} {gt:ByteArray → Int → Int → Int × Bool}
def ofR (o:Option Nt):Nt × Bool:=match o with
 | some x=>(x,true)
 | none=>(nt0,false)
abbrev kn (nx:Bool) (k:Qn):Qn:=if nx then k.w else k
def _root_.Go.Proofs.YtfokaoeinpnagaaGreat.Kc.Th.narg (θ:Th) (gt:ByteArray → Int → Int → Int × Bool) (s:Rn) (now:Int) (k:Qn) (x:Se):Prop:=s.room = 0 ∨ Qb now = false ∨ (vP θ gt x).2 = false ∨ θ.key k.q k.t k.c = false ∨ k.t = 0
instance {s : Rn} {now:Int} {k:Qn} {x:Se}:Decidable (θ.narg gt s now k x):=by unfold Th.narg;infer_instance
end
section
attribute [local go_sem_proc] Nat.reduceAdd Nat.reduceMul Nat.reduceEqDiff Nat.reduceBEq Nat.reduceMod Nat.reduceDiv reduceCtorEq
attribute [local go_sem_proc ↓] reduceIte
open Go Ev
variable {ext : Env} {F n:Nat} {θ:Th} {gt:ByteArray → Int → Int → Int × Bool}
def nof (m:List Nt) (now:Int) (k:Qn):Option Nt:=match old m k with
 | some x=>if jr now x.u then some x else none
 | none=>none
def fE (s:Nv) (now:Int) (k:Qn):Nt × Bool:=match nof s.m now k.w with
 | some x=>(x,true)
 | none=>ofR (nof s.m now k)
theorem Mf (C:lq ext) (s:Nv) (now:Int) (k:Qn) (hF:200000000000001 ≤ F) (hd:∀ x ∈ s.m,x.s.d.length ≤ 1000000):G ext F (n + 3) 103 [s.v,vi now,k.v] = some ([(fE s now k).1.v,vb (fE s now k).2],[s.v,vi now,k.v]):=by
 refine cK (cf:=P9) rfl ?_
 have hw:=fun n=>D7 (ext:=ext) (F:=F) (n:=n) k
 dsimp only [P9,ak,bU,aR,bD,aD,bq,dB,dU,cB,aC,bP,bV,bI,aN];simp only [hw,go_sem]
 refine jH 2 (fun i=>⟨[(0,PV.c (CV.one (PL.ptr 20201 0))),(1,PV.c (CV.one (PL.f (FV.int IntKind.i64 now)))),(6,PV.c (CV.one (PL.ptr 140000 0))),(18,PV.c (CV.one (PL.own 380000 2))),(19,PV.c (CV.one (PL.f (FV.int IntKind.i64 ((2:Nat):Int))))),(20,PV.c (CV.one (PL.f (FV.int IntKind.i64 (i:Int)))))],[(20201,Ob.dM [PL.f (FV.int IntKind.i64 s.room),PL.mp 20205,PL.f (FV.sl (List.map rQ s.o)),PL.f (FV.int IntKind.i64 s.ch)]),(20205,Ob.map kJ (List.map ent s.m)),(140000,Ob.dM [PL.f (FV.str ⟨#[]⟩),PL.f (FV.int IntKind.i64 0),PL.f (FV.int IntKind.i64 0),PL.f (FV.bool false),PL.f (FV.str ⟨#[]⟩),PL.f (FV.int IntKind.i64 0),PL.f (FV.int IntKind.i64 0),PL.bK,PL.f (FV.int IntKind.i64 0),PL.f (FV.int IntKind.i64 0)]),(380000,Ob.row 3 [[FV.str k.q,FV.int IntKind.i64 0,FV.int IntKind.i64 k.c],[FV.str k.q,FV.int IntKind.i64 k.t,FV.int IntKind.i64 k.c]])]⟩) (fun i=>(1 ≤ i → nof s.m now k.w = none) ∧ (2 ≤ i → nof s.m now k = none)) (by omega) rfl ⟨by omega,by omega⟩ (fun i hi hP=>?_) (fun hP=>?_)
 ·rcases (show i = 0 ∨ i = 1 by omega) with rfl | rfl
  ·skip
   have hlt:decide (((0:Nat):Int) < ((2:Nat):Int)) = true:=by decide
   have ht:((0:Nat):Int).toNat = 0:=rfl
   have h0:(0:Int) ≤ ((0:Nat):Int):=by decide
   have hn':IntKind.i64.wrap (((0:Nat):Int) + 1) = ((0 + 1:Nat):Int):=by rw [oD (by omega) (by omega)];rfl
   have hk1:=pE s.m k.w
   simp only [kq] at hk1
   have hcl:=fun n x hx=>ni (F:=F) (n:=n) C x hx
   cases hold:old s.m k.w with
   | none =>
    rw [hold] at hk1
    simp only [hlt,ht,h0,hn',List.getElem?_cons_zero,List.getElem?_cons_succ,hk1,Option.map_none,Option.isSome_none,go_sem]
    first | exact ⟨by decide,fun _=>by unfold nof;simp [hold, *],by omega⟩ | exact ⟨by decide,rfl,fun _=>by unfold nof;simp [hold, *],by omega⟩
   | some x =>
    rw [hold] at hk1
    have hcl:=fun n=>ni (F:=F) (n:=n) C x (hd x (jD hold).2)
    cases hv:jr now x.u with
    | false =>
     simp only [hlt,ht,h0,hn',List.getElem?_cons_zero,List.getElem?_cons_succ,hk1,Option.map_some,Option.isSome_some,rN,ji,hv,go_sem]
     first | exact ⟨by decide,fun _=>by unfold nof;simp [hold, *],by omega⟩ | exact ⟨by decide,rfl,fun _=>by unfold nof;simp [hold, *],by omega⟩
    | true =>
     simp only [hlt,ht,h0,hn',List.getElem?_cons_zero,List.getElem?_cons_succ,hk1,Option.map_some,Option.isSome_some,rN,ji,hv,hcl,go_sem]
     have e:fE s now k = (x,true):=by unfold fE nof;rw [hold];simp [hv]
     rw [e]
     exact ⟨by decide,rfl⟩
  ·have hp:=hP.1 (by decide)
   have hlt:decide (((1:Nat):Int) < ((2:Nat):Int)) = true:=by decide
   have ht:((1:Nat):Int).toNat = 1:=rfl
   have h0:(0:Int) ≤ ((1:Nat):Int):=by decide
   have hn':IntKind.i64.wrap (((1:Nat):Int) + 1) = ((1 + 1:Nat):Int):=by rw [oD (by omega) (by omega)];rfl
   have hk1:=pE s.m k
   simp only [kq] at hk1
   have hcl:=fun n x hx=>ni (F:=F) (n:=n) C x hx
   cases hold:old s.m k with
   | none =>
    rw [hold] at hk1
    simp only [hlt,ht,h0,hn',List.getElem?_cons_zero,List.getElem?_cons_succ,hk1,Option.map_none,Option.isSome_none,go_sem]
    first | exact ⟨by decide,fun _=>hp,fun _=>by unfold nof;simp [hold, *]⟩ | exact ⟨by decide,rfl,fun _=>hp,fun _=>by unfold nof;simp [hold, *]⟩
   | some x =>
    rw [hold] at hk1
    have hcl:=fun n=>ni (F:=F) (n:=n) C x (hd x (jD hold).2)
    cases hv:jr now x.u with
    | false =>
     simp only [hlt,ht,h0,hn',List.getElem?_cons_zero,List.getElem?_cons_succ,hk1,Option.map_some,Option.isSome_some,rN,ji,hv,go_sem]
     first | exact ⟨by decide,fun _=>hp,fun _=>by unfold nof;simp [hold, *]⟩ | exact ⟨by decide,rfl,fun _=>hp,fun _=>by unfold nof;simp [hold, *]⟩
    | true =>
     simp only [hlt,ht,h0,hn',List.getElem?_cons_zero,List.getElem?_cons_succ,hk1,Option.map_some,Option.isSome_some,rN,ji,hv,hcl,go_sem]
     have e:fE s now k = (x,true):=by unfold fE;rw [hp];unfold nof;rw [hold];simp [hv,ofR]
     rw [e]
     exact ⟨by decide,rfl⟩
 ·have hp1:=hP.1 (by decide)
  have hp2:=hP.2 (by decide)
  have hlt:decide (((2:Nat):Int) < ((2:Nat):Int)) = false:=by decide
  have e:fE s now k = (nt0,false):=by unfold fE;rw [hp1,hp2];rfl
  rw [e]
  simp only [hlt,go_sem]
  rfl
def qY (θ:Th) (gt:ByteArray → Int → Int → Int × Bool) (s:Nv) (now:Int) (k:Qn) (nx:Bool) (x:Se):Nv × Int :=
 if (vP θ gt x).2 = false ∨ fD now (vP θ gt x).1 = -1 ∨ θ.ask k = false then (s,1)
 else if jr now (fD now (vP θ gt x).1) = false then (s,14)
 else
  let t:=CW s.o (kn nx k) ++ [kn nx k]
  (⟨s.room,(t.take (t.length - s.room.toNat)).foldl rid (upd s.m ⟨kn nx k,nx,x,fD now (vP θ gt x).1⟩),t.drop (t.length - s.room.toNat),s.ch + 1⟩,0)
theorem Ht {rb:Bool} (T:θ.CU rb ext) {rg:Bool} (O:uZ rg gt ext) (C:lq ext) (s:Nv) (now:Int) (k:Qn) (qK:Bool) (x:Se) (hF:200000000000001 ≤ F) (hr1:0 ≤ s.room ∧ s.room ≤ 1000000) (hc:0 ≤ s.ch ∧ s.ch ≤ 1000000000000) (ho:s.o.length ≤ 100000) (hk:k.q.size ≤ 1000000) (hq:x.q.size ≤ 1000000) (hn:x.d.length ≤ 1000000) (hd:∀ y ∈ x.d,y.size ≤ 1000000):G ext F (n + 6) 51 [s.v,vi now,k.v,vb qK,x.v] = some ([vi (qY θ gt s now k qK x).2],[(qY θ gt s now k qK x).1.v,vi now,k.v,vb qK,x.v]):=by
 refine cK (cf:=c51) rfl ?_
 have h1:=fun n=>FJ (F:=F) (n:=n) T O x hF hq hn hd
 have h2:=fun n=>Md (F:=F) (n:=n) T k hk
 have hu:=fun n t=>xH (ext:=ext) (F:=F) (n:=n) now t
 cases hm2:(vP θ gt x).2 with
 | false =>
  rw [hm2] at h1
  have e:qY θ gt s now k qK x = (s,1):=by unfold qY;exact ahX (.inl hm2)
  rw [e]
  dsimp only [c51,ak,bU,aR,bD,aD,bq,dB,dU,cB,aC,bP,bV,bI,aN];simp only [h1,hu,go_sem]
 | true =>
 rw [hm2] at h1
 by_cases hun:fD now (vP θ gt x).1 = -1
 ·have e:qY θ gt s now k qK x = (s,1):=by unfold qY;exact ahX (.inr (.inl hun))
  rw [e]
  have hun':decide (fD now (vP θ gt x).1 = -1) = true:=ah0 hun
  dsimp only [c51,ak,bU,aR,bD,aD,bq,dB,dU,cB,aC,bP,bV,bI,aN];simp only [h1,hu,hun',go_sem]
 have hun':decide (fD now (vP θ gt x).1 = -1) = false:=ah2 hun
 cases ha:θ.ask k with
 | false =>
  have e:qY θ gt s now k qK x = (s,1):=by unfold qY;exact ahX (.inr (.inr ha))
  rw [e]
  rw [ha] at h2
  dsimp only [c51,ak,bU,aR,bD,aD,bq,dB,dU,cB,aC,bP,bV,bI,aN];simp only [h1,h2,hu,hun',go_sem]
 | true =>
 rw [ha] at h2
 have hno:¬ ((vP θ gt x).2 = false ∨ fD now (vP θ gt x).1 = -1 ∨ θ.ask k = false):=by rw [hm2,ha];simp [hun]
 cases hl:jr now (fD now (vP θ gt x).1) with
 | false =>
  have e:qY θ gt s now k qK x = (s,14):=by unfold qY;rw [ahY hno,ahX hl]
  rw [e]
  dsimp only [c51,ak,bU,aR,bD,aD,bq,dB,dU,cB,aC,bP,bV,bI,aN];simp only [h1,h2,hu,hun',ji,hl,go_sem]
 | true =>
 have e:qY θ gt s now k qK x = (⟨s.room,((CW s.o (kn qK k) ++ [kn qK k]).take ((CW s.o (kn qK k) ++ [kn qK k]).length - s.room.toNat)).foldl rid (upd s.m ⟨kn qK k,qK,x,fD now (vP θ gt x).1⟩),(CW s.o (kn qK k) ++ [kn qK k]).drop ((CW s.o (kn qK k) ++ [kn qK k]).length - s.room.toNat),s.ch + 1⟩,0):=by
  unfold qY;rw [ahY hno,ahY (by rw [hl];decide)]
 rw [e]
 have hu':=fun n=>hu n (vP θ gt x).1
 generalize fD now (vP θ gt x).1 = u at hu' hun' hl ⊢
 have hw:IntKind.i64.wrap (s.ch + 1) = s.ch + 1:=oD (by omega) (by omega)
 have hwh:=fun n=>D7 (ext:=ext) (F:=F) (n:=n) k
 have hcl:=fun n=>ni (ext:=ext) (F:=F) (n:=n) C ⟨kn qK k,qK,x,u⟩ hn
 have hqq:=@sJ s.o (kn qK k)
 have ht:=fun n=>DY (ext:=ext) (F:=F) (n:=n) C s.o (kn qK k) (by omega) hF
 have hct:=fun n=>L8 (ext:=ext) (F:=F) (n:=n) C (CW s.o (kn qK k) ++ [kn qK k]) s.room (by simp;omega) (by omega) hF
 have hup:=xL s.m ⟨kn qK k,qK,x,u⟩
 simp only [kq,rN] at hup
 generalize Yx:CW s.o (kn qK k) ++ [kn qK k] = t at ht hct ⊢
 generalize t.drop (t.length - s.room.toNat) = td at hct ⊢
 generalize htt:t.take (t.length - s.room.toNat) = tt at hct ⊢
 have htl:tt.length ≤ 1000000:=by rw [← htt,aia,← Yx,ah7,List.length_singleton];omega
 generalize hM:upd s.m ⟨kn qK k,qK,x,u⟩ = M at hup ⊢
 cases qK
 all_goals
  simp only [kn,aiu,aik,ais] at hup ht hct hcl
  dsimp only [c51,ak,bU,aR,bD,aD,bq,dB,dU,cB,aC,bP,bV,bI,aN];simp only [h1,h2,hu',hun',ji,hl,hwh,hcl,ht,hct,hup,hw,go_sem]
  refine jH tt.length (fun i=>⟨[(0,PV.c (CV.one (PL.ptr 20201 0))),(14,PV.c (CV.one (PL.f (FV.sl (List.map rQ td))))),(75,PV.c (CV.one (PL.f (FV.sl (List.map rQ tt))))),(76,PV.c (CV.one (PL.f (FV.int IntKind.i64 ↑(List.map rQ tt).length)))),(77,PV.c (CV.one (PL.f (FV.int IntKind.i64 i))))],[(20201,Ob.dM [PL.f (FV.int IntKind.i64 s.room),PL.mp 20205,PL.f (FV.sl (List.map rQ s.o)),PL.f (FV.int IntKind.i64 s.ch)]),(20205,Ob.map kJ (((tt.take i).foldl rid M).map ent))]⟩) (fun _=>True) (by omega) rfl trivial (fun i hi _=>?_) (fun _=>?_)
  ·obtain ⟨k',hx,hlt,hit,h00⟩:=at_ hi
   have hn':=nx hi (by omega)
   have hdl:=xK ((tt.take i).foldl rid M) k'
   have hfo:(tt.take (i + 1)).foldl rid M = rid ((tt.take i).foldl rid M) k':=by rw [aiL,hx,ajN];rfl
   simp only [ahZ,ah3,hlt,hx,hit,h00,hn',rQ,hdl,go_sem]
   rw [hfo]
  ·have hd:=@end_ _ tt
   simp only [ahZ,hd,hw,aiC,go_sem]
end
end Go.Proofs.YtfokaoeinpnagaaGreat.Kc.Ne
namespace Go.Proofs.YtfokaoeinpnagaaGreat.Ev
open Go
section
variable {Γ : Env} {F s sm:Nat} {ks os k6:List Nat} {g4 g6:List G} {ca cb cc:CC} {cf:CF} {dV:List AV} {mq:List CV} {σ:St} {kk:KV}
def X7 : Out → (Unit → Prop) → (Unit → Prop) → Prop
 | .ret,A,_=>A ()
 | .iK,_,B=>B ()
 | .ext _,_,_=>False
@[go_sem] theorem acM {A B:Unit → Prop}:X7 .ret A B ↔ A ():=ah6
@[go_sem] theorem acN {A B:Unit → Prop}:X7 .iK A B ↔ B ():=ah6
def kB : Option Ob → Option (List KV)
 | some (.map _ ents)=>some (ents.map (·.1))
 | _=>none
def kA (os:List Nat) (ob:List (Nat × Ob)):Option PV → Option (List KV)
 | some (.c (.one (.mp key)))=>if os.contains key then none else kB (get ob key)
 | _=>none
@[go_sem] theorem aeW {sh:KS} {ents:List (KV × FC)}:kB (some (.map sh ents)) = some (ents.map (·.1)):=rfl
@[go_sem] theorem X8 : FM σ os s = kA os σ.ob (get σ.tm s):=rfl
@[go_sem] theorem aag : D8 ks os σ = ⟨pick ks σ.tm,pick os σ.ob⟩:=rfl
@[go_sem ↓] theorem agV {k:List AV × List AV → Prop} {u:Tok k}:W k u (fin cf mq dV σ) ↔ W (fun b=>W (fun l=>W (fun r=>k (r.1,b.1)) ⟨⟩ (lV cf.ro b.2 l)) ⟨⟩ (slots b.2 cf.res)) ⟨⟩ (jF σ mq dV):=by
 simp only [fin,dL,aJ,bQ]
@[go_sem ↓] theorem acO {k:St → Prop} {u:Tok k}:W k u (Hu Γ F ks os s g6 k6 cb σ kk) ↔ W (fun t=>W (fun p=>p.1 = .iK ∧ k (D8 ks os p.2)) ⟨⟩ (ev Γ F cb ⟨pick k6 t.tm,t.ob⟩)) ⟨⟩ (vN Γ false g6 ⟨put σ.tm s (.c (kvC kk)),σ.ob⟩):=by
 simp only [Hu,dL,aJ]
 refine bZ fun t=>bZ fun p=>?_
 obtain ⟨o,σ'⟩:=p
 cases o <;> simp [jc,aZ]
@[go_sem ↓] theorem aeX {k:List AV × List AV → Prop} {u:Tok k}:W k u (aaf Γ F ca g4 sm ks os s g6 k6 cb cc cf dV) ↔ dV.length = cf.np ∧ W (fun e=>W (fun p=>X7 p.1 (fun _=>W k ⟨⟩ (fin cf e.1 dV p.2)) (fun _=>W (fun t=>W (fun l=>W (fun t=>W (fun q=>(∀ id,q.1 ≠ .ext id) ∧ W k ⟨⟩ (fin cf e.1 dV q.2)) ⟨⟩ (ev Γ F cc t)) ⟨⟩ (Tp (Hu Γ F ks os s g6 k6 cb) (D8 ks os t) l)) ⟨⟩ (FM t os sm)) ⟨⟩ (vN Γ false g4 p.2))) ⟨⟩ (ev Γ F ca e.2)) ⟨⟩ (enter cf.bo 0 [] ⟨[],[]⟩ dV):=by
 simp only [aaf,dL,cZ,aJ,ne_eq,aiJ]
 refine ajg ah6 (bZ fun e=>bZ fun p=>?_)
 obtain ⟨o,σ'⟩:=p
 cases o with
 | ext i=>simp [jc,X7]
 | ret=>simp only [X7]
 | iK =>
  simp only [X7,aJ]
  refine bZ fun t=>bZ fun l=>bZ fun t'=>bZ fun q=>?_
  obtain ⟨o,σ'⟩:=q
  cases o <;> simp [jc]
end
end Go.Proofs.YtfokaoeinpnagaaGreat.Ev
namespace Go.Proofs.YtfokaoeinpnagaaGreat.Kc.Ne
open Go Ev
variable {ext : Env} {F n:Nat} {θ:Th} {gt:ByteArray → Int → Int → Int × Bool}
end Go.Proofs.YtfokaoeinpnagaaGreat.Kc.Ne
namespace Go.Proofs.YtfokaoeinpnagaaGreat.Kc
section
attribute [local go_sem_proc] Nat.reduceAdd Nat.reduceMul Nat.reduceEqDiff Nat.reduceBEq Nat.reduceMod Nat.reduceDiv reduceCtorEq
attribute [local go_sem_proc ↓] reduceIte
open Go Ev
variable {ext : Env} {F n:Nat} {θ:Th}
def qL (now u:Int):Int:=if jr now u = true then (if 604800 < u - now then 604800 else u - now) else 0
def Qr (r:Int):Bool:=decide (3 ≤ r ∧ r ≤ 5)
theorem Qs {now u:Int} (h:jr now u = true) (hu:u ≤ 4611686018427387904):IntKind.i64.wrap (u - now) = u - now:=by
 unfold jr Qb at h
 simp only [ah5,aii] at h
 exact oD (by omega) (by omega)
theorem Hw (now u:Int) (hu:u ≤ 4611686018427387904):G ext F (n + 3) 102 [vi now,vi u] = some ([vi (qL now u)],[vi now,vi u]):=by
 refine cK (cf:=Lv) rfl ?_
 cases h:jr now u with
 | false =>
  have e:qL now u = 0:=by unfold qL;rw [h];rfl
  rw [e]
  dsimp only [Lv,ak,bU,aR,bD,aD,bq,dB,dU,cB,aC,bP,bV,bI,aN];simp only [ji,h,go_sem]
 | true =>
  have e:qL now u = if 604800 < u - now then 604800 else u - now:=by unfold qL;rw [h];rfl
  have hw:=Qs h hu
  rw [e]
  dsimp only [Lv,ak,bU,aR,bD,aD,bq,dB,dU,cB,aC,bP,bV,bI,aN];simp only [ji,h,hw,go_sem]
theorem Ea (r:Int):G ext F (n + 2) 101 [vi r] = some ([vb (Qr r)],[vi r]):=by
 refine cK (cf:=Qa) rfl ?_
 dsimp only [Qa,ak,bU,aR,bD,aD,bq,dB,dU,cB,aC,bP,bV,bI,aN];simp only [FB,go_sem]
 all_goals (simp [Qr])
structure nu where
 s:Se
 left:Int
def Jd : Se:=⟨⟨#[]⟩,0,0,[],0⟩
def pF : nu:=⟨Jd,0⟩
structure Ch where
 hits:List nu
 e:Int
 nm:ByteArray
 iB:nu
def rH (x:nu):List FV:=[.str x.s.q,.int .i64 x.s.t,.int .i64 x.s.c,.sl (x.s.d.map aY),.int .i64 x.s.ttl,.int .i64 x.left]
abbrev nu.v (x:nu):AV:=.agg [.f (.str x.s.q),.f (.int .i64 x.s.t),.f (.int .i64 x.s.c),.f (.sl (x.s.d.map aY)),.f (.int .i64 x.s.ttl),.f (.int .i64 x.left)]
abbrev Ch.v (x:Ch):AV:=.agg [.f (.sl (x.hits.map rH)),.f (.int .i64 x.e),.f (.str x.nm),.f (.str x.iB.s.q),.f (.int .i64 x.iB.s.t),.f (.int .i64 x.iB.s.c),.f (.sl (x.iB.s.d.map aY)),.f (.int .i64 x.iB.s.ttl),.f (.int .i64 x.iB.left)]
def tl (pk:Qn → It × Bool) (now:Int) (q:Qn):Option nu:=if (pk q).2 = true ∧ Qr (pk q).1.r = true then some ⟨⟨(pk q).1.q,(pk q).1.t,(pk q).1.c,(pk q).1.d,(pk q).1.ttl⟩,qL now (pk q).1.u⟩ else none
def tg (nm:Int → ByteArray → List ByteArray) (s:Se):Option ByteArray:=if s.t = 5 then s.d.head?.bind fun d=>(nm 5 d).head? else none
def al (nm:Int → ByteArray → List ByteArray) (pk:Qn → It × Bool) (now:Int) (q:Qn):Option (nu × ByteArray):=if q.t = 5 then none else (tl pk now ⟨q.q,5,q.c⟩).bind fun h=>(tg nm h.s).map fun ZZ8=>(h,ZZ8)
def fin (fd:Qn → Ne.Nt × Bool) (now:Int) (hits:List nu) (q:Qn):Ch:=if (fd q).2 = true then ⟨hits,if (fd q).1.nx = true then 2 else 1,q.q,⟨(fd q).1.s,qL now (fd q).1.u⟩⟩ else ⟨hits,3,q.q,pF⟩
def xO (nm:Int → ByteArray → List ByteArray) (pk:Qn → It × Bool) (fd:Qn → Ne.Nt × Bool) (now:Int):Nat → List ByteArray → List nu → Qn → Ch
 | 0,_,hits,q=>⟨hits,4,q.q,pF⟩
 | f + 1,met,hits,q=>match tl pk now q with
  | some h=>⟨hits ++ [h],0,q.q,pF⟩
  | none=>match al nm pk now q with
   | none=>fin fd now hits q
   | some (h,ZZ8)=>if 8 ≤ hits.length ∨ xJ met ZZ8 = true then ⟨hits ++ [h],4,q.q,pF⟩ else xO nm pk fd now f (met ++ [ZZ8]) (hits ++ [h]) ⟨ZZ8,q.t,q.c⟩
def wz (nm:Int → ByteArray → List ByteArray) (pk:Qn → It × Bool) (fd:Qn → Ne.Nt × Bool) (now:Int) (q:Qn):Ch:=xO nm pk fd now 9 [q.q] [] q
end
section
attribute [local go_sem_proc] Nat.reduceAdd Nat.reduceMul Nat.reduceEqDiff Nat.reduceBEq Nat.reduceMod Nat.reduceDiv reduceCtorEq
attribute [local go_sem_proc ↓] reduceIte
open Go Ev
variable {ext : Env} {F n:Nat} {θ:Th} {nm:Int → ByteArray → List ByteArray}
structure xP (r:Bool) (nm:Int → ByteArray → List ByteArray) (ext:Env):Prop where
 n0:∀ k q,q.size ≤ 1000000 → ext 81 [vi k,vs q] = some ([vl ((nm k q).map aY)],[vi k,vs q])
 n1:r = true → ∀ k q,q.size ≤ 1000000 → ext 105 [vi k,vs q] = some ([vl ((nm k q).map aY)],[vi k,vs q])
theorem Tq {rm:Bool} (M:xP rm nm ext) (k:Int) (q:ByteArray) (h:q.size ≤ 1000000):G ext F (n + 1) 81 [vi k,vs q] = some ([vl ((nm k q).map aY)],[vi k,vs q]):=(aiD (gN rfl) _).trans (M.n0 k q h)
def yV (nm:Int → ByteArray → List ByteArray) (s:Se):ByteArray × Bool:=match tg nm s with
 | some x=>(x,true)
 | none=>(⟨#[]⟩,false)
theorem Tt {s:Se} (h:s.t ≠ 5):yV nm s = (⟨#[]⟩,false):=by unfold yV tg;rw [ahY h]
theorem VO {s:Se} (h:s.d = []):yV nm s = (⟨#[]⟩,false):=by unfold yV tg;rw [h];by_cases h5:s.t = 5 <;> simp [h5]
theorem Qt {s:Se} {y:ByteArray} {d:List ByteArray} (h5:s.t = 5) (h:s.d = y :: d) (hn:nm 5 y = []):yV nm s = (⟨#[]⟩,false):=by unfold yV tg;rw [ahX h5,h];show (match ((nm 5 y).head?:Option ByteArray) with | some x=>(x,true) | none=>(⟨#[]⟩,false)) = _;rw [hn];rfl
theorem Qu {s:Se} {y z:ByteArray} {d l:List ByteArray} (h5:s.t = 5) (h:s.d = y :: d) (hn:nm 5 y = z :: l):yV nm s = (z,true):=by unfold yV tg;rw [ahX h5,h];show (match ((nm 5 y).head?:Option ByteArray) with | some x=>(x,true) | none=>(⟨#[]⟩,false)) = _;rw [hn];rfl
theorem Je {rm:Bool} (M:xP rm nm ext) (s:Se) (hd:∀ y ∈ s.d,y.size ≤ 1000000):G ext F (n + 2) 47 [s.v] = some ([vs (yV nm s).1,vb (yV nm s).2],[s.v]):=by
 refine cK (cf:=VE) rfl ?_
 by_cases h5:s.t = 5
 ·have h5':decide (s.t = 5) = true:=ah0 h5
  cases hy:s.d with
  | nil =>
   rw [VO hy]
   simp only [Se.v,oF,hy,ail]
   dsimp only [VE,ak,bU,aR,bD,aD,bq,dB,dU,cB,aC,bP,bV,bI,aN];simp only [h5',List.length_nil,show decide (((0:Nat):Int) = 0) = true from rfl,go_sem]
   simp [hy]
  | cons y ds =>
   have hlen:decide ((((List.map aY ds).length + 1:Nat):Int) = 0) = false:=by simp;omega
   have h1:=fun n=>Tq (F:=F) (n:=n) M 5 y (hd y (by rw [hy];simp))
   cases hz:nm 5 y with
   | nil =>
    rw [Qt h5 hy hz]
    rw [hz] at h1
    simp only [Se.v,oF,hy,ah8,ail,aY] at h1 ⊢
    dsimp only [VE,ak,bU,aR,bD,aD,bq,dB,dU,cB,aC,bP,bV,bI,aN];simp only [h5',hlen,h1,List.getElem?_cons_zero,Int.toNat_zero,List.length_nil,show decide (((0:Nat):Int) = 0) = true from rfl,go_sem]
    exact ⟨aiU _,by simp [hy,aY]⟩
   | cons z zs =>
    rw [Qu h5 hy hz]
    rw [hz] at h1
    have aah:decide ((((List.map aY zs).length + 1:Nat):Int) = 0) = false:=by simp;omega
    simp only [Se.v,oF,hy,ah8,aY] at h1 ⊢
    dsimp only [VE,ak,bU,aR,bD,aD,bq,dB,dU,cB,aC,bP,bV,bI,aN];simp only [h5',hlen,aah,h1,List.getElem?_cons_zero,Int.toNat_zero,go_sem]
    exact ⟨aiU _,aiU _,by simp [hy,aY]⟩
 ·have h5':decide (s.t = 5) = false:=ah2 h5
  rw [Tt h5]
  dsimp only [VE,ak,bU,aR,bD,aD,bq,dB,dU,cB,aC,bP,bV,bI,aN];simp only [h5',go_sem]
abbrev Sv.tv (s:Sv):TV:=.ptr [.f (.int .i64 s.room),.mp kJ (s.m.map ent),.f (.sl (s.o.map rQ)),.f (.int .i64 s.ch)]
abbrev nvt (s:Ne.Nv):TV:=.ptr [.f (.int .i64 s.room),.mp Ne.kJ (s.m.map Ne.ent),.f (.sl (s.o.map rQ)),.f (.int .i64 s.ch)]
abbrev X9 (s:Sv) (m:Ne.Nv) (now:Int):AV:=.agg [s.tv,nvt m,.f (.int .i64 now)]
def Hy (pk:Qn → It × Bool) (now:Int) (q:Qn):nu × Bool:=match tl pk now q with
 | some h=>(h,true)
 | none=>(pF,false)
theorem Eb (C:lq ext) (s:Sv) (m:Ne.Nv) (now:Int) (q:Qn) (hd:∀ x ∈ s.m,x.d.length ≤ 1000000) (hu:∀ x ∈ s.m,x.u ≤ 4611686018427387904):G ext F (n + 4) 56 [X9 s m now,q.v] = some ([(Hy (bA s now) now q).1.v,vb (Hy (bA s now) now q).2],[X9 s m now,q.v]):=by
 refine cK (cf:=X6) rfl ?_
 have h1:=fun n=>Hq (ext:=ext) (F:=F) (n:=n) C s now q hd
 have hlu:=fun n=>Hw (ext:=ext) (F:=F) (n:=n) now (bA s now q).1.u (by
  unfold bA
  split
  ·rename_i x ho
   split
   ·exact hu x (jD ho).2
   ·show (0:Int) ≤ _;omega
  ·show (0:Int) ≤ _;omega)
 unfold Hy tl
 cases hv:(bA s now q).2 with
 | false =>
  rw [hv] at h1
  dsimp only [X6,ak,bU,aR,bD,aD,bq,dB,dU,cB,aC,bP,bV,bI,aN];simp only [h1,go_sem]
  rfl
 | true =>
  rw [hv] at h1
  cases ht:Qr (bA s now q).1.r with
  | false =>
   dsimp only [X6,ak,bU,aR,bD,aD,bq,dB,dU,cB,aC,bP,bV,bI,aN];simp only [h1,Ea,ht,go_sem]
   rfl
  | true =>
   dsimp only [X6,ak,bU,aR,bD,aD,bq,dB,dU,cB,aC,bP,bV,bI,aN];simp only [h1,Ea,ht,hlu,go_sem]
def Tv (nm:Int → ByteArray → List ByteArray) (pk:Qn → It × Bool) (now:Int) (q:Qn):nu × (ByteArray × Bool):=if q.t = 5 then (pF,(⟨#[]⟩,false)) else ((Hy pk now ⟨q.q,5,q.c⟩).1,yV nm (Hy pk now ⟨q.q,5,q.c⟩).1.s)
theorem Mj {rm:Bool} (M:xP rm nm ext) (C:lq ext) (s:Sv) (m:Ne.Nv) (now:Int) (q:Qn) (hd:∀ x ∈ s.m,x.d.length ≤ 1000000) (hu:∀ x ∈ s.m,x.u ≤ 4611686018427387904) (hy:∀ x ∈ s.m,∀ y ∈ x.d,y.size ≤ 1000000):G ext F (n + 5) 57 [X9 s m now,q.v] = some ([(Tv nm (bA s now) now q).1.v,vs (Tv nm (bA s now) now q).2.1,vb (Tv nm (bA s now) now q).2.2],[X9 s m now,q.v]):=by
 refine cK (cf:=Z4) rfl ?_
 have h1:=fun n=>Eb (F:=F) (n:=n) C s m now ⟨q.q,5,q.c⟩ hd hu
 have hsz:∀ y ∈ (Hy (bA s now) now ⟨q.q,5,q.c⟩).1.s.d,y.size ≤ 1000000:=by
  have h0:∀ y ∈ (bA s now ⟨q.q,5,q.c⟩).1.d,y.size ≤ 1000000:=by
   unfold bA
   split
   ·rename_i x ho
    split
    ·exact hy x (jD ho).2
    ·intro y h;cases h
   ·intro y h;cases h
  unfold Hy tl
  split
  ·rename_i h he
   split at he
   ·cases he;exact h0
   ·cases he
  ·intro y h;cases h
 have h2:=fun n=>Je (F:=F) (n:=n) M (Hy (bA s now) now ⟨q.q,5,q.c⟩).1.s hsz
 unfold Tv
 by_cases h5:q.t = 5
 ·have h5':decide (q.t = 5) = true:=ah0 h5
  rw [ahX h5]
  dsimp only [Z4,ak,bU,aR,bD,aD,bq,dB,dU,cB,aC,bP,bV,bI,aN];simp only [h5',go_sem]
  try rfl
 ·have h5':decide (q.t = 5) = false:=ah2 h5
  rw [ahY h5]
  dsimp only [Z4,ak,bU,aR,bD,aD,bq,dB,dU,cB,aC,bP,bV,bI,aN];simp only [h5',h1,h2,go_sem]
  try rfl
def Mk (fd:Qn → Ne.Nt × Bool) (now:Int) (c:Ch) (q:Qn):Ch:=if (fd q).2 = true then ⟨c.hits,if (fd q).1.nx = true then 2 else 1,c.nm,⟨(fd q).1.s,qL now (fd q).1.u⟩⟩ else ⟨c.hits,3,c.nm,c.iB⟩
theorem Qv (C:lq ext) (s:Sv) (m:Ne.Nv) (now:Int) (c:Ch) (q:Qn) (hF:200000000000001 ≤ F) (hd:∀ x ∈ m.m,x.s.d.length ≤ 1000000) (hu:∀ x ∈ m.m,x.u ≤ 4611686018427387904):G ext F (n + 4) 58 [X9 s m now,c.v,q.v] = some ([(Mk (Ne.fE m now) now c q).v],[X9 s m now,c.v,q.v]):=by
 refine cK (cf:=Z5) rfl ?_
 have h1:=fun n=>Ne.Mf (F:=F) (n:=n) C m now q hF hd
 have hlu:=fun n=>Hw (ext:=ext) (F:=F) (n:=n) now (Ne.fE m now q).1.u (by
  have h9:∀ b y,Ne.nof m.m now b = some y → y.u ≤ 4611686018427387904:=fun b y hy=>by
   unfold Ne.nof at hy
   split at hy
   ·rename_i y' ho
    split at hy
    ·cases hy;exact hu _ (Ne.jD ho).2
    ·cases hy
   ·cases hy
  unfold Ne.fE
  split
  ·rename_i y hy;exact h9 _ _ hy
  ·unfold Ne.ofR
   split
   ·rename_i y hy;exact h9 _ _ hy
   ·show (0:Int) ≤ _;omega)
 unfold Mk
 cases hv:(Ne.fE m now q).2 with
 | false =>
  rw [hv] at h1
  dsimp only [Z5,ak,bU,aR,bD,aD,bq,dB,dU,cB,aC,bP,bV,bI,aN];simp only [h1,go_sem]
  try rfl
 | true =>
  rw [hv] at h1
  cases hx:(Ne.fE m now q).1.nx
  all_goals
   dsimp only [Z5,ak,bU,aR,bD,aD,bq,dB,dU,cB,aC,bP,bV,bI,aN];simp only [h1,hx,hlu,go_sem]
   try rfl
end
section
attribute [local go_sem_proc] Nat.reduceAdd Nat.reduceMul Nat.reduceEqDiff Nat.reduceBEq Nat.reduceMod Nat.reduceDiv reduceCtorEq
attribute [local go_sem_proc ↓] reduceIte
open Go Ev
variable {ext : Env} {F n:Nat} {θ:Th} {nm:Int → ByteArray → List ByteArray}
abbrev nu.k (x:nu):Qn:=⟨x.s.q,x.s.t,x.s.c⟩
def uI (l:List ByteArray):List (KV × FC):=l.map fun s=>(.one (.str s),.one (.int .i64 1))
theorem Hz (l:List ByteArray) (s:ByteArray):wI (uI l) (.one (.str s)) = l.findIdx? fun x=>decide (x = s):=by
 unfold wI uI
 rw [List.map_map,List.findIdx?_map]
 refine aio (fun p=>List.findIdx? p l) (funext fun x=>?_)
 simp only [Function.comp,KV.one.injEq,SV.str.injEq]
theorem Ml {l:List ByteArray} {s:ByteArray} (h:xJ l s = false):rz (uI l) (.one (.str s)) = none ∧ wJ (uI l) (.one (.str s)) (.one (.int .i64 1)) = uI (l ++ [s]):=by
 have:l.findIdx? (fun x=>decide (x = s)) = none:=by
  refine ajx.mpr fun x hx=>?_
  unfold xJ at h
  have:=List.any_eq_false.mp h x hx
  simpa using this
 unfold rz wJ
 rw [Hz,this]
 exact ⟨rfl,by simp [uI]⟩
theorem Qw {l:List ByteArray} {s:ByteArray} (h:xJ l s = true):rz (uI l) (.one (.str s)) = some (.one (.int .i64 1)):=by
 unfold rz
 rw [Hz]
 cases hi:l.findIdx? (fun x=>decide (x = s)) with
 | none =>
  have h1:=ajx.mp hi
  unfold xJ at h
  obtain ⟨x,hx,he⟩:=ai0.mp h
  have:=h1 x hx
  rw [he] at this;cases this
 | some i =>
  obtain ⟨hi', -⟩:=ajj.mp hi
  show ((uI l)[i]?.map fun p=>p.2) = _
  unfold uI
  rw [ah3,aic hi']
  rfl
theorem Qx {pk:Qn → It × Bool} {now:Int} {q:Qn} (h:al nm pk now q = none):(Tv nm pk now q).2.2 = false:=by
 unfold al at h
 unfold Tv
 split
 ·rfl
 ·rename_i h5
  rw [ahY h5] at h
  unfold Hy
  cases ht:tl pk now ⟨q.q,5,q.c⟩ with
  | none=>exact aio Prod.snd (Tt (nm:=nm) (s:=pF.s) (by decide))
  | some x =>
   rw [ht] at h
   show (yV nm x.s).2 = false
   unfold yV
   cases hg:tg nm x.s with
   | none=>rfl
   | some ZZ8=>rw [Option.bind_some,hg] at h;cases h
theorem Qy {pk:Qn → It × Bool} {now:Int} {q:Qn} {x:nu} {ZZ8:ByteArray} (h:al nm pk now q = some (x,ZZ8)):Tv nm pk now q = (x,(ZZ8,true)):=by
 unfold al at h
 unfold Tv
 split at h
 ·cases h
 ·rename_i h5
  rw [ahY h5]
  obtain ⟨y,h1,h2⟩:=zbm h
  obtain ⟨z,h3,h4⟩:=zmm h2
  cases h4
  unfold Hy
  rw [h1]
  show (x,yV nm x.s) = _
  unfold yV
  rw [h3]
theorem Qz {fd:Qn → Ne.Nt × Bool} {now:Int} {hits:List nu} {q:Qn}:Mk fd now ⟨hits,0,q.q,pF⟩ q = fin fd now hits q:=by
 unfold Mk fin;rfl
def fT (s:Sv) (m:Ne.Nv) (now:Int) (M:List ByteArray) (hits:List nu) (pn:ByteArray) (q:Qn):St:=match hits with
 | []=>⟨[(7,PV.c (CV.one (PL.ptr 160000 0))),(8,PV.c (CV.one (PL.ptr 180000 0))),(9,PV.c (CV.one (PL.ptr 200000 0))),(10,PV.c (CV.one (PL.ptr 220000 0))),(11,PV.c (CV.one (PL.mp 440000)))],[(20201,Ob.dM [PL.f (FV.int IntKind.i64 s.room),PL.mp 20205,PL.f (FV.sl (List.map rQ s.o)),PL.f (FV.int IntKind.i64 s.ch)]),(20205,Ob.map kJ (List.map ent s.m)),(40201,Ob.dM [PL.f (FV.int IntKind.i64 m.room),PL.mp 40205,PL.f (FV.sl (List.map rQ m.o)),PL.f (FV.int IntKind.i64 m.ch)]),(40205,Ob.map Ne.kJ (List.map Ne.ent m.m)),(160000,Ob.dM [PL.f (FV.str q.q),PL.f (FV.int IntKind.i64 q.t),PL.f (FV.int IntKind.i64 q.c)]),(180000,Ob.dM [PL.bK,PL.f (FV.int IntKind.i64 0),PL.f (FV.str ⟨#[]⟩),PL.f (FV.str ⟨#[]⟩),PL.f (FV.int IntKind.i64 0),PL.f (FV.int IntKind.i64 0),PL.bK,PL.f (FV.int IntKind.i64 0),PL.f (FV.int IntKind.i64 0)]),(200000,Ob.dM [PL.ptr 20201 0,PL.ptr 40201 0,PL.f (FV.int IntKind.i64 now)]),(220000,Ob.dM [PL.bK,PL.f (FV.int IntKind.i64 0),PL.f (FV.str pn),PL.f (FV.str ⟨#[]⟩),PL.f (FV.int IntKind.i64 0),PL.f (FV.int IntKind.i64 0),PL.bK,PL.f (FV.int IntKind.i64 0),PL.f (FV.int IntKind.i64 0)]),(440000,Ob.map (KS.one SK.str) (uI M))]⟩
 | _=>⟨[(7,PV.c (CV.one (PL.ptr 160000 0))),(8,PV.c (CV.one (PL.ptr 180000 0))),(9,PV.c (CV.one (PL.ptr 200000 0))),(10,PV.c (CV.one (PL.ptr 220000 0))),(11,PV.c (CV.one (PL.mp 440000)))],[(20201,Ob.dM [PL.f (FV.int IntKind.i64 s.room),PL.mp 690004,PL.f (FV.sl (List.map rQ s.o)),PL.f (FV.int IntKind.i64 s.ch)]),(40201,Ob.dM [PL.f (FV.int IntKind.i64 m.room),PL.mp 690204,PL.f (FV.sl (List.map rQ m.o)),PL.f (FV.int IntKind.i64 m.ch)]),(160000,Ob.dM [PL.f (FV.str q.q),PL.f (FV.int IntKind.i64 q.t),PL.f (FV.int IntKind.i64 q.c)]),(180000,Ob.dM [PL.bK,PL.f (FV.int IntKind.i64 0),PL.f (FV.str ⟨#[]⟩),PL.f (FV.str ⟨#[]⟩),PL.f (FV.int IntKind.i64 0),PL.f (FV.int IntKind.i64 0),PL.bK,PL.f (FV.int IntKind.i64 0),PL.f (FV.int IntKind.i64 0)]),(200000,Ob.dM [PL.ptr 20201 0,PL.ptr 40201 0,PL.f (FV.int IntKind.i64 now)]),(220000,Ob.dM [PL.own 1240000 (hits.map rH).length,PL.f (FV.int IntKind.i64 0),PL.f (FV.str pn),PL.f (FV.str ⟨#[]⟩),PL.f (FV.int IntKind.i64 0),PL.f (FV.int IntKind.i64 0),PL.bK,PL.f (FV.int IntKind.i64 0),PL.f (FV.int IntKind.i64 0)]),(440000,Ob.map (KS.one SK.str) (uI M)),(690004,Ob.map kJ (List.map ent s.m)),(690204,Ob.map Ne.kJ (List.map Ne.ent m.m)),(1240000,.row 6 (hits.map rH))]⟩
theorem BS (s:Sv) (m:Ne.Nv) (now:Int) (M:List ByteArray) (pn:ByteArray) (q:Qn):fT s m now M [] pn q = ⟨[(7,PV.c (CV.one (PL.ptr 160000 0))),(8,PV.c (CV.one (PL.ptr 180000 0))),(9,PV.c (CV.one (PL.ptr 200000 0))),(10,PV.c (CV.one (PL.ptr 220000 0))),(11,PV.c (CV.one (PL.mp 440000)))],[(20201,Ob.dM [PL.f (FV.int IntKind.i64 s.room),PL.mp 20205,PL.f (FV.sl (List.map rQ s.o)),PL.f (FV.int IntKind.i64 s.ch)]),(20205,Ob.map kJ (List.map ent s.m)),(40201,Ob.dM [PL.f (FV.int IntKind.i64 m.room),PL.mp 40205,PL.f (FV.sl (List.map rQ m.o)),PL.f (FV.int IntKind.i64 m.ch)]),(40205,Ob.map Ne.kJ (List.map Ne.ent m.m)),(160000,Ob.dM [PL.f (FV.str q.q),PL.f (FV.int IntKind.i64 q.t),PL.f (FV.int IntKind.i64 q.c)]),(180000,Ob.dM [PL.bK,PL.f (FV.int IntKind.i64 0),PL.f (FV.str ⟨#[]⟩),PL.f (FV.str ⟨#[]⟩),PL.f (FV.int IntKind.i64 0),PL.f (FV.int IntKind.i64 0),PL.bK,PL.f (FV.int IntKind.i64 0),PL.f (FV.int IntKind.i64 0)]),(200000,Ob.dM [PL.ptr 20201 0,PL.ptr 40201 0,PL.f (FV.int IntKind.i64 now)]),(220000,Ob.dM [PL.bK,PL.f (FV.int IntKind.i64 0),PL.f (FV.str pn),PL.f (FV.str ⟨#[]⟩),PL.f (FV.int IntKind.i64 0),PL.f (FV.int IntKind.i64 0),PL.bK,PL.f (FV.int IntKind.i64 0),PL.f (FV.int IntKind.i64 0)]),(440000,Ob.map (KS.one SK.str) (uI M))]⟩:=rfl
theorem p8 (s:Sv) (m:Ne.Nv) (now:Int) (M:List ByteArray) (hits:List nu) (pn:ByteArray) (q:Qn) (h:hits ≠ []):fT s m now M hits pn q = ⟨[(7,PV.c (CV.one (PL.ptr 160000 0))),(8,PV.c (CV.one (PL.ptr 180000 0))),(9,PV.c (CV.one (PL.ptr 200000 0))),(10,PV.c (CV.one (PL.ptr 220000 0))),(11,PV.c (CV.one (PL.mp 440000)))],[(20201,Ob.dM [PL.f (FV.int IntKind.i64 s.room),PL.mp 690004,PL.f (FV.sl (List.map rQ s.o)),PL.f (FV.int IntKind.i64 s.ch)]),(40201,Ob.dM [PL.f (FV.int IntKind.i64 m.room),PL.mp 690204,PL.f (FV.sl (List.map rQ m.o)),PL.f (FV.int IntKind.i64 m.ch)]),(160000,Ob.dM [PL.f (FV.str q.q),PL.f (FV.int IntKind.i64 q.t),PL.f (FV.int IntKind.i64 q.c)]),(180000,Ob.dM [PL.bK,PL.f (FV.int IntKind.i64 0),PL.f (FV.str ⟨#[]⟩),PL.f (FV.str ⟨#[]⟩),PL.f (FV.int IntKind.i64 0),PL.f (FV.int IntKind.i64 0),PL.bK,PL.f (FV.int IntKind.i64 0),PL.f (FV.int IntKind.i64 0)]),(200000,Ob.dM [PL.ptr 20201 0,PL.ptr 40201 0,PL.f (FV.int IntKind.i64 now)]),(220000,Ob.dM [PL.own 1240000 (hits.map rH).length,PL.f (FV.int IntKind.i64 0),PL.f (FV.str pn),PL.f (FV.str ⟨#[]⟩),PL.f (FV.int IntKind.i64 0),PL.f (FV.int IntKind.i64 0),PL.bK,PL.f (FV.int IntKind.i64 0),PL.f (FV.int IntKind.i64 0)]),(440000,Ob.map (KS.one SK.str) (uI M)),(690004,Ob.map kJ (List.map ent s.m)),(690204,Ob.map Ne.kJ (List.map Ne.ent m.m)),(1240000,.row 6 (hits.map rH))]⟩:=by
 cases hits with
 | nil=>exact absurd rfl h
 | cons a l=>rfl
theorem xQ (hits:List nu):hits = [] ∨ hits ≠ []:=by cases hits <;> simp
theorem Jf {rm:Bool} (O:xP rm nm ext) (C:lq ext) (hF:200000000000001 ≤ F) (s:Sv) (m:Ne.Nv) (now:Int) (q:Qn) (hd:∀ x ∈ s.m,x.d.length ≤ 1000000) (hu:∀ x ∈ s.m,x.u ≤ 4611686018427387904) (hy:∀ x ∈ s.m,∀ y ∈ x.d,y.size ≤ 1000000) (hd2:∀ x ∈ m.m,x.s.d.length ≤ 1000000) (hu2:∀ x ∈ m.m,x.u ≤ 4611686018427387904) :
  G ext F (n + 6) 14 [s.v,m.v,vi now,q.v] = some ([(wz nm (bA s now) (Ne.fE m now) now q).v],[s.v,m.v,vi now,q.v]):=by
 refine cK (cf:=c14) rfl ?_
 generalize hres:wz nm (bA s now) (Ne.fE m now) now q = R
 dsimp only [c14,ak,bU,aR,bD,aD,bq,dB,dU,cB,aC,bP,bV,bI,aN];simp only [go_sem]
 refine uY 9 (fun x:List ByteArray × List nu × ByteArray × ByteArray=>fT s m now x.1 x.2.1 x.2.2.1 ⟨x.2.2.2,q.t,q.c⟩) (fun i x=>x.2.1.length = i ∧ i < 9 ∧ xJ x.1 x.2.2.2 = false ∧ xO nm (bA s now) (Ne.fE m now) now (9 - i) (x.1 ++ [x.2.2.2]) x.2.1 ⟨x.2.2.2,q.t,q.c⟩ = R) (by omega) ([],[],⟨#[]⟩,q.q) rfl ⟨rfl,by omega,rfl,hres⟩ (fun i x hi hP=>?_) (fun x hP=>absurd hP.2.1 (by omega))
 obtain ⟨M,hits,pn,Ab⟩:=x
 obtain ⟨hlen, -,hm,hf⟩:=hP
 simp only at hlen hm hf ⊢
 obtain ⟨f,hf9⟩:∃ f,9 - i = f + 1:=⟨8 - i,by omega⟩
 rw [hf9] at hf
 obtain ⟨k1,k2⟩:=Ml hm
 have hw1:IntKind.i64.wrap (0 + 1) = 1:=by decide
 have t1:=fun n=>Eb (F:=F) (n:=n) C s m now ⟨Ab,q.t,q.c⟩ hd hu
 have a1:=fun n=>Mj (F:=F) (n:=n) O C s m now ⟨Ab,q.t,q.c⟩ hd hu hy
 have e1:=fun n=>Qv (F:=F) (n:=n) C s m now ⟨hits,0,Ab,pF⟩ ⟨Ab,q.t,q.c⟩ hF hd2 hu2
 rw [show Mk (Ne.fE m now) now ⟨hits,0,Ab,pF⟩ ⟨Ab,q.t,q.c⟩ = fin (Ne.fE m now) now hits ⟨Ab,q.t,q.c⟩ from Qz (q:=⟨Ab,q.t,q.c⟩)] at e1
 simp only [Ch.v,pF,Jd,ail] at e1
 unfold xO at hf
 have hsz:(((hits.map rH).length:Nat) + 1) * 72 ≤ 140737488355328:=by rw [ahZ];omega
 cases h1:tl (bA s now) now ⟨Ab,q.t,q.c⟩ with
 | some h =>
  have et:Hy (bA s now) now ⟨Ab,q.t,q.c⟩ = (h,true):=by unfold Hy;rw [h1]
  rw [et] at t1
  rw [h1] at hf
  subst hf
  rcases xQ hits with rfl | g1
  ·rw [BS]
   simp only [k1,k2,hw1,t1,Option.getD_none,go_sem]
   exact ⟨by decide,rfl⟩
  ·rw [p8 _ _ _ _ _ _ _ g1]
   simp only [k1,k2,hw1,t1,Option.getD_none,hsz,go_sem]
   simp [rH,pF,Jd]
 | none =>
  have et:Hy (bA s now) now ⟨Ab,q.t,q.c⟩ = (pF,false):=by unfold Hy;rw [h1]
  rw [et] at t1
  rw [h1] at hf
  simp only [pF,Jd,ail] at t1
  cases h2:al nm (bA s now) now ⟨Ab,q.t,q.c⟩ with
  | none =>
   have ea:=Qx h2
   rw [h2] at hf
   subst hf
   rw [ea] at a1
   rcases xQ hits with rfl | g1
   ·rw [BS]
    simp only [ail] at e1
    simp only [k1,k2,hw1,t1,a1,e1,Option.getD_none,go_sem]
   ·rw [p8 _ _ _ _ _ _ _ g1]
    simp only [k1,k2,hw1,t1,a1,e1,Option.getD_none,go_sem]
  | some p =>
   obtain ⟨h,ZZ8⟩:=p
   rw [Qy h2] at a1
   rw [h2] at hf
   simp only at hf
   have hml:((hits ++ [h]).map rH) = hits.map rH ++ [[FV.str h.s.q,FV.int IntKind.i64 h.s.t,FV.int IntKind.i64 h.s.c,FV.sl (List.map aY h.s.d),FV.int IntKind.i64 h.s.ttl,FV.int IntKind.i64 h.left]]:=by simp [rH]
   have hll:(hits.map rH).length = hits.length:=ahZ _
   by_cases h8:8 ≤ hits.length
   ·rw [ahX (.inl h8)] at hf
    subst hf
    have c8:decide ((8:Int) < (((hits.map rH).length + 1:Nat):Int)) = true:=ah0 (by omega)
    rcases xQ hits with rfl | g1
    ·simp at h8
    ·rw [p8 _ _ _ _ _ _ _ g1]
     simp only [k1,k2,hw1,t1,a1,Option.getD_none,hsz,c8,go_sem]
     simp [rH,pF,Jd]
   ·have c8:decide ((8:Int) < (((hits.map rH).length + 1:Nat):Int)) = false:=ah2 (by omega)
    have c8':decide ((8:Int) < ((0 + 1:Nat):Int)) = false:=by decide
    have z1:decide ((0:Int) < 1) = true:=by decide
    have z0:decide ((0:Int) < 0) = false:=by decide
    cases hin:xJ (M ++ [Ab]) ZZ8 with
    | true =>
     rw [ahX (.inr hin)] at hf
     subst hf
     have y1:=Qw hin
     rcases xQ hits with rfl | g1
     ·rw [BS]
      simp only [k1,k2,hw1,t1,a1,Option.getD_none,Option.getD_some,hsz,c8',y1,z1,List.length_cons,List.length_nil,go_sem]
      exact ⟨by decide,rfl⟩
     ·rw [p8 _ _ _ _ _ _ _ g1]
      simp only [k1,k2,hw1,t1,a1,Option.getD_none,Option.getD_some,hsz,c8,y1,z1,go_sem]
      simp [rH,pF,Jd]
    | false =>
     rw [ahY (by rw [hin];simp;omega)] at hf
     have y1:=(Ml hin).1
     have hnext:(hits ++ [h]).length = i + 1 ∧ i + 1 < 9 ∧ xJ (M ++ [Ab]) ZZ8 = false ∧ xO nm (bA s now) (Ne.fE m now) now (9 - (i + 1)) (M ++ [Ab] ++ [ZZ8]) (hits ++ [h]) ⟨ZZ8,q.t,q.c⟩ = R:=⟨by simp;omega,by omega,hin,by rw [show 9 - (i + 1) = f from by omega];exact hf⟩
     have g3:=fun pn' q'=>p8 s m now (M ++ [Ab]) (hits ++ [h]) pn' q' (by simp)
     rcases xQ hits with rfl | g1
     ·rw [BS]
      simp only [k1,k2,hw1,t1,a1,Option.getD_none,Option.getD_some,hsz,c8',y1,z0,List.length_cons,List.length_nil,go_sem]
      exact ⟨by decide,(M ++ [Ab],[] ++ [h],Ab,ZZ8),by rw [g3];rfl,hnext⟩
     ·rw [p8 _ _ _ _ _ _ _ g1]
      simp only [k1,k2,hw1,t1,a1,Option.getD_none,Option.getD_some,hsz,c8,y1,z0,go_sem]
      exact ⟨(M ++ [Ab],hits ++ [h],Ab,ZZ8),by rw [g3,hml];simp,hnext⟩
end
section
open Go Ev
variable {θ : Th} {gt:ByteArray → Int → Int → Int × Bool}
structure Pt where
 now:Int
 s:Se
 r:Int
 k:Qn
def rP (x:Pt):List FV:=[.int .i64 x.now,.str x.s.q,.int .i64 x.s.t,.int .i64 x.s.c,.sl (x.s.d.map aY),.int .i64 x.s.ttl,.int .i64 x.r,.str x.k.q,.int .i64 x.k.t,.int .i64 x.k.c]
abbrev Pt.v (x:Pt):AV:=.agg [.f (.int .i64 x.now),.f (.str x.s.q),.f (.int .i64 x.s.t),.f (.int .i64 x.s.c),.f (.sl (x.s.d.map aY)),.f (.int .i64 x.s.ttl),.f (.int .i64 x.r),.f (.str x.k.q),.f (.int .i64 x.k.t),.f (.int .i64 x.k.c)]
def s50 : Sv:=⟨50,[],[],0⟩
def m50 : Ne.Nv:=⟨50,[],[],0⟩
def qZ (θ:Th) (gt:ByteArray → Int → Int → Int × Bool) (a:Sv × Ne.Nv) (p:Pt):Sv × Ne.Nv:=if 0 < p.r then ((uF θ a.1 p.now p.s p.r).1,a.2) else (a.1,(Ne.qY θ gt a.2 p.now p.k (decide (p.r < 0)) p.s).1)
def mD (θ:Th) (gt:ByteArray → Int → Int → Int × Bool) (l:List Pt):Sv × Ne.Nv:=l.foldl (qZ θ gt) (s50,m50)
theorem xR {l:List Pt} {p:Pt} {i:Nat} (h:l[i]? = some p):mD θ gt (l.take (i + 1)) = qZ θ gt (mD θ gt (l.take i)) p:=by
 unfold mD;rw [aiL,h,ajN];rfl
theorem uJ : ∀ {g:List Qn} {l:List It},(g.foldl rid l).Sublist l
 | [],l=>ajH _
 | a :: g,l=>(uJ (g:=g)).trans sK
theorem Mr {l:List It} {x:It}:(upd l x).length ≤ l.length + 1:=by
 rcases qX l x with ⟨-,hu⟩ | ⟨a,y,c,rfl, -, -,hu⟩ <;> rw [hu] <;> simp
theorem Ms {l:List It} {x y:It} (h:y ∈ upd l x):y = x ∨ y ∈ l:=by
 rcases qX l x with ⟨-,hu⟩ | ⟨a,z,c,rfl, -, -,hu⟩ <;> rw [hu] at h <;> simp at h ⊢
 ·rcases h with h | h <;> simp [h]
 ·rcases h with h | h | h <;> simp [h]
theorem u6 : ∀ {g:List Qn} {l:List It},(ks l).Nodup → (ks (g.foldl rid l)).Nodup
 | [],l,h=>h
 | a :: g,l,h=>u6 (g:=g) (uG h)
theorem u7 : ∀ {g:List Qn} {l:List Ne.Nt},(Ne.ks l).Nodup → (Ne.ks (g.foldl Ne.rid l)).Nodup
 | [],l,h=>h
 | a :: g,l,h=>u7 (g:=g) (Ne.uG h)
structure FS (l:List Pt) (i:Nat) (s:Sv):Prop where
 r:s.room = 50
 c:0 ≤ s.ch ∧ s.ch ≤ i
 o:s.o.length ≤ i
 m:s.m.length ≤ i
 it:∀ x ∈ s.m,∃ p ∈ l,0 < p.r ∧ x = p.s.it (fD p.now p.s.ttl) p.r
 lJ:(ks s.m).Nodup
structure FN (θ:Th) (gt:ByteArray → Int → Int → Int × Bool) (l:List Pt) (i:Nat) (s:Ne.Nv):Prop where
 r:s.room = 50
 c:0 ≤ s.ch ∧ s.ch ≤ i
 o:s.o.length ≤ i
 m:s.m.length ≤ i
 it:∀ x ∈ s.m,∃ p ∈ l,x.s = p.s ∧ x.u = fD p.now (Ne.vP θ gt p.s).1 ∧ x.k.q = p.k.q
 lJ:(Ne.ks s.m).Nodup
theorem FS.up {l:List Pt} {i:Nat} {s:Sv} (h:FS l i s):FS l (i + 1) s:=⟨h.r,by have:=h.c;omega,by have:=h.o;omega,by have:=h.m;omega,h.it,h.lJ⟩
theorem FN.up {l:List Pt} {i:Nat} {s:Ne.Nv} (h:FN θ gt l i s):FN θ gt l (i + 1) s:=⟨h.r,by have:=h.c;omega,by have:=h.o;omega,by have:=h.m;omega,h.it,h.lJ⟩
theorem FS.put {l:List Pt} {i:Nat} {s:Sv} (h:FS l i s) {p:Pt} (hp:p ∈ l) (h0:0 < p.r):FS l (i + 1) (uF θ s p.now p.s p.r).1:=by
 have hc:=h.c
 have hq:=@sJ s.o p.s.k
 have ho:=h.o
 have hm:=h.m
 have hu:=@Mr s.m (p.s.it (fD p.now p.s.ttl) p.r)
 unfold uF
 dsimp only
 split
 ·exact h.up
 ·refine ⟨h.r,by show 0 ≤ s.ch + 1 ∧ s.ch + 1 ≤ _;omega,?_,?_,fun y hy=>?_,u6 (uH h.lJ)⟩
  ·show (List.drop _ _).length ≤ _
   rw [aiv,ah7,List.length_singleton];omega
  ·exact aij uJ.length_le (by omega)
  ·rcases Ms (uJ.subset hy) with rfl | h1
   ·exact ⟨p,hp,h0,rfl⟩
   ·exact h.it y h1
theorem FN.put {l:List Pt} {i:Nat} {s:Ne.Nv} (h:FN θ gt l i s) {p:Pt} (hp:p ∈ l) (b:Bool):FN θ gt l (i + 1) (Ne.qY θ gt s p.now p.k b p.s).1:=by
 have hc:=h.c
 have hq:=@sJ s.o (Ne.kn b p.k)
 have ho:=h.o
 have hm:=h.m
 unfold Ne.qY
 split
 ·exact h.up
 split
 ·exact h.up
 have hu:=@Ne.Qp s.m ⟨Ne.kn b p.k,b,p.s,fD p.now (Ne.vP θ gt p.s).1⟩
 refine ⟨h.r,by show 0 ≤ s.ch + 1 ∧ s.ch + 1 ≤ _;omega,?_,?_,fun y hy=>?_,u7 (Ne.uH h.lJ)⟩
 ·show (List.drop _ _).length ≤ _
  rw [aiv,ah7,List.length_singleton];omega
 ·exact aij Ne.xM.length_le (by omega)
 ·rcases Ne.Qq (Ne.xM.subset hy) with rfl | h1
  ·refine ⟨p,hp,rfl,rfl,?_⟩
   show (Ne.kn b p.k).q = _
   unfold Ne.kn;cases b <;> rfl
  ·exact h.it y h1
structure FI (θ:Th) (gt:ByteArray → Int → Int → Int × Bool) (l:List Pt) (i:Nat) (a:Sv × Ne.Nv):Prop where
 s:FS l i a.1
 n:FN θ gt l i a.2
theorem fi0 (l:List Pt):FI θ gt l 0 (s50,m50):=⟨⟨rfl,⟨aiU _,aiU _⟩,ah1 _,ah1 _,(by intro x hx;cases hx),ajC⟩,⟨rfl,⟨aiU _,aiU _⟩,ah1 _,ah1 _,(by intro x hx;cases hx),ajC⟩⟩
theorem FI.qZ {l:List Pt} {i:Nat} {a:Sv × Ne.Nv} (h:FI θ gt l i a) {p:Pt} (hp:p ∈ l):FI θ gt l (i + 1) (qZ θ gt a p):=by
 unfold Kc.qZ
 split
 ·rename_i h0;exact ⟨h.s.put hp h0,h.n.up⟩
 ·exact ⟨h.s.up,h.n.put hp _⟩
theorem fi (l:List Pt):∀ i,i ≤ l.length → FI θ gt l i (mD θ gt (l.take i))
 | 0,_=>fi0 l
 | i + 1,h=>by
  have hi:l[i]? = some l[i]:=aic (by omega)
  rw [xR hi]
  exact (fi l i (by omega)).qZ (List.getElem_mem _)
theorem fiA (l:List Pt):FI θ gt l l.length (mD θ gt l):=by
 have:=fi (θ:=θ) (gt:=gt) l l.length (ah1 _)
 rwa [aiC] at this
def kF (l:List Pt):Bool:=l.all fun x=>mX x.s.q x.s.d && decide (x.k.q.size ≤ 300)
theorem Jg {l:List Pt} {x:Pt} {i:Nat} (h:l[i]? = some x):kF (l.take (i + 1)) = (kF (l.take i) && (mX x.s.q x.s.d && decide (x.k.q.size ≤ 300))):=by
 unfold kF
 rw [aiL,h,List.all_append]
 simp
theorem HV {l:List Pt} {x:Pt} {i:Nat} (h:l[i]? = some x) (hx:(mX x.s.q x.s.d && decide (x.k.q.size ≤ 300)) = false):kF l = false:=by
 unfold kF
 rw [List.all_eq_false]
 exact ⟨x,ai2 h,by simp only [hx,ais,ajO]⟩
theorem Ac {q:ByteArray} {d:List ByteArray} (h:mX q d = true):q.size ≤ 300 ∧ d.length ≤ 60 ∧ ∀ y ∈ d,y.size ≤ 2000:=by
 unfold mX DX at h
 rw [ah5,aib,aii] at h
 refine ⟨by omega,?_,fun y hy=>?_⟩
 ·cases hd:d with
  | nil=>simp
  | cons y d' =>
   have:=h.1 y (by rw [hd];simp)
   simp only [ah5,aii] at this
   rw [hd] at this;omega
 ·have:=h.1 y hy
  simp only [ah5,aii] at this
  omega
theorem sM {l:List Pt} {x:Pt} (h:kF l = true) (hx:x ∈ l):x.k.q.size ≤ 1000000 ∧ x.s.q.size ≤ 1000000 ∧ x.s.d.length ≤ 1000000 ∧ ∀ y ∈ x.s.d,y.size ≤ 1000000:=by
 have h1:=aib.mp h x hx
 rw [ah5,aii] at h1
 obtain ⟨a,b,c⟩:=Ac h1.1
 exact ⟨by omega,by omega,by omega,fun y hy=>by have:=c y hy;omega⟩
theorem Ec {now ttl:Int}:fD now ttl ≤ 4611686018427387904:=by
 unfold fD Qb
 split
 ·rename_i h
  simp only [aii] at h
  split <;> omega
 ·omega
structure FW (a:Sv × Ne.Nv):Prop where
 hd:∀ x ∈ a.1.m,x.d.length ≤ 1000000
 hu:∀ x ∈ a.1.m,x.u ≤ 4611686018427387904
 hy:∀ x ∈ a.1.m,∀ y ∈ x.d,y.size ≤ 1000000
 hd2:∀ x ∈ a.2.m,x.s.d.length ≤ 1000000
 hu2:∀ x ∈ a.2.m,x.u ≤ 4611686018427387904
theorem FI.w {l:List Pt} {i:Nat} {a:Sv × Ne.Nv} (h:FI θ gt l i a) (hf:kF l = true):FW a:=by
 refine ⟨fun x hx=>?_,fun x hx=>?_,fun x hx=>?_,fun x hx=>?_,fun x hx=>?_⟩
 ·obtain ⟨p,hp, -,rfl⟩:=h.s.it x hx;exact (sM hf hp).2.2.1
 ·obtain ⟨p,hp, -,rfl⟩:=h.s.it x hx;exact Ec
 ·obtain ⟨p,hp, -,rfl⟩:=h.s.it x hx;exact (sM hf hp).2.2.2
 ·obtain ⟨p,hp,h1, -⟩:=h.n.it x hx;rw [h1];exact (sM hf hp).2.2.1
 ·obtain ⟨p,hp, -,h1, -⟩:=h.n.it x hx;rw [h1];exact Ec
theorem BU {s:Sv} {now:Int} {k:Qn} (h:(bA s now k).2 = true):(bA s now k).1 ∈ s.m ∧ (bA s now k).1.k = k ∧ jr now (bA s now k).1.u = true:=by
 unfold bA at h ⊢
 cases ho:old s.m k with
 | none=>rw [ho] at h;cases h
 | some x =>
  rw [ho] at h
  dsimp only at h ⊢
  cases hl:jr now x.u with
  | false=>rw [hl] at h;cases h
  | true=>exact ⟨(jD ho).2,(jD ho).1,hl⟩
end
end Go.Proofs.YtfokaoeinpnagaaGreat.Kc
namespace Go.Proofs.YtfokaoeinpnagaaGreat.Kd
section
open Go Ev
def ak (d:Nat) (i:I):G:=⟨some d,none,i⟩
def bU (i:I):G:=⟨none,none,i⟩
def aR (d s:Nat) (b:Bool) (i:I):G:=⟨some d,some (some s,b),i⟩
def bD (n:Int):dF:=.k (.one (.f (.int .i64 n)))
def aD : PL:=.f (.int .i64 0)
def bq : PL:=.f (.str ⟨#[]⟩)
def dB (a b s:Nat):Nat × Nat × dF:=⟨a,b,.t s⟩
def dU : dF:=.k (.one (.f (.bool true)))
def cB : dF:=.k (.one (.f (.bool false)))
def aC (d s:Nat):G:=⟨some d,none,.mv (.t s)⟩
def bP (d s:Nat):G:=⟨some d,none,.load 1 false (.t s)⟩
def bV (d n s:Nat):G:=⟨some d,none,.load n true (.t s)⟩
def bI (d f s:Nat):G:=⟨some d,none,.fa f (.t s)⟩
def aN (a:List G) (b:List Nat) (c:CC):CC:=.seq (.reg a b) c
def Mt : CF:=⟨1,[(.cell 2 5 true)],[],[0],(aN [ak 1 (.box 63 (.t 0)),ak 2 (.alloc 77 [.iw,.iw,aD,.bK,aD])] [1,2] (aN [bI 6 0 1,bP 7 6,ak 8 (.call true 12 [(.t 7)]),aC 5 8,ak 9 (.ext (.t 5) 0),ak 10 (.ext (.t 5) 1),aC 3 9,aC 4 10] [1,2,3,4] (aN [aC 11 3,aC 12 4,bI 13 1 1,bP 14 13,bI 15 2 1,bP 16 15,bI 17 3 1,bP 18 17,ak 19 (.build [.iw,.iw,aD,.bK,aD] [dB 0 1 11,dB 1 1 12,dB 2 1 14,dB 3 1 16,dB 4 1 18]),bU (.store 5 (.t 2) (.t 19))] [2] .ret)))⟩
def c34 : CF:=⟨1,[(.cell 2 2 true)],[],[],(aN [ak 1 (.box 24 (.t 0)),ak 2 (.alloc 72 [.bK,aD])] [1,2] (aN [bI 3 0 1,bP 4 3,ak 5 (.call false 68 [(.t 4)]),bI 6 0 1,bU (.store 1 (.t 6) (.t 5))] [1,2] (aN [bV 7 3 1,ak 8 (.build [bq,aD,aD,bq,aD] [dB 0 3 7]),ak 9 (.wh 146 5 1 [bq,aD,aD,bq,aD] [dB 0 5 8]),ak 10 (.build [.bK,aD] [dB 0 1 9]),bU (.store 2 (.t 2) (.t 10))] [2] .ret)))⟩
def c26 : CF:=⟨2,[(.cell 4 2 true),(.cell 5 15 true)],[],[],(aN [ak 2 (.box 77 (.t 0)),ak 3 (.box 72 (.t 1)),ak 4 (.alloc 72 [.bK,aD]),ak 5 (.alloc 74 [aD,.bK,aD,bq,bq,aD,aD,.bK,aD,aD,bq,bq,aD,aD,bq])] [2,3,4,5] (aN [bI 8 0 3,bP 9 8,ak 10 (.call false 65 [(.t 9)]),bI 11 0 3,bU (.store 1 (.t 11) (.t 10))] [2,3,4,5] (.block 0 (.loop [2,3,4,5] [20201,20205,20208,20401,20405,20408,20802,40202,60000,80000,100000,120000,220200,300400,301600,310002,310004,310006,310008,310010,310012,310014,310016,310202,310204,310206,310208,310210,310212,310214,310216,310402,310404,310406,310408,310410,310412,310414,310416,310602,310604,310606,310608,310610,310612,310614,310616,310802,310804,310806,310808,310810,310812,310814,310816,311002,311004,311006,311008,311010,311012,311014,311016] [] (.block 1 (aN [bV 13 5 2,ak 14 (.call false 66 [(.t 13),(.t 3)]),aC 12 14,ak 15 (.ext (.t 12) 0),ak 16 (.ext (.t 12) 1),ak 6 (.alloc 74 [aD,.bK,aD,bq,bq,aD,aD,.bK,aD,aD,bq,bq,aD,aD,bq]),bU (.store 15 (.t 6) (.t 15)),aC 7 16] [2,3,4,5,6,7] (aN [aC 17 7] [2,3,4,5,6,17] (.cond (.t 17) (.seq (.oH [⟨bV 18 2 3,[]⟩,⟨bV 19 15 6,[]⟩] [1] [bU (.store 2 (.t 4) (.t 18)),bU (.store 15 (.t 5) (.t 19))] [] [4,5]) .ret) .skip))))))))⟩
def Kg : CF:=⟨2,[(.cell 4 15 true),(.t 5)],[],[],(aN [ak 2 (.box 77 (.t 0)),ak 4 (.alloc 74 [aD,.bK,aD,bq,bq,aD,aD,.bK,aD,aD,bq,bq,aD,aD,bq]),ak 5 (.mv cB)] [1,2,4] (aN [aC 8 1,ak 9 (.gH (.t 8)),bI 10 0 9,bP 11 10,ak 12 (.fV (.t 11)),aC 6 12] [1,2,4,6] (.seq (aN [aC 13 6,ak 14 (.cmp .eq (.t 13) (bD 0))] [1,2,4,6,14] (.cond (.t 14) (aN [⟨(some 15),none,(.build [aD,.bK,aD,bq,bq,aD,aD,.bK,aD,aD,bq,bq,aD,aD,bq] [⟨0,⟨1,(bD 2)⟩⟩])⟩,bU (.store 15 (.t 4) (.t 15)),ak 5 (.mv dU)] [4,5] .ret) .skip)) (.seq (.any [bI 16 0 2,bP 17 16,bI 18 1 2,bP 19 18,bI 20 2 2,bP 21 20,aC 22 1,ak 23 (.gH (.t 22)),bI 24 0 23,bP 25 24,aC 26 6,ak 27 (.ar .sub (.t 26) (bD 1)),ak 28 (.ia 5 (.t 25) (.t 27)),bI 29 0 28,bV 30 3 29,ak 31 (.call false 14 [(.t 17),(.t 19),(.t 21),(.t 30)]),ak 7 (.alloc 46 [.bK,aD,bq,bq,aD,aD,.bK,aD,aD]),bU (.store 9 (.t 7) (.t 31))] [[0,1,2,3,4,5,6,7,8,9,10,11,12,13,14,15,16,17],[0,1,2,3,4,5,6,7,8,9,10,11,12,13,14,16,15,17]] [1,2,4,6,7] [0,20201,20205,20208,20401,20405,20408,20802,40201,40204,60000,100000,160000,640200,641400,650002,650004,650006,650008,650010,650012,650014,650016,650202,650204,650206,650208,650210,650212,650214,650216,650402,650404,650406,650408,650410,650412,650414,650416,650602,650604,650606,650608,650610,650612,650614,650616,650802,650804,650806,650808,650810,650812,650814,650816,651002,651004,651006,651008,651010,651012,651014,651016,651202,651204,651206,651208,651210,651212,651214,651216,651402,651404,651406,651408,651410,651412,651414,651416,651602,651604,651606,651608,651610,651612,651614,651616,651802,651804,651806,651808,651810,651812,651814,651816,652002,652004,652006,652008,652010,652012,652014,652016,652202,652204,652206,652208,652210,652212,652214,652216,652402,652404,652406,652408,652410,652412,652414,652416,652602,652604,652606,652608,652610,652612,652614,652616,652802,652804,652806,652808,652810,652812,652814,652816,653002,653004,653006,653008,653010,653012,653014,653016,820400,821600,830002,830004,830006,830008,830010,830012,830014,830016,830202,830204,830206,830208,830210,830212,830214,830216,830402,830404,830406,830408,830410,830412,830414,830416,830602,830604,830606,830608,830610,830612,830614,830616,830802,830804,830806,830808,830810,830812,830814,830816,831002,831004,831006,831008,831010,831012,831014,831016]) (.seq (.block 0 (aN [bI 33 1 7,bP 34 33,ak 35 (.cmp .eq (.t 34) (bD 3)),aC 32 35] [1,2,4,6,7,32] (.cond (.t 32) (aN [bV 36 5 2,aC 37 1,bI 38 2 7,bP 39 38,ak 40 (.call false 108 [(.t 36),(.t 37),(.t 39)]),ak 41 (.ext (.t 40) 0),ak 42 (.ext (.t 40) 1),bU (.store 15 (.t 4) (.t 41)),aC 5 42] [4,5] .ret) (aN [bI 44 1 7,bP 45 44,ak 46 (.cmp .ne (.t 45) (bD 4)),aC 47 46,aR 48 47 true (.mv (.t 6)),aR 49 47 true (.cmp .eq (.t 48) (bD 1)),ak 50 (.pick (.t 47) (.t 49) cB),aC 43 50] [1,4,6,7,43] (.cond (.t 43) (aN [bV 51 9 7,⟨(some 52),none,(.build [aD,.bK,aD,bq,bq,aD,aD,.bK,aD,aD,bq,bq,aD,aD,bq] [⟨0,⟨1,(bD 1)⟩⟩,dB 1 9 51])⟩,bU (.store 15 (.t 4) (.t 52)),ak 5 (.mv dU)] [4,5] .ret) (aN [bI 54 1 7,bP 55 54,ak 56 (.cmp .eq (.t 55) (bD 0)),aC 57 56,aR 58 57 true (.fa 0 (.t 7)),aR 59 57 true (.load 1 false (.t 58)),aR 60 57 true (.fV (.t 59)),aR 61 57 true (.cmp .eq (.t 60) (bD 1)),ak 62 (.pick (.t 57) (.t 61) cB),aC 53 62] [1,4,6,53] (.cond (.t 53) (aN [aC 63 1,aC 64 1,ak 65 (.gH (.t 64)),bI 66 0 65,bP 67 66,aC 68 6,ak 69 (.ar .sub (.t 68) (bD 1)),ak 70 (.CY 5 (.t 67) (.t 69)),ak 71 (.gH (.t 63)),bI 72 0 71,bU (.store 1 (.t 72) (.t 70))] [4] (aN [ak 73 (.build [aD,.bK,aD,bq,bq,aD,aD,.bK,aD,aD,bq,bq,aD,aD,bq] []),bU (.store 15 (.t 4) (.t 73)),ak 5 (.mv cB)] [4,5] .ret)) .skip))))))) (aN [⟨(some 74),none,(.build [aD,.bK,aD,bq,bq,aD,aD,.bK,aD,aD,bq,bq,aD,aD,bq] [⟨0,⟨1,(bD 2)⟩⟩])⟩,bU (.store 15 (.t 4) (.t 74)),ak 5 (.mv dU)] [4,5] .ret))))))⟩
def q8 : CF:=⟨3,[(.cell 6 15 true),(.t 7)],[],[],(aN [ak 3 (.box 77 (.t 0)),ak 6 (.alloc 74 [aD,.bK,aD,bq,bq,aD,aD,.bK,aD,aD,bq,bq,aD,aD,bq]),ak 7 (.mv cB)] [1,2,3,6] (.seq (.oH [⟨aC 15 1,[]⟩,⟨ak 16 (.gH (.t 15)),[]⟩,⟨bI 17 0 16,[]⟩,⟨bP 18 17,[]⟩,⟨aC 19 1,[]⟩,⟨ak 20 (.gH (.t 19)),[]⟩,⟨bI 21 0 20,[]⟩,⟨bP 22 21,[]⟩,⟨ak 23 (.fV (.t 22)),[]⟩,⟨ak 24 (.ar .sub (.t 23) (bD 1)),[]⟩] [] [] [ak 25 (.ia 5 (.t 18) (.t 24)),aC 8 25] [1,2,3,6,8]) (aN [bV 27 5 3,aC 28 2,ak 29 (.call false 36 [(.t 27),(.t 28)]),aC 26 29,ak 30 (.ext (.t 26) 0),ak 31 (.ext (.t 26) 1),ak 32 (.ext (.t 26) 2),aC 9 30,aC 10 31,aC 11 32] [1,2,3,6,8,9,10,11] (.seq (aN [aC 33 9,aC 34 8,ak 35 (.gH (.t 34)),bI 36 3 35,bP 37 36,ak 38 (.oG (.one .str) true (.t 33) (.t 37))] [1,2,3,6,8,9,10,11,38] (.cond (.t 38) (.reg [aC 39 8,aC 40 8,aC 41 9,ak 42 (.gH (.t 39)),bI 43 3 42,bU (.store 1 (.t 43) (.t 41)),ak 44 (.gH (.t 40)),bI 45 4 44,bU (.store 1 (.t 45) (bD 0))] [1,2,3,6,8,9,10,11]) .skip)) (.seq (aN [aC 46 10,ak 47 (.fV (.t 46)),ak 48 (.cmp .eq (.t 47) (bD 0))] [1,2,3,6,8,9,10,11,48] (.cond (.t 48) (aN [aC 50 1,ak 51 (.gH (.t 50)),bV 52 2 51,aC 53 11,ak 54 (.call true 125 [(.t 52),(.t 53)]),aC 49 54,ak 55 (.ext (.t 49) 0),ak 56 (.ext (.t 49) 1),aC 12 55,aC 13 56] [1,6,12,13] (.seq (aN [aC 57 13,ak 58 (.no (.t 57)),aC 59 58,aR 60 59 false (.mv (.t 1)),aR 61 59 false (.gH (.t 60)),aR 62 59 false (.fa 0 (.t 61)),aR 63 59 false (.load 1 false (.t 62)),aR 64 59 false (.fV (.t 63)),aR 65 59 false (.cmp .gt (.t 64) (bD 3)),ak 66 (.pick (.t 59) dU (.t 65))] [1,6,12,66] (.cond (.t 66) (aN [⟨(some 67),none,(.build [aD,.bK,aD,bq,bq,aD,aD,.bK,aD,aD,bq,bq,aD,aD,bq] [⟨0,⟨1,(bD 2)⟩⟩])⟩,bU (.store 15 (.t 6) (.t 67)),ak 7 (.mv dU)] [6,7] .ret) .skip)) (aN [aC 68 1,aC 69 1,ak 70 (.gH (.t 69)),bI 71 0 70,bP 72 71,aC 73 12,⟨(some 74),none,(.build [bq,aD,aD] [dB 0 1 73,⟨1,⟨1,(bD 1)⟩⟩,⟨2,⟨1,(bD 1)⟩⟩])⟩,ak 75 (.build [bq,aD,aD,bq,aD] [dB 0 3 74]),ak 76 (.wh 146 5 1 [bq,aD,aD,bq,aD] [dB 0 5 75]),ak 77 (.app 146 5 56 (.t 72) (.t 76)),ak 78 (.gH (.t 68)),bI 79 0 78,bU (.store 1 (.t 79) (.t 77))] [6] (aN [ak 80 (.build [aD,.bK,aD,bq,bq,aD,aD,.bK,aD,aD,bq,bq,aD,aD,bq] []),bU (.store 15 (.t 6) (.t 80)),ak 7 (.mv cB)] [6,7] .ret)))) .skip)) (.seq (.seq (.oH [⟨aC 81 8,[]⟩,⟨ak 82 (.gH (.t 81)),[]⟩,⟨bI 83 4 82,[]⟩,⟨bP 84 83,[]⟩,⟨ak 85 (.cmp .lt (.t 84) (bD 0)),[]⟩,⟨aC 86 85,[]⟩,⟨aR 87 86 false (.mv (.t 8)),[]⟩,⟨aR 88 86 false (.gH (.t 87)),[]⟩,⟨aR 89 86 false (.fa 4 (.t 88)),[]⟩,⟨aR 90 86 false (.load 1 false (.t 89)),[]⟩,⟨aR 91 86 false (.mv (.t 10)),[]⟩,⟨aR 92 86 false (.fV (.t 91)),[]⟩,⟨aR 93 86 false (.ar .mul (bD 2) (.t 92)),[]⟩,⟨aR 94 86 false (.cmp .ge (.t 90) (.t 93)),[]⟩,⟨ak 95 (.pick (.t 86) dU (.t 94)),[]⟩,⟨aC 96 95,[]⟩,⟨aR 97 96 false (.mv (.t 1)),[]⟩,⟨aR 98 96 false (.gH (.t 97)),[]⟩,⟨aR 99 96 false (.fa 1 (.t 98)),[]⟩,⟨aR 100 96 false (.load 1 false (.t 99)),[]⟩,⟨aR 101 96 false (.fa 4 (.t 3)),[]⟩,⟨aR 102 96 false (.load 1 false (.t 101)),[]⟩] [] [] [aR 103 96 false (.cmp .ge (.t 100) (.t 102)),ak 104 (.pick (.t 96) dU (.t 103))] [1,2,6,8,9,10,104]) (.cond (.t 104) (aN [⟨(some 105),none,(.build [aD,.bK,aD,bq,bq,aD,aD,.bK,aD,aD,bq,bq,aD,aD,bq] [⟨0,⟨1,(bD 2)⟩⟩])⟩,bU (.store 15 (.t 6) (.t 105)),ak 7 (.mv dU)] [6,7] .ret) .skip)) (.seq (.oH [⟨aC 106 10,[300000]⟩,⟨aC 107 8,[300000]⟩,⟨ak 108 (.gH (.t 107)),[300000]⟩,⟨bI 109 4 108,[300000]⟩,⟨bP 110 109,[300000]⟩,⟨aC 111 10,[300000]⟩,⟨ak 112 (.fV (.t 111)),[300000]⟩,⟨ak 113 (.ar .rem (.t 110) (.t 112)),[300000]⟩,⟨ak 114 (.ia 1 (.t 106) (.t 113)),[300000]⟩,⟨bP 115 114,[300000]⟩,⟨aC 116 2,[300000]⟩,⟨aC 117 8,[300000]⟩,⟨ak 118 (.gH (.t 117)),[300000]⟩,⟨bI 119 0 118,[300000]⟩,⟨bI 120 1 119,[300000]⟩,⟨bP 121 120,[300000]⟩,⟨aC 122 8,[300000]⟩,⟨ak 123 (.gH (.t 122)),[300000]⟩,⟨bI 124 0 123,[300000]⟩,⟨bI 125 2 124,[300000]⟩,⟨bP 126 125,[300000]⟩,⟨ak 127 (.build [bq,aD,aD] [dB 0 1 116,dB 1 1 121,dB 2 1 126]),[300000]⟩,⟨aC 128 9,[300000]⟩,⟨⟨(some 129),none,(.build [aD,.bK,aD,bq,bq,aD,aD,.bK,aD,aD,bq,bq,aD,aD,bq] [⟨0,⟨1,(bD 0)⟩⟩,dB 10 1 115,dB 11 3 127,dB 14 1 128])⟩,[300000]⟩,⟨ak 14 (.alloc 74 [aD,.bK,aD,bq,bq,aD,aD,.bK,aD,aD,bq,bq,aD,aD,bq]),[]⟩] [] [] [bU (.store 15 (.t 14) (.t 129))] [1,6,8,14]) (aN [aC 130 8,ak 131 (.gH (.t 130)),bI 132 4 131,bP 133 132,ak 134 (.ar .add (.t 133) (bD 1)),ak 135 (.gH (.t 130)),bI 136 4 135,bU (.store 1 (.t 136) (.t 134))] [1,6,14] (aN [aC 137 1,ak 138 (.gH (.t 137)),bI 139 1 138,bP 140 139,ak 141 (.ar .add (.t 140) (bD 1)),ak 142 (.gH (.t 137)),bI 143 1 142,bU (.store 1 (.t 143) (.t 141))] [6,14] (aN [bV 144 15 14,bU (.store 15 (.t 6) (.t 144)),ak 7 (.mv dU)] [6,7] .ret))))))))))⟩
def c36 : CF:=⟨2,[(.t 4),(.t 5),(.t 6)],[],[],(aN [ak 2 (.box 77 (.t 0)),ak 4 (.mv (.k (.one bq))),ak 5 (.mv (.k (.one .bK))),ak 6 (.mv (.k (.one .bK)))] [1,2] (aN [aC 13 1,ak 14 (.call false 68 [(.t 13)]),aC 7 14] [2,7] (.seq (aN [aC 15 7,ak 16 (.oG (.one .str) false (.t 15) (.k (.one bq)))] [2,7,16] (.cond (.t 16) (aN [ak 4 (.mv (.k (.one bq))),ak 5 (.mv (.k (.one .bK))),ak 6 (.mv (.k (.one .bK)))] [4,5,6] .ret) .skip)) (aN [ak 8 (.mv dU)] [2,7,8] (.seq .skip (.seq (.block 0 (.loop [2,7,8] [20201,20205,20208,20401,20405,20408,20802,60000,450002,450004,450006,450008,450010,450012,450014,450016,450202,450204,450206,450208,450210,450212,450214,450216,450402,450404,450406,450408,450410,450412,450414,450416,450602,450604,450606,450608,450610,450612,450614,450616,450802,450804,450806,450808,450810,450812,450814,450816,451002,451004,451006,451008,451010,451012,451014,451016,590002,590004,590006,590008,590010,590012,590014,590016,590202,590204,590206,590208,590210,590212,590214,590216,590402,590404,590406,590408,590410,590412,590414,590416,590602,590604,590606,590608,590610,590612,590614,590616,590802,590804,590806,590808,590810,590812,590814,590816,591002,591004,591006,591008,591010,591012,591014,591016,890002,890004,890006,890008,890010,890012,890014,890016,890202,890204,890206,890208,890210,890212,890214,890216,890402,890404,890406,890408,890410,890412,890414,890416,890602,890604,890606,890608,890610,890612,890614,890616,890802,890804,890806,890808,890810,890812,890814,890816,891002,891004,891006,891008,891010,891012,891014,891016] [] (.seq (aN [aC 17 8] [2,7,17] (.cond (.t 17) .skip (.exit 0))) (.block 1 (aN [bV 19 5 2,aC 20 7,ak 21 (.call false 69 [(.t 19),(.t 20),(bD 2)]),aC 18 21,ak 22 (.ext (.t 18) 0),ak 23 (.ext (.t 18) 1),aC 9 22,aC 10 23] [2,7,9,10] (.seq (aN [aC 24 10] [2,7,9,24] (.cond (.t 24) (aN [bV 26 5 2,aC 27 9,ak 28 (.call false 70 [(.t 26),(.t 27)]),aC 25 28,ak 29 (.ext (.t 25) 0),ak 30 (.ext (.t 25) 1),aC 11 29,aC 12 30] [7,11,12] (aN [aC 31 7,aC 32 11,aC 33 12,aC 4 31,aC 5 32,aC 6 33] [4,5,6] .ret)) .skip)) (aN [aC 35 7,ak 36 (.call false 71 [(.t 35)]),aC 34 36,ak 37 (.ext (.t 34) 0),ak 38 (.ext (.t 34) 1),aC 7 37,aC 8 38] [2,7,8] (aN [aC 39 8,ak 40 (.no (.t 39))] [2,7,8,40] (.cond (.t 40) (.exit 0) .skip))))))))) (aN [bI 41 3 2,bP 42 41,ak 43 (.call false 72 [(.t 42)]),⟨(some 4),none,(.mv (.k (.one (.f (.str ⟨#[0]⟩)))))⟩,aC 5 43,ak 6 (.mv (.k (.one .bK)))] [4,5,6] .ret)))))))⟩
def c69 : CF:=⟨3,[(.t 6),(.t 7)],[],[],(aN [ak 3 (.box 77 (.t 0)),ak 6 (.mv (.k (.one .bK))),ak 7 (.mv cB)] [1,2,3] (aN [bI 11 0 3,bP 12 11,bI 13 2 3,bP 14 13,aC 15 1,aC 16 2,⟨(some 17),none,(.build [bq,aD,aD] [dB 0 1 15,dB 1 1 16,⟨2,⟨1,(bD 1)⟩⟩])⟩,ak 18 (.call false 43 [(.t 12),(.t 14),(.t 17)]),aC 10 18,ak 19 (.ext (.t 10) 0),ak 20 (.ext (.t 10) 1),ak 8 (.alloc 106 [bq,aD,aD,.bK,aD,aD,aD]),bU (.store 7 (.t 8) (.t 19)),aC 9 20] [8,9] (aN [bI 21 0 8,bI 22 3 21,bP 23 22,aC 24 9,aC 6 23,aC 7 24] [6,7] .ret)))⟩
def c70 : CF:=⟨2,[(.t 4),(.t 5)],[],[],(aN [ak 2 (.box 77 (.t 0)),ak 4 (.mv (.k (.one .bK))),ak 5 (.mv (.k (.one .bK)))] [1,2] (aN [ak 6 (.mv (.k (.one .bK))),ak 7 (.mv (.k (.one .bK)))] [1,2,6,7] (.seq (aN [aC 14 1,ak 15 (.fV (.t 14)),ak 16 (.mv (bD 0))] [2,6,7,14,15,16] (.block 0 (.loop [2,6,7,14,15,16] [20201,20205,20208,20401,20405,20408,20802,40202,60000,140000,160000,630002,630004,630006,630008,630010,630012,630014,630016,630202,630204,630206,630208,630210,630212,630214,630216,630402,630404,630406,630408,630410,630412,630414,630416,630602,630604,630606,630608,630610,630612,630614,630616,630802,630804,630806,630808,630810,630812,630814,630816,631002,631004,631006,631008,631010,631012,631014,631016] [⟨6,1⟩,⟨7,1⟩] (aN [ak 17 (.cmp .lt (.t 16) (.t 15))] [2,6,7,14,15,16,17] (.seq (.cond (.t 17) .skip (.exit 0)) (.seq (.block 1 (aN [ak 18 (.ia 1 (.t 14) (.t 16)),bP 19 18,aC 9 19] [2,6,7,9,14,15,16] (aN [aC 20 9,ak 21 (.call false 81 [(bD 2),(.t 20)]),ak 22 (.fV (.t 21)),ak 23 (.mv (bD 0))] [2,6,7,14,15,16,21,22,23] (.block 2 (.loop [2,6,7,14,15,16,21,22,23] [20201,20205,20208,20401,20405,20408,20802,40202,60000,140000,160000,440200,630002,630004,630006,630008,630010,630012,630014,630016,630202,630204,630206,630208,630210,630212,630214,630216,630402,630404,630406,630408,630410,630412,630414,630416,630602,630604,630606,630608,630610,630612,630614,630616,630802,630804,630806,630808,630810,630812,630814,630816,631002,631004,631006,631008,631010,631012,631014,631016] [⟨6,1⟩,⟨7,1⟩] (aN [ak 24 (.cmp .lt (.t 23) (.t 22))] [2,6,7,14,15,16,21,22,23,24] (.seq (.cond (.t 24) .skip (.exit 2)) (.seq (.block 3 (aN [ak 25 (.ia 1 (.t 21) (.t 23)),bP 26 25,aC 11 26] [2,6,7,11,14,15,16,21,22,23] (aN [bV 28 5 2,aC 29 11,ak 30 (.call false 69 [(.t 28),(.t 29),(bD 1)]),aC 27 30,ak 31 (.ext (.t 27) 0),ak 32 (.ext (.t 27) 1),aC 12 31,aC 13 32] [2,6,7,11,12,13,14,15,16,21,22,23] (aN [aC 33 13] [2,6,7,11,12,14,15,16,21,22,23,33] (.cond (.t 33) (.reg [aC 34 6,aC 35 12,ak 36 (.app 9 1 16 (.t 34) (.t 35)),aC 6 36] [2,6,7,14,15,16,21,22,23]) (.reg [aC 37 7,aC 38 11,ak 39 (.wh 9 1 1 [bq] [dB 0 1 38]),ak 40 (.app 9 1 16 (.t 37) (.t 39)),aC 7 40] [2,6,7,14,15,16,21,22,23])))))) (.reg [ak 41 (.ar .add (.t 23) (bD 1)),aC 23 41] [2,6,7,14,15,16,21,22,23]))))))))) (.reg [ak 42 (.ar .add (.t 16) (bD 1)),aC 16 42] [2,6,7,14,15,16]))))))) (aN [aC 43 6,aC 44 7,aC 4 43,aC 5 44] [4,5] .ret))))⟩
def c24 : CF:=⟨0,[(.t 0)],[],[],(aN [ak 0 (.mv cB)] [] (aN [⟨(some 14),none,(.build [bq,aD,aD] [⟨0,⟨1,(.k (.one (.f (.str ⟨#[1,88,1,97,0]⟩))))⟩⟩,⟨1,⟨1,(bD 1)⟩⟩,⟨2,⟨1,(bD 1)⟩⟩])⟩,ak 1 (.alloc 24 [bq,aD,aD]),bU (.store 3 (.t 1) (.t 14))] [1] (aN [bV 15 3 1,ak 16 (.call false 34 [(.t 15)]),ak 2 (.alloc 72 [.bK,aD]),bU (.store 2 (.t 2) (.t 16))] [2] (.seq (.any [⟨(some 18),none,(.Oo 9 1 2 [bq,bq] [⟨0,⟨1,(.k (.one (.f (.str ⟨#[48,48,48,48]⟩))))⟩⟩,⟨1,⟨1,(.k (.one (.f (.str ⟨#[48,48,48,49]⟩))))⟩⟩])⟩,⟨(some 19),none,(.build [.bK,aD,.bK,aD] [dB 2 1 18,⟨3,⟨1,(bD 5)⟩⟩])⟩,ak 20 (.call true 25 [(.t 19)]),bV 21 2 2,ak 22 (.call false 26 [(.t 20),(.t 21)]),aC 17 22,ak 23 (.ext (.t 17) 0),ak 24 (.ext (.t 17) 1),ak 3 (.alloc 72 [.bK,aD]),ak 4 (.alloc 74 [aD,.bK,aD,bq,bq,aD,aD,.bK,aD,aD,bq,bq,aD,aD,bq]),bU (.store 2 (.t 3) (.t 23)),bU (.store 15 (.t 4) (.t 24))] [[0,1,2,3,4,5,6,7,8,9,10,11],[0,1,2,3,4,5,6,7,9,8,10,11],[0,1,2,3,8,4,5,6,7,9,10,11],[0,1,2,3,8,9,4,5,6,7,10,11],[0,1,2,3,9,4,5,6,7,8,10,11],[0,1,2,3,9,8,4,5,6,7,10,11],[0,1,2,8,3,4,5,6,7,9,10,11],[0,1,2,8,3,9,4,5,6,7,10,11],[0,1,2,8,9,3,4,5,6,7,10,11],[0,1,2,9,3,4,5,6,7,8,10,11],[0,1,2,9,3,8,4,5,6,7,10,11],[0,1,2,9,8,3,4,5,6,7,10,11],[0,1,3,2,4,5,6,7,8,9,10,11],[0,1,3,2,4,5,6,7,9,8,10,11],[0,1,3,2,8,4,5,6,7,9,10,11],[0,1,3,2,8,9,4,5,6,7,10,11],[0,1,3,2,9,4,5,6,7,8,10,11],[0,1,3,2,9,8,4,5,6,7,10,11],[0,1,3,8,2,4,5,6,7,9,10,11],[0,1,3,8,2,9,4,5,6,7,10,11],[0,1,3,8,9,2,4,5,6,7,10,11],[0,1,3,9,2,4,5,6,7,8,10,11],[0,1,3,9,2,8,4,5,6,7,10,11],[0,1,3,9,8,2,4,5,6,7,10,11],[0,1,8,2,3,4,5,6,7,9,10,11],[0,1,8,2,3,9,4,5,6,7,10,11],[0,1,8,2,9,3,4,5,6,7,10,11],[0,1,8,3,2,4,5,6,7,9,10,11],[0,1,8,3,2,9,4,5,6,7,10,11],[0,1,8,3,9,2,4,5,6,7,10,11],[0,1,8,9,2,3,4,5,6,7,10,11],[0,1,8,9,3,2,4,5,6,7,10,11],[0,1,9,2,3,4,5,6,7,8,10,11],[0,1,9,2,3,8,4,5,6,7,10,11],[0,1,9,2,8,3,4,5,6,7,10,11],[0,1,9,3,2,4,5,6,7,8,10,11],[0,1,9,3,2,8,4,5,6,7,10,11],[0,1,9,3,8,2,4,5,6,7,10,11],[0,1,9,8,2,3,4,5,6,7,10,11],[0,1,9,8,3,2,4,5,6,7,10,11],[3,0,1,2,4,5,6,7,8,9,10,11],[3,0,1,2,4,5,6,7,9,8,10,11],[3,0,1,2,8,4,5,6,7,9,10,11],[3,0,1,2,8,9,4,5,6,7,10,11],[3,0,1,2,9,4,5,6,7,8,10,11],[3,0,1,2,9,8,4,5,6,7,10,11],[3,0,1,8,2,4,5,6,7,9,10,11],[3,0,1,8,2,9,4,5,6,7,10,11],[3,0,1,8,9,2,4,5,6,7,10,11],[3,0,1,9,2,4,5,6,7,8,10,11],[3,0,1,9,2,8,4,5,6,7,10,11],[3,0,1,9,8,2,4,5,6,7,10,11],[3,8,0,1,2,4,5,6,7,9,10,11],[3,8,0,1,2,9,4,5,6,7,10,11],[3,8,0,1,9,2,4,5,6,7,10,11],[3,8,9,0,1,2,4,5,6,7,10,11],[3,9,0,1,2,4,5,6,7,8,10,11],[3,9,0,1,2,8,4,5,6,7,10,11],[3,9,0,1,8,2,4,5,6,7,10,11],[3,9,8,0,1,2,4,5,6,7,10,11],[8,0,1,2,3,4,5,6,7,9,10,11],[8,0,1,2,3,9,4,5,6,7,10,11],[8,0,1,2,9,3,4,5,6,7,10,11],[8,0,1,3,2,4,5,6,7,9,10,11],[8,0,1,3,2,9,4,5,6,7,10,11],[8,0,1,3,9,2,4,5,6,7,10,11],[8,0,1,9,2,3,4,5,6,7,10,11],[8,0,1,9,3,2,4,5,6,7,10,11],[8,3,0,1,2,4,5,6,7,9,10,11],[8,3,0,1,2,9,4,5,6,7,10,11],[8,3,0,1,9,2,4,5,6,7,10,11],[8,3,9,0,1,2,4,5,6,7,10,11],[8,9,0,1,2,3,4,5,6,7,10,11],[8,9,0,1,3,2,4,5,6,7,10,11],[8,9,3,0,1,2,4,5,6,7,10,11],[9,0,1,2,3,4,5,6,7,8,10,11],[9,0,1,2,3,8,4,5,6,7,10,11],[9,0,1,2,8,3,4,5,6,7,10,11],[9,0,1,3,2,4,5,6,7,8,10,11],[9,0,1,3,2,8,4,5,6,7,10,11],[9,0,1,3,8,2,4,5,6,7,10,11],[9,0,1,8,2,3,4,5,6,7,10,11],[9,0,1,8,3,2,4,5,6,7,10,11],[9,3,0,1,2,4,5,6,7,8,10,11],[9,3,0,1,2,8,4,5,6,7,10,11],[9,3,0,1,8,2,4,5,6,7,10,11],[9,3,8,0,1,2,4,5,6,7,10,11],[9,8,0,1,2,3,4,5,6,7,10,11],[9,8,0,1,3,2,4,5,6,7,10,11],[9,8,3,0,1,2,4,5,6,7,10,11]] [2,3,4] [60000,80000,100000,340200,460200,462400,463600]) (.seq (.any [⟨(some 26),none,(.Oo 9 1 1 [bq] [⟨0,⟨1,(.k (.one (.f (.str ⟨#[48,48,48,48]⟩))))⟩⟩])⟩,⟨(some 27),none,(.build [.bK,aD,.bK,aD] [⟨3,⟨1,(bD 0)⟩⟩,dB 2 1 26])⟩,ak 28 (.call true 25 [(.t 27)]),bV 29 2 2,ak 30 (.call false 26 [(.t 28),(.t 29)]),aC 25 30,ak 31 (.ext (.t 25) 0),ak 32 (.ext (.t 25) 1),ak 5 (.alloc 72 [.bK,aD]),ak 6 (.alloc 74 [aD,.bK,aD,bq,bq,aD,aD,.bK,aD,aD,bq,bq,aD,aD,bq]),bU (.store 2 (.t 5) (.t 31)),bU (.store 15 (.t 6) (.t 32))] [[0,1,2,3,4,5,6,7,8,9,10,11],[0,1,2,3,4,5,6,7,9,8,10,11],[0,1,2,3,8,4,5,6,7,9,10,11],[0,1,2,3,8,9,4,5,6,7,10,11],[0,1,2,3,9,4,5,6,7,8,10,11],[0,1,2,3,9,8,4,5,6,7,10,11],[0,1,2,8,3,4,5,6,7,9,10,11],[0,1,2,8,3,9,4,5,6,7,10,11],[0,1,2,8,9,3,4,5,6,7,10,11],[0,1,2,9,3,4,5,6,7,8,10,11],[0,1,2,9,3,8,4,5,6,7,10,11],[0,1,2,9,8,3,4,5,6,7,10,11],[0,1,3,2,4,5,6,7,8,9,10,11],[0,1,3,2,4,5,6,7,9,8,10,11],[0,1,3,2,8,4,5,6,7,9,10,11],[0,1,3,2,8,9,4,5,6,7,10,11],[0,1,3,2,9,4,5,6,7,8,10,11],[0,1,3,2,9,8,4,5,6,7,10,11],[0,1,3,8,2,4,5,6,7,9,10,11],[0,1,3,8,2,9,4,5,6,7,10,11],[0,1,3,8,9,2,4,5,6,7,10,11],[0,1,3,9,2,4,5,6,7,8,10,11],[0,1,3,9,2,8,4,5,6,7,10,11],[0,1,3,9,8,2,4,5,6,7,10,11],[0,1,8,2,3,4,5,6,7,9,10,11],[0,1,8,2,3,9,4,5,6,7,10,11],[0,1,8,2,9,3,4,5,6,7,10,11],[0,1,8,3,2,4,5,6,7,9,10,11],[0,1,8,3,2,9,4,5,6,7,10,11],[0,1,8,3,9,2,4,5,6,7,10,11],[0,1,8,9,2,3,4,5,6,7,10,11],[0,1,8,9,3,2,4,5,6,7,10,11],[0,1,9,2,3,4,5,6,7,8,10,11],[0,1,9,2,3,8,4,5,6,7,10,11],[0,1,9,2,8,3,4,5,6,7,10,11],[0,1,9,3,2,4,5,6,7,8,10,11],[0,1,9,3,2,8,4,5,6,7,10,11],[0,1,9,3,8,2,4,5,6,7,10,11],[0,1,9,8,2,3,4,5,6,7,10,11],[0,1,9,8,3,2,4,5,6,7,10,11],[3,0,1,2,4,5,6,7,8,9,10,11],[3,0,1,2,4,5,6,7,9,8,10,11],[3,0,1,2,8,4,5,6,7,9,10,11],[3,0,1,2,8,9,4,5,6,7,10,11],[3,0,1,2,9,4,5,6,7,8,10,11],[3,0,1,2,9,8,4,5,6,7,10,11],[3,0,1,8,2,4,5,6,7,9,10,11],[3,0,1,8,2,9,4,5,6,7,10,11],[3,0,1,8,9,2,4,5,6,7,10,11],[3,0,1,9,2,4,5,6,7,8,10,11],[3,0,1,9,2,8,4,5,6,7,10,11],[3,0,1,9,8,2,4,5,6,7,10,11],[3,8,0,1,2,4,5,6,7,9,10,11],[3,8,0,1,2,9,4,5,6,7,10,11],[3,8,0,1,9,2,4,5,6,7,10,11],[3,8,9,0,1,2,4,5,6,7,10,11],[3,9,0,1,2,4,5,6,7,8,10,11],[3,9,0,1,2,8,4,5,6,7,10,11],[3,9,0,1,8,2,4,5,6,7,10,11],[3,9,8,0,1,2,4,5,6,7,10,11],[8,0,1,2,3,4,5,6,7,9,10,11],[8,0,1,2,3,9,4,5,6,7,10,11],[8,0,1,2,9,3,4,5,6,7,10,11],[8,0,1,3,2,4,5,6,7,9,10,11],[8,0,1,3,2,9,4,5,6,7,10,11],[8,0,1,3,9,2,4,5,6,7,10,11],[8,0,1,9,2,3,4,5,6,7,10,11],[8,0,1,9,3,2,4,5,6,7,10,11],[8,3,0,1,2,4,5,6,7,9,10,11],[8,3,0,1,2,9,4,5,6,7,10,11],[8,3,0,1,9,2,4,5,6,7,10,11],[8,3,9,0,1,2,4,5,6,7,10,11],[8,9,0,1,2,3,4,5,6,7,10,11],[8,9,0,1,3,2,4,5,6,7,10,11],[8,9,3,0,1,2,4,5,6,7,10,11],[9,0,1,2,3,4,5,6,7,8,10,11],[9,0,1,2,3,8,4,5,6,7,10,11],[9,0,1,2,8,3,4,5,6,7,10,11],[9,0,1,3,2,4,5,6,7,8,10,11],[9,0,1,3,2,8,4,5,6,7,10,11],[9,0,1,3,8,2,4,5,6,7,10,11],[9,0,1,8,2,3,4,5,6,7,10,11],[9,0,1,8,3,2,4,5,6,7,10,11],[9,3,0,1,2,4,5,6,7,8,10,11],[9,3,0,1,2,8,4,5,6,7,10,11],[9,3,0,1,8,2,4,5,6,7,10,11],[9,3,8,0,1,2,4,5,6,7,10,11],[9,8,0,1,2,3,4,5,6,7,10,11],[9,8,0,1,3,2,4,5,6,7,10,11],[9,8,3,0,1,2,4,5,6,7,10,11]] [2,3,4,6] [60000,80000,100000,140000,340200,460200,462400,463600,620200,622400,623600]) (aN [⟨(some 33),none,(.call false 64 [(.k (.one (.f (.str ⟨#[1,97,0]⟩)))),(bD 2),(.k (.one (.f (.str ⟨#[1,110,0]⟩))))])⟩,⟨(some 34),none,(.build [aD,bq,aD,aD,.bK,aD,aD,bq,aD,aD] [dB 1 5 33,⟨6,⟨1,(bD 1)⟩⟩])⟩,ak 35 (.wh 113 10 1 [aD,bq,aD,aD,.bK,aD,aD,bq,aD,aD] [dB 0 10 34]),⟨(some 36),none,(.Oo 9 1 1 [bq] [⟨0,⟨1,(.k (.one (.f (.str ⟨#[48,48,48,48]⟩))))⟩⟩])⟩,⟨(some 37),none,(.build [.bK,aD,.bK,aD] [dB 0 1 35,dB 2 1 36,⟨3,⟨1,(bD 5)⟩⟩])⟩,ak 7 (.alloc 63 [.bK,aD,.bK,aD]),bU (.store 4 (.t 7) (.t 37))] [2,3,4,6,7] (.seq (.any [bV 39 4 7,ak 40 (.call true 25 [(.t 39)]),bV 41 2 2,ak 42 (.call false 26 [(.t 40),(.t 41)]),aC 38 42,ak 43 (.ext (.t 38) 0),ak 44 (.ext (.t 38) 1),ak 8 (.alloc 72 [.bK,aD]),ak 9 (.alloc 74 [aD,.bK,aD,bq,bq,aD,aD,.bK,aD,aD,bq,bq,aD,aD,bq]),bU (.store 2 (.t 8) (.t 43)),bU (.store 15 (.t 9) (.t 44))] [[0,1,2,3,4,5,6,7,8,9,10],[0,1,2,3,4,5,6,8,7,9,10],[0,1,2,7,3,4,5,6,8,9,10],[0,1,2,7,8,3,4,5,6,9,10],[0,1,2,8,3,4,5,6,7,9,10],[0,1,2,8,7,3,4,5,6,9,10],[0,1,7,2,3,4,5,6,8,9,10],[0,1,7,2,8,3,4,5,6,9,10],[0,1,7,8,2,3,4,5,6,9,10],[0,1,8,2,3,4,5,6,7,9,10],[0,1,8,2,7,3,4,5,6,9,10],[0,1,8,7,2,3,4,5,6,9,10],[0,2,1,3,4,5,6,7,8,9,10],[0,2,1,3,4,5,6,8,7,9,10],[0,2,1,7,3,4,5,6,8,9,10],[0,2,1,7,8,3,4,5,6,9,10],[0,2,1,8,3,4,5,6,7,9,10],[0,2,1,8,7,3,4,5,6,9,10],[0,2,7,1,3,4,5,6,8,9,10],[0,2,7,1,8,3,4,5,6,9,10],[0,2,7,8,1,3,4,5,6,9,10],[0,2,8,1,3,4,5,6,7,9,10],[0,2,8,1,7,3,4,5,6,9,10],[0,2,8,7,1,3,4,5,6,9,10],[0,7,1,2,3,4,5,6,8,9,10],[0,7,1,2,8,3,4,5,6,9,10],[0,7,1,8,2,3,4,5,6,9,10],[0,7,2,1,3,4,5,6,8,9,10],[0,7,2,1,8,3,4,5,6,9,10],[0,7,2,8,1,3,4,5,6,9,10],[0,7,8,1,2,3,4,5,6,9,10],[0,7,8,2,1,3,4,5,6,9,10],[0,8,1,2,3,4,5,6,7,9,10],[0,8,1,2,7,3,4,5,6,9,10],[0,8,1,7,2,3,4,5,6,9,10],[0,8,2,1,3,4,5,6,7,9,10],[0,8,2,1,7,3,4,5,6,9,10],[0,8,2,7,1,3,4,5,6,9,10],[0,8,7,1,2,3,4,5,6,9,10],[0,8,7,2,1,3,4,5,6,9,10],[2,0,1,3,4,5,6,7,8,9,10],[2,0,1,3,4,5,6,8,7,9,10],[2,0,1,7,3,4,5,6,8,9,10],[2,0,1,7,8,3,4,5,6,9,10],[2,0,1,8,3,4,5,6,7,9,10],[2,0,1,8,7,3,4,5,6,9,10],[2,0,7,1,3,4,5,6,8,9,10],[2,0,7,1,8,3,4,5,6,9,10],[2,0,7,8,1,3,4,5,6,9,10],[2,0,8,1,3,4,5,6,7,9,10],[2,0,8,1,7,3,4,5,6,9,10],[2,0,8,7,1,3,4,5,6,9,10],[2,7,0,1,3,4,5,6,8,9,10],[2,7,0,1,8,3,4,5,6,9,10],[2,7,0,8,1,3,4,5,6,9,10],[2,7,8,0,1,3,4,5,6,9,10],[2,8,0,1,3,4,5,6,7,9,10],[2,8,0,1,7,3,4,5,6,9,10],[2,8,0,7,1,3,4,5,6,9,10],[2,8,7,0,1,3,4,5,6,9,10],[7,0,1,2,3,4,5,6,8,9,10],[7,0,1,2,8,3,4,5,6,9,10],[7,0,1,8,2,3,4,5,6,9,10],[7,0,2,1,3,4,5,6,8,9,10],[7,0,2,1,8,3,4,5,6,9,10],[7,0,2,8,1,3,4,5,6,9,10],[7,0,8,1,2,3,4,5,6,9,10],[7,0,8,2,1,3,4,5,6,9,10],[7,2,0,1,3,4,5,6,8,9,10],[7,2,0,1,8,3,4,5,6,9,10],[7,2,0,8,1,3,4,5,6,9,10],[7,2,8,0,1,3,4,5,6,9,10],[7,8,0,1,2,3,4,5,6,9,10],[7,8,0,2,1,3,4,5,6,9,10],[7,8,2,0,1,3,4,5,6,9,10],[8,0,1,2,3,4,5,6,7,9,10],[8,0,1,2,7,3,4,5,6,9,10],[8,0,1,7,2,3,4,5,6,9,10],[8,0,2,1,3,4,5,6,7,9,10],[8,0,2,1,7,3,4,5,6,9,10],[8,0,2,7,1,3,4,5,6,9,10],[8,0,7,1,2,3,4,5,6,9,10],[8,0,7,2,1,3,4,5,6,9,10],[8,2,0,1,3,4,5,6,7,9,10],[8,2,0,1,7,3,4,5,6,9,10],[8,2,0,7,1,3,4,5,6,9,10],[8,2,7,0,1,3,4,5,6,9,10],[8,7,0,1,2,3,4,5,6,9,10],[8,7,0,2,1,3,4,5,6,9,10],[8,7,2,0,1,3,4,5,6,9,10]] [2,3,4,6,7,8,9] [60000,80000,100000,140000,160000,180000,200000,340200,460200,462400,463600,620200,622400,623600,720000,740000,860200,862400,863600,1020000,1300000]) (.seq (.oH [⟨bI 45 0 7,[1000000]⟩,⟨bP 46 45,[1000000]⟩,⟨⟨(some 47),none,(.call false 64 [(.k (.one (.f (.str ⟨#[1,110,0]⟩)))),(bD 1),(.k (.one (.f (.str ⟨#[49,49,49,49]⟩))))])⟩,[1000000]⟩,⟨⟨(some 48),none,(.build [aD,bq,aD,aD,.bK,aD,aD,bq,aD,aD] [dB 1 5 47,⟨6,⟨1,(bD 1)⟩⟩])⟩,[1000000]⟩,⟨ak 49 (.wh 113 10 1 [aD,bq,aD,aD,.bK,aD,aD,bq,aD,aD] [dB 0 10 48]),[]⟩] [] [] [ak 50 (.app 113 10 112 (.t 46) (.t 49)),bI 51 0 7,bU (.store 1 (.t 51) (.t 50))] [2,3,4,6,7,8,9]) (.seq (.any [bV 53 4 7,ak 54 (.call true 25 [(.t 53)]),bV 55 2 2,ak 56 (.call false 26 [(.t 54),(.t 55)]),aC 52 56,ak 57 (.ext (.t 52) 0),ak 58 (.ext (.t 52) 1),ak 10 (.alloc 72 [.bK,aD]),ak 11 (.alloc 74 [aD,.bK,aD,bq,bq,aD,aD,.bK,aD,aD,bq,bq,aD,aD,bq]),bU (.store 2 (.t 10) (.t 57)),bU (.store 15 (.t 11) (.t 58))] [[0,1,2,3,4,5,6,7,8,9,10],[0,1,2,3,4,5,6,8,7,9,10],[0,1,2,7,3,4,5,6,8,9,10],[0,1,2,7,8,3,4,5,6,9,10],[0,1,2,8,3,4,5,6,7,9,10],[0,1,2,8,7,3,4,5,6,9,10],[0,1,7,2,3,4,5,6,8,9,10],[0,1,7,2,8,3,4,5,6,9,10],[0,1,7,8,2,3,4,5,6,9,10],[0,1,8,2,3,4,5,6,7,9,10],[0,1,8,2,7,3,4,5,6,9,10],[0,1,8,7,2,3,4,5,6,9,10],[0,2,1,3,4,5,6,7,8,9,10],[0,2,1,3,4,5,6,8,7,9,10],[0,2,1,7,3,4,5,6,8,9,10],[0,2,1,7,8,3,4,5,6,9,10],[0,2,1,8,3,4,5,6,7,9,10],[0,2,1,8,7,3,4,5,6,9,10],[0,2,7,1,3,4,5,6,8,9,10],[0,2,7,1,8,3,4,5,6,9,10],[0,2,7,8,1,3,4,5,6,9,10],[0,2,8,1,3,4,5,6,7,9,10],[0,2,8,1,7,3,4,5,6,9,10],[0,2,8,7,1,3,4,5,6,9,10],[0,7,1,2,3,4,5,6,8,9,10],[0,7,1,2,8,3,4,5,6,9,10],[0,7,1,8,2,3,4,5,6,9,10],[0,7,2,1,3,4,5,6,8,9,10],[0,7,2,1,8,3,4,5,6,9,10],[0,7,2,8,1,3,4,5,6,9,10],[0,7,8,1,2,3,4,5,6,9,10],[0,7,8,2,1,3,4,5,6,9,10],[0,8,1,2,3,4,5,6,7,9,10],[0,8,1,2,7,3,4,5,6,9,10],[0,8,1,7,2,3,4,5,6,9,10],[0,8,2,1,3,4,5,6,7,9,10],[0,8,2,1,7,3,4,5,6,9,10],[0,8,2,7,1,3,4,5,6,9,10],[0,8,7,1,2,3,4,5,6,9,10],[0,8,7,2,1,3,4,5,6,9,10],[2,0,1,3,4,5,6,7,8,9,10],[2,0,1,3,4,5,6,8,7,9,10],[2,0,1,7,3,4,5,6,8,9,10],[2,0,1,7,8,3,4,5,6,9,10],[2,0,1,8,3,4,5,6,7,9,10],[2,0,1,8,7,3,4,5,6,9,10],[2,0,7,1,3,4,5,6,8,9,10],[2,0,7,1,8,3,4,5,6,9,10],[2,0,7,8,1,3,4,5,6,9,10],[2,0,8,1,3,4,5,6,7,9,10],[2,0,8,1,7,3,4,5,6,9,10],[2,0,8,7,1,3,4,5,6,9,10],[2,7,0,1,3,4,5,6,8,9,10],[2,7,0,1,8,3,4,5,6,9,10],[2,7,0,8,1,3,4,5,6,9,10],[2,7,8,0,1,3,4,5,6,9,10],[2,8,0,1,3,4,5,6,7,9,10],[2,8,0,1,7,3,4,5,6,9,10],[2,8,0,7,1,3,4,5,6,9,10],[2,8,7,0,1,3,4,5,6,9,10],[7,0,1,2,3,4,5,6,8,9,10],[7,0,1,2,8,3,4,5,6,9,10],[7,0,1,8,2,3,4,5,6,9,10],[7,0,2,1,3,4,5,6,8,9,10],[7,0,2,1,8,3,4,5,6,9,10],[7,0,2,8,1,3,4,5,6,9,10],[7,0,8,1,2,3,4,5,6,9,10],[7,0,8,2,1,3,4,5,6,9,10],[7,2,0,1,3,4,5,6,8,9,10],[7,2,0,1,8,3,4,5,6,9,10],[7,2,0,8,1,3,4,5,6,9,10],[7,2,8,0,1,3,4,5,6,9,10],[7,8,0,1,2,3,4,5,6,9,10],[7,8,0,2,1,3,4,5,6,9,10],[7,8,2,0,1,3,4,5,6,9,10],[8,0,1,2,3,4,5,6,7,9,10],[8,0,1,2,7,3,4,5,6,9,10],[8,0,1,7,2,3,4,5,6,9,10],[8,0,2,1,3,4,5,6,7,9,10],[8,0,2,1,7,3,4,5,6,9,10],[8,0,2,7,1,3,4,5,6,9,10],[8,0,7,1,2,3,4,5,6,9,10],[8,0,7,2,1,3,4,5,6,9,10],[8,2,0,1,3,4,5,6,7,9,10],[8,2,0,1,7,3,4,5,6,9,10],[8,2,0,7,1,3,4,5,6,9,10],[8,2,7,0,1,3,4,5,6,9,10],[8,7,0,1,2,3,4,5,6,9,10],[8,7,0,2,1,3,4,5,6,9,10],[8,7,2,0,1,3,4,5,6,9,10]] [2,3,4,6,7,8,9,11] [60000,80000,100000,140000,160000,180000,200000,240000,340200,460200,462400,463600,620200,622400,623600,720000,740000,860200,862400,863600,1020000,1140200,1142400,1143600,1300000]) (.seq (.oH [⟨bI 59 0 7,[1280000]⟩,⟨bP 60 59,[1280000]⟩,⟨⟨(some 61),none,(.call false 64 [(.k (.one (.f (.str ⟨#[1,120,1,97,0]⟩)))),(bD 1),(.k (.one (.f (.str ⟨#[50,50,50,50]⟩))))])⟩,[1280000]⟩,⟨⟨(some 62),none,(.build [aD,bq,aD,aD,.bK,aD,aD,bq,aD,aD] [dB 1 5 61,⟨6,⟨1,(bD 5)⟩⟩])⟩,[1280000]⟩,⟨ak 63 (.wh 113 10 1 [aD,bq,aD,aD,.bK,aD,aD,bq,aD,aD] [dB 0 10 62]),[]⟩] [] [] [ak 64 (.app 113 10 112 (.t 60) (.t 63)),bI 65 0 7,bU (.store 1 (.t 65) (.t 64))] [2,3,4,6,7,8,9,11]) (.seq (.any [bV 67 4 7,ak 68 (.call true 25 [(.t 67)]),bV 69 2 2,ak 70 (.call false 26 [(.t 68),(.t 69)]),aC 66 70,ak 71 (.ext (.t 66) 0),ak 72 (.ext (.t 66) 1),ak 12 (.alloc 72 [.bK,aD]),ak 13 (.alloc 74 [aD,.bK,aD,bq,bq,aD,aD,.bK,aD,aD,bq,bq,aD,aD,bq]),bU (.store 2 (.t 12) (.t 71)),bU (.store 15 (.t 13) (.t 72))] [[0,1,2,3,4,5,6,7,8,9,10],[0,1,2,3,4,5,6,8,7,9,10],[0,1,2,7,3,4,5,6,8,9,10],[0,1,2,7,8,3,4,5,6,9,10],[0,1,2,8,3,4,5,6,7,9,10],[0,1,2,8,7,3,4,5,6,9,10],[0,1,7,2,3,4,5,6,8,9,10],[0,1,7,2,8,3,4,5,6,9,10],[0,1,7,8,2,3,4,5,6,9,10],[0,1,8,2,3,4,5,6,7,9,10],[0,1,8,2,7,3,4,5,6,9,10],[0,1,8,7,2,3,4,5,6,9,10],[0,2,1,3,4,5,6,7,8,9,10],[0,2,1,3,4,5,6,8,7,9,10],[0,2,1,7,3,4,5,6,8,9,10],[0,2,1,7,8,3,4,5,6,9,10],[0,2,1,8,3,4,5,6,7,9,10],[0,2,1,8,7,3,4,5,6,9,10],[0,2,7,1,3,4,5,6,8,9,10],[0,2,7,1,8,3,4,5,6,9,10],[0,2,7,8,1,3,4,5,6,9,10],[0,2,8,1,3,4,5,6,7,9,10],[0,2,8,1,7,3,4,5,6,9,10],[0,2,8,7,1,3,4,5,6,9,10],[0,7,1,2,3,4,5,6,8,9,10],[0,7,1,2,8,3,4,5,6,9,10],[0,7,1,8,2,3,4,5,6,9,10],[0,7,2,1,3,4,5,6,8,9,10],[0,7,2,1,8,3,4,5,6,9,10],[0,7,2,8,1,3,4,5,6,9,10],[0,7,8,1,2,3,4,5,6,9,10],[0,7,8,2,1,3,4,5,6,9,10],[0,8,1,2,3,4,5,6,7,9,10],[0,8,1,2,7,3,4,5,6,9,10],[0,8,1,7,2,3,4,5,6,9,10],[0,8,2,1,3,4,5,6,7,9,10],[0,8,2,1,7,3,4,5,6,9,10],[0,8,2,7,1,3,4,5,6,9,10],[0,8,7,1,2,3,4,5,6,9,10],[0,8,7,2,1,3,4,5,6,9,10],[2,0,1,3,4,5,6,7,8,9,10],[2,0,1,3,4,5,6,8,7,9,10],[2,0,1,7,3,4,5,6,8,9,10],[2,0,1,7,8,3,4,5,6,9,10],[2,0,1,8,3,4,5,6,7,9,10],[2,0,1,8,7,3,4,5,6,9,10],[2,0,7,1,3,4,5,6,8,9,10],[2,0,7,1,8,3,4,5,6,9,10],[2,0,7,8,1,3,4,5,6,9,10],[2,0,8,1,3,4,5,6,7,9,10],[2,0,8,1,7,3,4,5,6,9,10],[2,0,8,7,1,3,4,5,6,9,10],[2,7,0,1,3,4,5,6,8,9,10],[2,7,0,1,8,3,4,5,6,9,10],[2,7,0,8,1,3,4,5,6,9,10],[2,7,8,0,1,3,4,5,6,9,10],[2,8,0,1,3,4,5,6,7,9,10],[2,8,0,1,7,3,4,5,6,9,10],[2,8,0,7,1,3,4,5,6,9,10],[2,8,7,0,1,3,4,5,6,9,10],[7,0,1,2,3,4,5,6,8,9,10],[7,0,1,2,8,3,4,5,6,9,10],[7,0,1,8,2,3,4,5,6,9,10],[7,0,2,1,3,4,5,6,8,9,10],[7,0,2,1,8,3,4,5,6,9,10],[7,0,2,8,1,3,4,5,6,9,10],[7,0,8,1,2,3,4,5,6,9,10],[7,0,8,2,1,3,4,5,6,9,10],[7,2,0,1,3,4,5,6,8,9,10],[7,2,0,1,8,3,4,5,6,9,10],[7,2,0,8,1,3,4,5,6,9,10],[7,2,8,0,1,3,4,5,6,9,10],[7,8,0,1,2,3,4,5,6,9,10],[7,8,0,2,1,3,4,5,6,9,10],[7,8,2,0,1,3,4,5,6,9,10],[8,0,1,2,3,4,5,6,7,9,10],[8,0,1,2,7,3,4,5,6,9,10],[8,0,1,7,2,3,4,5,6,9,10],[8,0,2,1,3,4,5,6,7,9,10],[8,0,2,1,7,3,4,5,6,9,10],[8,0,2,7,1,3,4,5,6,9,10],[8,0,7,1,2,3,4,5,6,9,10],[8,0,7,2,1,3,4,5,6,9,10],[8,2,0,1,3,4,5,6,7,9,10],[8,2,0,1,7,3,4,5,6,9,10],[8,2,0,7,1,3,4,5,6,9,10],[8,2,7,0,1,3,4,5,6,9,10],[8,7,0,1,2,3,4,5,6,9,10],[8,7,0,2,1,3,4,5,6,9,10],[8,7,2,0,1,3,4,5,6,9,10]] [2,3,4,6,8,9,11,13] [60000,80000,100000,140000,180000,200000,240000,280000,340200,460200,462400,463600,620200,622400,623600,860200,862400,863600,1140200,1142400,1143600,1420200,1422400,1423600]) (.seq (aN [bI 73 0 2,bP 74 73,ak 75 (.fV (.t 74)),ak 76 (.cmp .ne (.t 75) (bD 1)),aC 77 76,aR 78 77 false (.fa 0 (.t 3)),aR 79 77 false (.load 1 false (.t 78)),aR 80 77 false (.fV (.t 79)),aR 81 77 false (.cmp .ne (.t 80) (bD 1)),ak 82 (.pick (.t 77) dU (.t 81)),aC 83 82,aR 84 83 false (.fa 0 (.t 8)),aR 85 83 false (.load 1 false (.t 84)),aR 86 83 false (.fV (.t 85)),aR 87 83 false (.cmp .ne (.t 86) (bD 2)),ak 88 (.pick (.t 83) dU (.t 87))] [2,3,4,6,8,9,11,13,88] (.cond (.t 88) (aN [ak 0 (.mv cB)] [0] .ret) .skip)) (aN [bI 89 0 2,bP 90 89,ak 91 (.ia 5 (.t 90) (bD 0)),bI 92 0 91,bI 93 0 92,bP 94 93,⟨(some 95),none,(.oG (.one .str) false (.t 94) (.k (.one (.f (.str ⟨#[1,120,1,97,0]⟩)))))⟩,aC 96 95,aR 97 96 true (.fa 0 (.t 4)),aR 98 96 true (.load 1 false (.t 97)),aR 99 96 true (.cmp .eq (.t 98) (bD 0)),ak 100 (.pick (.t 96) (.t 99) cB),aC 101 100,aR 102 101 true (.fa 10 (.t 4)),aR 103 101 true (.load 1 false (.t 102)),⟨(some 104),(some ⟨(some 101),true⟩),(.oG (.one .str) false (.t 103) (.k (.one (.f (.str ⟨#[48,48,48,48]⟩)))))⟩,ak 105 (.pick (.t 101) (.t 104) cB),aC 106 105,aR 107 106 true (.fa 14 (.t 4)),aR 108 106 true (.load 1 false (.t 107)),⟨(some 109),(some ⟨(some 106),true⟩),(.oG (.one .str) false (.t 108) (.k (.one (.f (.str ⟨#[0]⟩)))))⟩,ak 110 (.pick (.t 106) (.t 109) cB),aC 111 110,aR 112 111 true (.fa 0 (.t 3)),aR 113 111 true (.load 1 false (.t 112)),aR 114 111 true (.ia 5 (.t 113) (bD 0)),aR 115 111 true (.fa 4 (.t 114)),aR 116 111 true (.load 1 false (.t 115)),aR 117 111 true (.cmp .eq (.t 116) (bD 1)),ak 118 (.pick (.t 111) (.t 117) cB),aC 119 118,aR 120 119 true (.fa 1 (.t 3)),aR 121 119 true (.load 1 false (.t 120)),aR 122 119 true (.cmp .eq (.t 121) (bD 1)),ak 123 (.pick (.t 119) (.t 122) cB),aC 124 123,aR 125 124 true (.fa 0 (.t 6)),aR 126 124 true (.load 1 false (.t 125)),aR 127 124 true (.cmp .eq (.t 126) (bD 2)),ak 128 (.pick (.t 124) (.t 127) cB),aC 129 128,aR 130 129 true (.fa 0 (.t 9)),aR 131 129 true (.load 1 false (.t 130)),aR 132 129 true (.cmp .eq (.t 131) (bD 0)),ak 133 (.pick (.t 129) (.t 132) cB),aC 134 133,aR 135 134 true (.fa 11 (.t 9)),aR 136 134 true (.fa 0 (.t 135)),aR 137 134 true (.load 1 false (.t 136)),⟨(some 138),(some ⟨(some 134),true⟩),(.oG (.one .str) false (.t 137) (.k (.one (.f (.str ⟨#[1,110,0]⟩)))))⟩,ak 139 (.pick (.t 134) (.t 138) cB),aC 140 139,aR 141 140 true (.fa 0 (.t 8)),aR 142 140 true (.load 1 false (.t 141)),aR 143 140 true (.ia 5 (.t 142) (bD 1)),aR 144 140 true (.fa 0 (.t 143)),aR 145 140 true (.fa 1 (.t 144)),aR 146 140 true (.load 1 false (.t 145)),aR 147 140 true (.cmp .eq (.t 146) (bD 1)),ak 148 (.pick (.t 140) (.t 147) cB),aC 149 148,aR 150 149 true (.fa 10 (.t 11)),aR 151 149 true (.load 1 false (.t 150)),⟨(some 152),(some ⟨(some 149),true⟩),(.oG (.one .str) false (.t 151) (.k (.one (.f (.str ⟨#[49,49,49,49]⟩)))))⟩,ak 153 (.pick (.t 149) (.t 152) cB),aC 154 153,aR 155 154 true (.fa 14 (.t 11)),aR 156 154 true (.load 1 false (.t 155)),⟨(some 157),(some ⟨(some 154),true⟩),(.oG (.one .str) false (.t 156) (.k (.one (.f (.str ⟨#[1,97,0]⟩)))))⟩,ak 158 (.pick (.t 154) (.t 157) cB),aC 159 158,aR 160 159 true (.fa 0 (.t 13)),aR 161 159 true (.load 1 false (.t 160)),aR 162 159 true (.cmp .eq (.t 161) (bD 1)),ak 163 (.pick (.t 159) (.t 162) cB),aC 164 163,aR 165 164 true (.fa 1 (.t 13)),aR 166 164 true (.fa 0 (.t 165)),aR 167 164 true (.load 1 false (.t 166)),aR 168 164 true (.fV (.t 167)),aR 169 164 true (.cmp .eq (.t 168) (bD 1)),ak 170 (.pick (.t 164) (.t 169) cB),aC 0 170] [0] .ret)))))))))))))⟩
def c64 : CF:=⟨3,[(.cell 6 5 true)],[],[],(aN [ak 6 (.alloc 42 [bq,aD,aD,.bK,aD])] [0,1,2,6] (aN [aC 7 0,aC 8 1,⟨(some 9),none,(.build [bq,aD,aD] [dB 0 1 7,dB 1 1 8,⟨2,⟨1,(bD 1)⟩⟩])⟩,aC 10 2,ak 11 (.wh 9 1 1 [bq] [dB 0 1 10]),⟨(some 12),none,(.build [bq,aD,aD,.bK,aD] [dB 0 3 9,dB 3 1 11,⟨4,⟨1,(bD 99)⟩⟩])⟩,bU (.store 5 (.t 6) (.t 12))] [6] .ret))⟩
def c9 : CF:=⟨2,[(.t 4)],[],[],(aN [ak 2 (.box 63 (.t 0)),ak 3 (.box 24 (.t 1)),ak 4 (.mv cB)] [2,3] (.seq (aN [bV 12 4 2,ak 13 (.call false 23 [(.t 12)]),ak 14 (.no (.t 13)),aC 15 14,aR 16 15 false (.fa 0 (.t 3)),aR 17 15 false (.load 1 false (.t 16)),aR 18 15 false (.wH (.t 17)),aR 19 15 false (.cmp .gt (.t 18) (bD 300)),ak 20 (.pick (.t 15) dU (.t 19))] [2,3,20] (.cond (.t 20) (aN [ak 21 (.call false 24 []),aC 4 21] [4] .ret) .skip)) (aN [bV 22 4 2,ak 23 (.call false 25 [(.t 22)]),ak 5 (.alloc 77 [.iw,.iw,aD,.bK,aD]),bU (.store 5 (.t 5) (.t 23))] [3,5] (aN [bV 24 3 3,ak 25 (.call false 34 [(.t 24)]),ak 6 (.alloc 72 [.bK,aD]),bU (.store 2 (.t 6) (.t 25))] [5,6] (.seq (aN [ak 7 (.mv (bD 0))] [5,6,7] (.block 0 (.loop [5,6,7] [120000,140000,480200,480204,480206,480400,480404,480406,480800,520200,680200,682400,683600] [] (.seq (aN [aC 26 7,ak 27 (.cmp .lt (.t 26) (bD 60))] [5,6,7,27] (.cond (.t 27) .skip (.exit 0))) (.seq (.block 1 (aN [bV 31 5 5,bV 32 2 6,ak 33 (.call false 26 [(.t 31),(.t 32)]),aC 30 33,ak 34 (.ext (.t 30) 0),ak 35 (.ext (.t 30) 1),ak 8 (.alloc 72 [.bK,aD]),ak 9 (.alloc 74 [aD,.bK,aD,bq,bq,aD,aD,.bK,aD,aD,bq,bq,aD,aD,bq]),bU (.store 2 (.t 8) (.t 34)),bU (.store 15 (.t 9) (.t 35))] [5,6,7,8,9] (aN [bV 36 2 8,bU (.store 2 (.t 6) (.t 36))] [5,6,7,9] (.seq (aN [bI 37 0 9,bP 38 37,ak 39 (.cmp .eq (.t 38) (bD 0))] [5,6,7,9,39] (.cond (.t 39) (.exit 1) .skip)) (aN [bV 41 5 5,bV 42 2 6,ak 43 (.call false 26 [(.t 41),(.t 42)]),aC 40 43,ak 44 (.ext (.t 40) 0),ak 45 (.ext (.t 40) 1),ak 10 (.alloc 72 [.bK,aD]),ak 11 (.alloc 74 [aD,.bK,aD,bq,bq,aD,aD,.bK,aD,aD,bq,bq,aD,aD,bq]),bU (.store 2 (.t 10) (.t 44)),bU (.store 15 (.t 11) (.t 45))] [6,9,10,11] (.seq (.oH [⟨bV 46 15 9,[]⟩,⟨ak 47 (.call false 33 [(.t 46)]),[]⟩,⟨bV 48 15 11,[]⟩,⟨ak 49 (.call false 33 [(.t 48)]),[]⟩,⟨ak 50 (.call false 32 [(.t 47),(.t 49)]),[]⟩,⟨aC 51 50,[]⟩,⟨aR 52 51 true (.load 2 true (.t 10)),[]⟩,⟨aR 53 51 true (.call false 31 [(.t 52)]),[]⟩,⟨aR 54 51 true (.load 2 true (.t 6)),[]⟩] [] [] [aR 55 51 true (.call false 31 [(.t 54)]),aR 56 51 true (.call false 30 [(.t 53),(.t 55)]),ak 57 (.pick (.t 51) (.t 56) cB),aC 58 57,aR 59 58 true (.call false 24 []),ak 60 (.pick (.t 58) (.t 59) cB),aC 4 60] [4]) .ret)))))) (.reg [aC 28 7,ak 29 (.ar .add (.t 28) (bD 1)),aC 7 29] [5,6,7])))))) (aN [ak 61 (.call false 24 []),aC 4 61] [4] .ret))))))⟩
def c23 : CF:=⟨1,[(.t 2)],[],[],(aN [ak 1 (.box 63 (.t 0)),ak 2 (.mv cB)] [1] (aN [bI 3 0 1,bP 4 3,ak 5 (.call false 10 [(.t 4),(bD 40)]),ak 6 (.cmp .eq (.t 5) (bD 1)),aC 7 6,aR 8 7 true (.fa 2 (.t 1)),aR 9 7 true (.load 1 false (.t 8)),aR 10 7 true (.fV (.t 9)),aR 11 7 true (.cmp .le (.t 10) (bD 20)),ak 12 (.pick (.t 7) (.t 11) cB),aC 2 12] [2] .ret))⟩
def c31 : CF:=⟨1,[(.cell 2 2 true)],[],[],(aN [ak 1 (.box 72 (.t 0)),ak 2 (.alloc 66 [.bK,aD])] [1,2] (aN [bI 5 1 1,bP 6 5,ak 7 (.build [.bK,aD] [dB 1 1 6]),ak 3 (.alloc 66 [.bK,aD]),bU (.store 2 (.t 3) (.t 7))] [1,2,3] (.seq (aN [ak 4 (.mv (bD 0))] [1,2,3,4] (.block 0 (.loop [1,2,3,4] [20202,40000,60000,80000,480000] [] (.seq (aN [aC 8 4,bI 9 0 1,bP 10 9,ak 11 (.fV (.t 10)),ak 12 (.cmp .lt (.t 8) (.t 11))] [1,2,3,4,12] (.cond (.t 12) .skip (.exit 0))) (.seq (.block 1 (.oH [⟨bI 15 0 3,[460000]⟩,⟨bP 16 15,[460000]⟩,⟨bI 17 0 1,[460000]⟩,⟨bP 18 17,[460000]⟩,⟨aC 19 4,[460000]⟩,⟨ak 20 (.ia 5 (.t 18) (.t 19)),[460000]⟩,⟨bV 21 5 20,[460000]⟩,⟨ak 22 (.wh 69 5 1 [bq,aD,aD,bq,aD] [dB 0 5 21]),[]⟩] [] [] [ak 23 (.app 69 5 56 (.t 16) (.t 22)),bI 24 0 3,bU (.store 1 (.t 24) (.t 23))] [1,2,3,4])) (.reg [aC 13 4,ak 14 (.ar .add (.t 13) (bD 1)),aC 4 14] [1,2,3,4])))))) (aN [bV 25 2 3,bU (.store 2 (.t 2) (.t 25))] [2] .ret))))⟩
def c33 : CF:=⟨1,[(.cell 2 15 true)],[],[],(aN [ak 1 (.box 74 (.t 0)),ak 2 (.alloc 82 [aD,.bK,aD,bq,bq,aD,aD,.bK,aD,aD,bq,bq,aD,aD,bq])] [1,2] (.seq (.oH [⟨bI 3 0 1,[]⟩,⟨bP 4 3,[]⟩,⟨bI 5 1 1,[]⟩,⟨bV 6 9 5,[]⟩,⟨ak 7 (.call false 17 [(.t 6)]),[]⟩,⟨bI 8 10 1,[]⟩,⟨bP 9 8,[]⟩,⟨bI 10 11 1,[]⟩,⟨bV 11 3 10,[]⟩,⟨bI 12 14 1,[]⟩,⟨bP 13 12,[]⟩] [] [] [ak 14 (.build [aD,.bK,aD,bq,bq,aD,aD,.bK,aD,aD,bq,bq,aD,aD,bq] [dB 0 1 4,dB 1 9 7,dB 10 1 9,dB 11 3 11,dB 14 1 13]),bU (.store 15 (.t 2) (.t 14))] [2]) .ret))⟩
def c30 : CF:=⟨2,[(.t 4)],[],[],(aN [ak 2 (.box 66 (.t 0)),ak 3 (.box 66 (.t 1)),ak 4 (.mv cB)] [2,3] (.seq (aN [bI 6 1 2,bP 7 6,bI 8 1 3,bP 9 8,ak 10 (.cmp .ne (.t 7) (.t 9)),aC 11 10,aR 12 11 false (.fa 0 (.t 2)),aR 13 11 false (.load 1 false (.t 12)),aR 14 11 false (.fV (.t 13)),aR 15 11 false (.fa 0 (.t 3)),aR 16 11 false (.load 1 false (.t 15)),aR 17 11 false (.fV (.t 16)),aR 18 11 false (.cmp .ne (.t 14) (.t 17)),ak 19 (.pick (.t 11) dU (.t 18))] [2,3,19] (.cond (.t 19) (aN [ak 4 (.mv cB)] [4] .ret) .skip)) (.seq (aN [ak 5 (.mv (bD 0))] [2,3,5] (.block 0 (.loop [2,3,5] [20202,40202,60000,80000] [] (.seq (aN [aC 20 5,bI 21 0 2,bP 22 21,ak 23 (.fV (.t 22)),ak 24 (.cmp .lt (.t 20) (.t 23))] [2,3,5,24] (.cond (.t 24) .skip (.exit 0))) (.seq (.block 1 (.seq (.oH [⟨bI 27 0 2,[]⟩,⟨bP 28 27,[]⟩,⟨aC 29 5,[]⟩,⟨ak 30 (.ia 5 (.t 28) (.t 29)),[]⟩,⟨bV 31 5 30,[]⟩,⟨bI 32 0 3,[]⟩,⟨bP 33 32,[]⟩,⟨aC 34 5,[]⟩,⟨ak 35 (.ia 5 (.t 33) (.t 34)),[]⟩,⟨bV 36 5 35,[]⟩] [] [] [ak 37 (.oG (.agg [.str,(.int .i64),(.int .i64),.str,(.int .i64)]) true (.t 31) (.t 36))] [2,3,5,37]) (.cond (.t 37) (aN [ak 4 (.mv cB)] [4] .ret) .skip))) (.reg [aC 25 5,ak 26 (.ar .add (.t 25) (bD 1)),aC 5 26] [2,3,5])))))) (aN [ak 4 (.mv dU)] [4] .ret))))⟩
def c32 : CF:=⟨2,[(.t 4)],[],[],(aN [ak 2 (.box 82 (.t 0)),ak 3 (.box 82 (.t 1)),ak 4 (.mv cB)] [2,3] (aN [bI 5 0 2,bP 6 5,bI 7 0 3,bP 8 7,ak 9 (.cmp .eq (.t 6) (.t 8)),aC 10 9,aR 11 10 true (.fa 1 (.t 2)),aR 12 10 true (.load 9 true (.t 11)),aR 13 10 true (.fa 1 (.t 3)),aR 14 10 true (.load 9 true (.t 13)),aR 15 10 true (.call false 16 [(.t 12),(.t 14)]),ak 16 (.pick (.t 10) (.t 15) cB),aC 17 16,aR 18 17 true (.fa 10 (.t 2)),aR 19 17 true (.load 1 false (.t 18)),aR 20 17 true (.fa 10 (.t 3)),aR 21 17 true (.load 1 false (.t 20)),aR 22 17 true (.oG (.one .str) false (.t 19) (.t 21)),ak 23 (.pick (.t 17) (.t 22) cB),aC 24 23,aR 25 24 true (.fa 11 (.t 2)),aR 26 24 true (.load 3 true (.t 25)),aR 27 24 true (.fa 11 (.t 3)),aR 28 24 true (.load 3 true (.t 27)),aR 29 24 true (.oG (.agg [.str,(.int .i64),(.int .i64)]) false (.t 26) (.t 28)),ak 30 (.pick (.t 24) (.t 29) cB),aC 31 30,aR 32 31 true (.fa 14 (.t 2)),aR 33 31 true (.load 1 false (.t 32)),aR 34 31 true (.fa 14 (.t 3)),aR 35 31 true (.load 1 false (.t 34)),aR 36 31 true (.oG (.one .str) false (.t 33) (.t 35)),ak 37 (.pick (.t 31) (.t 36) cB),aC 4 37] [4] .ret))⟩
def oz : List (FuncId × CF):=[(25,Mt),(34,c34),(26,c26),(66,Kg),(108,q8),(36,c36),(69,c69),(70,c70),(24,c24),(64,c64),(9,c9),(23,c23),(31,c31),(33,c33),(30,c30),(32,c32)]
end
section
attribute [local go_sem_proc] Nat.reduceAdd Nat.reduceMul Nat.reduceEqDiff Nat.reduceBEq Nat.reduceMod Nat.reduceDiv reduceCtorEq
attribute [local go_sem_proc ↓] reduceIte
open Go Ev Kc
noncomputable abbrev G2 (ext:Env) (F n:Nat):Env:=Gm oz ext F n
structure Gl where
 q:Qn
 zone:ByteArray
 tries:Int
 deriving DecidableEq
def rG (x:Gl):List FV:=[.str x.q.q,.int .i64 x.q.t,.int .i64 x.q.c,.str x.zone,.int .i64 x.tries]
structure Tk where
 goals:List Gl
 sends:Int
abbrev Tk.v (t:Tk):AV:=.agg [.f (.sl (t.goals.map rG)),.f (.int .i64 t.sends)]
abbrev Tk.pv (t:Tk):AV:=.one (.ptr [.own 5 (t.goals.map rG),.f (.int .i64 t.sends)])
structure Stp where
 kind:Int
 ch:Ch
 server:ByteArray
 q:Qn
 zone:ByteArray
def ch0 : Ch:=⟨[],0,⟨#[]⟩,pF⟩
def aai : Stp:=⟨0,ch0,⟨#[]⟩,⟨⟨#[]⟩,0,0⟩,⟨#[]⟩⟩
def zk : Stp:=⟨2,ch0,⟨#[]⟩,⟨⟨#[]⟩,0,0⟩,⟨#[]⟩⟩
abbrev Stp.v (x:Stp):AV:=.agg [.f (.int .i64 x.kind),.f (.sl (x.ch.hits.map rH)),.f (.int .i64 x.ch.e),.f (.str x.ch.nm),.f (.str x.ch.iB.s.q),.f (.int .i64 x.ch.iB.s.t),.f (.int .i64 x.ch.iB.s.c),.f (.sl (x.ch.iB.s.d.map aY)),.f (.int .i64 x.ch.iB.s.ttl),.f (.int .i64 x.ch.iB.left),.f (.str x.server),.f (.str x.q.q),.f (.int .i64 x.q.t),.f (.int .i64 x.q.c),.f (.str x.zone)]
structure Wd where
 s:Sv
 m:Ne.Nv
 now:Int
 roots:List ByteArray
 work:Int
abbrev Wd.v (w:Wd):AV:=.agg [w.s.tv,nvt w.m,.f (.int .i64 w.now),.f (.sl (w.roots.map aY)),.f (.int .i64 w.work)]
def Ox (l:List Gl) (names:List ByteArray):Option ByteArray:=names.find? fun x=>l.all fun g=>decide (g.q.q ≠ x)
def qC (l:List Gl) (names:List ByteArray):ByteArray × Bool:=match Ox l names with
 | some x=>(x,true)
 | none=>(⟨#[]⟩,false)
structure Sk (θ:Th) (nm:Int → ByteArray → List ByteArray) (gt:ByteArray → Int → Int → Int × Bool) (up:ByteArray → ByteArray × Bool) (ext:Env):Prop where
 pk:∀ (s:Sv) now (q:Qn),(∀ x ∈ s.m,x.d.length ≤ 1000000) → ext 43 [s.v,vi now,q.v] = some ([(bA s now q).1.v,vb (bA s now q).2],[s.v,vi now,q.v])
 fw:∀ (s:Sv) (m:Ne.Nv) now (q:Qn),FW (s,m) → ext 14 [s.v,m.v,vi now,q.v] = some ([(wz nm (bA s now) (Ne.fE m now) now q).v],[s.v,m.v,vi now,q.v])
 lo:∀ q,q.size ≤ 1000000 → ext 68 [vs q] = some ([vs (θ.low q)],[vs q])
 xup:∀ q,q.size ≤ 1000000 → ext 71 [vs q] = some ([vs (up q).1,vb (up q).2],[vs q])
 xnm:∀ k q,q.size ≤ 1000000 → ext 81 [vi k,vs q] = some ([vl ((nm k q).map aY)],[vi k,vs q])
 cs:∀ l:List ByteArray,l.length ≤ 1000000 → ext 72 [vl (l.map aY)] = some ([vl (l.map aY)],[vl (l.map aY)])
 cg:∀ l:List Gl,l.length ≤ 1000000 → ext 65 [vl (l.map rG)] = some ([.one (.own 5 (l.map rG))],[vl (l.map rG)])
 fr:∀ (l:List Gl) (n:Int) (names:List ByteArray),l.length ≤ 1000000 → names.length ≤ 100000000 → ext 125 [.agg [.own 5 (l.map rG),.f (.int .i64 n)],vl (names.map aY)] = some ([vs (qC l names).1,vb (qC l names).2],[.agg [.own 5 (l.map rG),.f (.int .i64 n)],vl (names.map aY)])
 fl:∀ l:List Pt,l.length ≤ 1000 → kF l = true → ext 12 [vl (l.map rP)] = some ([(mD θ gt l).1.v,(mD θ gt l).2.v],[vl (l.map rP)])
 fo:∀ l:List Pt,l.length ≤ 1000 → kF l = true → ext 12 [.one (.own 10 (l.map rP))] = some ([(mD θ gt l).1.v,(mD θ gt l).2.v],[.one (.own 10 (l.map rP))])
 nl:∀ k q,(nm k q).length ≤ 2 ∧ ∀ x ∈ nm k q,x.size ≤ 255
 us:∀ q,(up q).2 = true → (up q).1.size < q.size
 ls:∀ q,(θ.low q).size ≤ q.size
variable {θ : Th} {nm:Int → ByteArray → List ByteArray} {gt:ByteArray → Int → Int → Int × Bool} {up:ByteArray → ByteArray × Bool} {ext:Env} {F n:Nat}
theorem aeY (S:Sk θ nm gt up ext) (s:Sv) (now:Int) (q:Qn) (h:∀ x ∈ s.m,x.d.length ≤ 1000000):G2 ext F (n + 1) 43 [s.v,vi now,q.v] = some ([(bA s now q).1.v,vb (bA s now q).2],[s.v,vi now,q.v]):=(aiD (gN rfl) _).trans (S.pk s now q h)
theorem aeZ (S:Sk θ nm gt up ext) (s:Sv) (m:Ne.Nv) (now:Int) (q:Qn) (h:FW (s,m)):G2 ext F (n + 1) 14 [s.v,m.v,vi now,q.v] = some ([(wz nm (bA s now) (Ne.fE m now) now q).v],[s.v,m.v,vi now,q.v]):=(aiD (gN rfl) _).trans (S.fw s m now q h)
theorem aaj (S:Sk θ nm gt up ext) (q:ByteArray) (h:q.size ≤ 1000000):G2 ext F (n + 1) 68 [vs q] = some ([vs (θ.low q)],[vs q]):=(aiD (gN rfl) _).trans (S.lo q h)
theorem ae0 (S:Sk θ nm gt up ext) (q:ByteArray) (h:q.size ≤ 1000000):G2 ext F (n + 1) 71 [vs q] = some ([vs (up q).1,vb (up q).2],[vs q]):=(aiD (gN rfl) _).trans (S.xup q h)
theorem ae1 (S:Sk θ nm gt up ext) (k:Int) (q:ByteArray) (h:q.size ≤ 1000000):G2 ext F (n + 1) 81 [vi k,vs q] = some ([vl ((nm k q).map aY)],[vi k,vs q]):=(aiD (gN rfl) _).trans (S.xnm k q h)
theorem ae2 (S:Sk θ nm gt up ext) (l:List ByteArray) (h:l.length ≤ 1000000):G2 ext F (n + 1) 72 [vl (l.map aY)] = some ([vl (l.map aY)],[vl (l.map aY)]):=(aiD (gN rfl) _).trans (S.cs l h)
theorem ae3 (S:Sk θ nm gt up ext) (l:List Gl) (h:l.length ≤ 1000000):G2 ext F (n + 1) 65 [vl (l.map rG)] = some ([.one (.own 5 (l.map rG))],[vl (l.map rG)]):=(aiD (gN rfl) _).trans (S.cg l h)
theorem aak (S:Sk θ nm gt up ext) (l:List Gl) (k:Int) (names:List ByteArray) (h:l.length ≤ 1000000) (h2:names.length ≤ 100000000):G2 ext F (n + 1) 125 [.agg [.own 5 (l.map rG),.f (.int .i64 k)],vl (names.map aY)] = some ([vs (qC l names).1,vb (qC l names).2],[.agg [.own 5 (l.map rG),.f (.int .i64 k)],vl (names.map aY)]):=(aiD (gN rfl) _).trans (S.fr l k names h h2)
theorem ae4 (S:Sk θ nm gt up ext) (l:List Pt) (h:l.length ≤ 1000) (h2:kF l = true):G2 ext F (n + 1) 12 [vl (l.map rP)] = some ([(mD θ gt l).1.v,(mD θ gt l).2.v],[vl (l.map rP)]):=(aiD (gN rfl) _).trans (S.fl l h h2)
theorem ae5 (S:Sk θ nm gt up ext) (l:List Pt) (h:l.length ≤ 1000) (h2:kF l = true):G2 ext F (n + 1) 12 [.one (.own 10 (l.map rP))] = some ([(mD θ gt l).1.v,(mD θ gt l).2.v],[.one (.own 10 (l.map rP))]):=(aiD (gN rfl) _).trans (S.fo l h h2)
def kG (pk:Qn → It × Bool) (a:List ByteArray × List ByteArray) (x:ByteArray):List ByteArray × List ByteArray:=if (pk ⟨x,1,1⟩).2 = true then (a.1 ++ (pk ⟨x,1,1⟩).1.d,a.2) else (a.1,a.2 ++ [x])
def vQ (nm:Int → ByteArray → List ByteArray) (pk:Qn → It × Bool) (a:List ByteArray × List ByteArray) (d:ByteArray):List ByteArray × List ByteArray:=(nm 2 d).foldl (kG pk) a
def Ya (nm:Int → ByteArray → List ByteArray) (pk:Qn → It × Bool) (servers:List ByteArray):List ByteArray × List ByteArray:=servers.foldl (vQ nm pk) ([],[])
def rt0 : ByteArray:=⟨#[0]⟩
def sN (nm:Int → ByteArray → List ByteArray) (up:ByteArray → ByteArray × Bool) (pk:Qn → It × Bool) (roots:List ByteArray):Nat → ByteArray → ByteArray × List ByteArray × List ByteArray
 | 0,z=>(rt0,roots,[])
 | f + 1,z=>if (pk ⟨z,2,1⟩).2 = true then (z,Ya nm pk (pk ⟨z,2,1⟩).1.d) else if (up z).2 = true then sN nm up pk roots f (up z).1 else (rt0,roots,[])
def cut (θ:Th) (nm:Int → ByteArray → List ByteArray) (up:ByteArray → ByteArray × Bool) (pk:Qn → It × Bool) (roots:List ByteArray) (q:ByteArray):ByteArray × List ByteArray × List ByteArray:=if θ.low q = ⟨#[]⟩ then (⟨#[]⟩,[],[]) else sN nm up pk roots ((θ.low q).size + 1) (θ.low q)
theorem Mv (S:Sk θ nm gt up ext) (w:Wd) (hd:∀ x ∈ w.s.m,x.d.length ≤ 1000000) (x:ByteArray) (k:Int):G2 ext F (n + 2) 69 [w.v,vs x,vi k] = some ([vl ((bA w.s w.now ⟨x,k,1⟩).1.d.map aY),vb (bA w.s w.now ⟨x,k,1⟩).2],[w.v,vs x,vi k]):=by
 refine cK (cf:=c69) rfl ?_
 have h1:=fun n=>aeY (F:=F) (n:=n) S w.s w.now ⟨x,k,1⟩ hd
 dsimp only [c69,ak,bU,aR,bD,aD,bq,dB,dU,cB,aC,bP,bV,bI,aN];simp only [h1,go_sem]
 done
end
end Go.Proofs.YtfokaoeinpnagaaGreat.Kd
namespace Go.Proofs.YtfokaoeinpnagaaGreat.Kf
section
open Go Ev
def ak (d:Nat) (i:I):G:=⟨some d,none,i⟩
def bU (i:I):G:=⟨none,none,i⟩
def aR (d s:Nat) (b:Bool) (i:I):G:=⟨some d,some (some s,b),i⟩
def bD (n:Int):dF:=.k (.one (.f (.int .i64 n)))
def aD : PL:=.f (.int .i64 0)
def bq : PL:=.f (.str ⟨#[]⟩)
def dB (a b s:Nat):Nat × Nat × dF:=⟨a,b,.t s⟩
def dU : dF:=.k (.one (.f (.bool true)))
def cB : dF:=.k (.one (.f (.bool false)))
def aC (d s:Nat):G:=⟨some d,none,.mv (.t s)⟩
def bP (d s:Nat):G:=⟨some d,none,.load 1 false (.t s)⟩
def bV (d n s:Nat):G:=⟨some d,none,.load n true (.t s)⟩
def bI (d f s:Nat):G:=⟨some d,none,.fa f (.t s)⟩
def aN (a:List G) (b:List Nat) (c:CC):CC:=.seq (.reg a b) c
def Mw : CF:=⟨2,[(.t 4),(.t 5)],[],[],(aN [ak 2 (.box 72 (.t 0)),ak 4 (.mv (.k (.one bq))),ak 5 (.mv cB)] [1,2] (aN [aC 7 1,ak 8 (.OA 142 [(.t 2)]),ak 9 (.call false 141 [(.t 7),(.t 8)]),aC 6 9] [1,6] (.seq (aN [aC 10 6,ak 11 (.cmp .lt (.t 10) (bD 0))] [1,6,11] (.cond (.t 11) (aN [ak 4 (.mv (.k (.one bq))),ak 5 (.mv cB)] [4,5] .ret) .skip)) (aN [aC 12 1,aC 13 6,ak 14 (.ia 1 (.t 12) (.t 13)),bP 15 14,aC 4 15,ak 5 (.mv dU)] [4,5] .ret))))⟩
def QA : CF:=⟨2,[(.t 3)],[],[],(aN [ak 2 (.box 9 (.t 0)),ak 3 (.mv cB)] [1,2] (aN [bI 4 0 1,bP 5 4,ak 6 (.OA 144 [(.t 2)]),ak 7 (.call false 143 [(.t 5),(.t 6)]),ak 8 (.no (.t 7)),aC 3 8] [3] .ret))⟩
def QB : CF:=⟨2,[(.t 3)],[],[],(aN [ak 2 (.box 146 (.t 0)),ak 3 (.mv cB)] [1,2] (aN [bI 4 0 2,bI 5 0 4,bP 6 5,bP 7 1,ak 8 (.oG (.one .str) false (.t 6) (.t 7)),aC 3 8] [3] .ret))⟩
def c141 : CF:=⟨2,[(.t 4)],[],[],(aN [ak 4 (.mv (bD 0))] [0,1] (.seq (aN [aC 6 0,ak 7 (.fV (.t 6)),ak 8 (.mv (bD 0))] [0,1,7,8] (.block 0 (.loop [0,1,7,8] [20202] [] (aN [ak 9 (.cmp .lt (.t 8) (.t 7))] [0,1,7,8,9] (.seq (.cond (.t 9) .skip (.exit 0)) (.seq (.block 1 (aN [aC 10 8,aC 5 10] [0,1,5,7,8] (aN [aC 11 1,aC 12 0,aC 13 5,ak 14 (.ia 1 (.t 12) (.t 13)),bP 15 14,ak 16 (.dyn (.t 11) [(.t 15)])] [0,1,5,7,8,16] (.cond (.t 16) (aN [aC 17 5,aC 4 17] [4] .ret) .skip)))) (.reg [ak 18 (.ar .add (.t 8) (bD 1)),aC 8 18] [0,1,7,8]))))))) (aN [ak 4 (.mv (bD (-1)))] [4] .ret)))⟩
def QC : CF:=⟨2,[(.t 4)],[],[],(aN [ak 4 (.mv (bD 0))] [0,1] (.seq (aN [aC 6 0,ak 7 (.fV (.t 6)),ak 8 (.mv (bD 0))] [0,1,7,8] (.block 0 (.loop [0,1,7,8] [20202] [] (aN [ak 9 (.cmp .lt (.t 8) (.t 7))] [0,1,7,8,9] (.seq (.cond (.t 9) .skip (.exit 0)) (.seq (.block 1 (aN [aC 10 8,aC 5 10] [0,1,5,7,8] (aN [aC 11 1,aC 12 0,aC 13 5,ak 14 (.ia 5 (.t 12) (.t 13)),bV 15 5 14,ak 16 (.dyn (.t 11) [(.t 15)])] [0,1,5,7,8,16] (.cond (.t 16) (aN [aC 17 5,aC 4 17] [4] .ret) .skip)))) (.reg [ak 18 (.ar .add (.t 8) (bD 1)),aC 8 18] [0,1,7,8]))))))) (aN [ak 4 (.mv (bD (-1)))] [4] .ret)))⟩
def c143 : CF:=⟨2,[(.t 4)],[],[],(aN [ak 4 (.mv cB)] [0,1] (aN [aC 5 0,aC 6 1,ak 7 (.call false 151 [(.t 5),(.t 6)]),ak 8 (.cmp .ge (.t 7) (bD 0)),aC 4 8] [4] .ret))⟩
def oz : List (FuncId × CF):=[(125,Mw),(142,QA),(144,QB),(141,c141),(151,QC),(143,c143)]
end
section
attribute [local go_sem_proc] Nat.reduceAdd Nat.reduceMul Nat.reduceEqDiff Nat.reduceBEq Nat.reduceMod Nat.reduceDiv reduceCtorEq
attribute [local go_sem_proc ↓] reduceIte
open Go Ev Kc Kd
noncomputable abbrev G3 (F n:Nat):Env:=Gm oz (fun _ _=>none) F n
variable {F n:Nat}
def fix {α:Type} (p:α → Bool) (l:List α):Int:=match l.findIdx? p with | some i=>i | none=>-1
theorem Mx {α:Type} {p:α → Bool} {l:List α} (h:∀ x ∈ l,p x = false):fix p l = -1:=by
 have:l.findIdx? p = none:=ajx.mpr h
 simp [fix,this]
theorem MB {α:Type} {p:α → Bool} {l:List α} {i:Nat} {x:α} (h:∀ x ∈ l.take i,p x = false) (hx:l[i]? = some x) (hk:p x = true):fix p l = i:=by
 have hi:=(aiO.mp hx)
 have:l.findIdx? p = some i:=by
  refine ajj.mpr ⟨hi.1,by rw [hi.2];exact hk,fun j hj=>?_⟩
  have:=h (l[j]'(by have:=hi.1;omega)) (by rw [ajM];exact ⟨j,by have:=hi.1;omega,rfl⟩)
  simp [this]
 simp [fix,this]
theorem MC {α:Type} (p:α → Bool) (l:List α):(fix p l = -1 ∧ ∀ x ∈ l,p x = false) ∨ ∃ (i:Nat) (x:α),fix p l = (i:Int) ∧ l[i]? = some x ∧ p x = true ∧ l.find? p = some x:=by
 cases h:l.findIdx? p with
 | none=>exact .inl ⟨by simp [fix,h],ajx.mp h⟩
 | some i =>
  obtain ⟨hi,hx,hb⟩:=ajj.mp h
  refine .inr ⟨i,l[i],by simp [fix,h],aic hi,hx,?_⟩
  rw [List.find?_eq_some_iff_getElem]
  exact ⟨hx,i,hi,rfl,fun j hj=>by simpa using hb j hj⟩
theorem VP (g:Gl) (x:ByteArray):G3 F (n + 1) 144 [.agg [.f (.str g.q.q),.f (.int .i64 g.q.t),.f (.int .i64 g.q.c),.f (.str g.zone),.f (.int .i64 g.tries)],.one (.fp [.str x])] = some ([vb (decide (g.q.q = x))],[.agg [.f (.str g.q.q),.f (.int .i64 g.q.t),.f (.int .i64 g.q.c),.f (.str g.zone),.f (.int .i64 g.tries)],.one (.fp [.str x])]):=by
 refine cK (cf:=QB) rfl ?_
 dsimp only [QB,ak,bU,aR,bD,aD,bq,dB,dU,cB,aC,bP,bV,bI,aN];simp only [go_sem]
 done
abbrev fn2 (x:ByteArray):AV:=.one (.fn 144 [[.str x]])
theorem VQ (l:List Gl) (x:ByteArray) (hl:l.length ≤ 1000000) (hF:200000000000001 ≤ F):G3 F (n + 2) 151 [vl (l.map rG),fn2 x] = some ([vi (fix (fun g:Gl=>decide (g.q.q = x)) l)],[vl (l.map rG),fn2 x]):=by
 refine cK (cf:=QC) rfl ?_
 dsimp only [QC,ak,bU,aR,bD,aD,bq,dB,dU,cB,aC,bP,bV,bI,aN];simp only [go_sem]
 refine jH l.length (fun i=>⟨[(0,PV.c (CV.one (PL.f (FV.sl (l.map rG))))),(1,PV.c (CV.one (PL.fn 144 [[.str x]]))),(7,PV.c (CV.one (PL.f (FV.int .i64 (l.map rG).length)))),(8,PV.c (CV.one (PL.f (FV.int .i64 i))))],[]⟩) (fun i=>∀ y ∈ l.take i,decide (y.q.q = x) = false) (by omega) rfl (by simp) (fun i hi hP=>?_) (fun hP=>?_)
 ·obtain ⟨y,hx,hd,ht,h0⟩:=at_ hi
  have hn:=nx hi (aij hl (by decide))
  have hq:=VP (F:=F) (n:=n) y x
  by_cases h:decide (y.q.q = x) = true
  ·rw [h] at hq
   simp only [ahZ,ah3,hd,hx,ht,h0,rG,hq,go_sem]
   rw [MB hP hx h]
  ·have h':=aiX.mpr h
   rw [h'] at hq
   simp only [ahZ,ah3,hd,hx,ht,h0,hn,rG,hq,go_sem]
   intro z hz
   rw [aiL,hx] at hz
   rcases air.mp hz with hz | hz
   ·exact hP z hz
   ·simp at hz;subst hz;exact h'
 ·have hd:=@end_ _ l
  rw [aiC] at hP
  simp only [ahZ,hd,Mx hP,go_sem]
theorem VR (l:List Gl) (x:ByteArray) (hl:l.length ≤ 1000000) (hF:200000000000001 ≤ F):G3 F (n + 3) 143 [vl (l.map rG),fn2 x] = some ([vb (!l.all fun g=>decide (g.q.q ≠ x))],[vl (l.map rG),fn2 x]):=by
 refine cK (cf:=c143) rfl ?_
 have h1:=VQ (F:=F) (n:=n) l x hl hF
 rcases MC (fun g:Gl=>decide (g.q.q = x)) l with ⟨e,h⟩ | ⟨i,y,e,hy,hp, -⟩
 ·rw [e] at h1
  have h2:(l.all fun g=>decide (g.q.q ≠ x)) = true:=aib.mpr fun g hg=>by have:=h g hg;simpa using this
  rw [h2]
  dsimp only [c143,ak,bU,aR,bD,aD,bq,dB,dU,cB,aC,bP,bV,bI,aN];simp only [h1,go_sem]
  try rfl
 ·rw [e] at h1
  have h2:(l.all fun g=>decide (g.q.q ≠ x)) = false:=List.all_eq_false.mpr ⟨y,ai2 hy,by simpa using hp⟩
  have h3:decide ((0:Int) ≤ (i:Int)) = true:=ah0 (by omega)
  rw [h2]
  dsimp only [c143,ak,bU,aR,bD,aD,bq,dB,dU,cB,aC,bP,bV,bI,aN];simp only [h1,h3,go_sem]
  try rfl
theorem VT (l:List Gl) (k:Int) (x:ByteArray) (hl:l.length ≤ 1000000) (hF:200000000000001 ≤ F):G3 F (n + 4) 142 [vs x,.one (.fp [.sl (l.map rG),.int .i64 k])] = some ([vb (l.all fun g=>decide (g.q.q ≠ x))],[vs x,.one (.fp [.sl (l.map rG),.int .i64 k])]):=by
 refine cK (cf:=QA) rfl ?_
 have h1:=VR (F:=F) (n:=n) l x hl hF
 dsimp only [QA,ak,bU,aR,bD,aD,bq,dB,dU,cB,aC,bP,bV,bI,aN];simp only [h1,Bool.not_not,go_sem]
 done
abbrev fn1 (l:List Gl) (k:Int):AV:=.one (.fn 142 [[.sl (l.map rG),.int .i64 k]])
theorem VU (l:List Gl) (k:Int) (ns:List ByteArray) (hl:l.length ≤ 1000000) (hn:ns.length ≤ 100000000) (hF:200000000000001 ≤ F):G3 F (n + 5) 141 [vl (ns.map aY),fn1 l k] = some ([vi (fix (fun x=>l.all fun g=>decide (g.q.q ≠ x)) ns)],[vl (ns.map aY),fn1 l k]):=by
 refine cK (cf:=c141) rfl ?_
 dsimp only [c141,ak,bU,aR,bD,aD,bq,dB,dU,cB,aC,bP,bV,bI,aN];simp only [go_sem]
 refine jH ns.length (fun i=>⟨[(0,PV.c (CV.one (PL.f (FV.sl (ns.map aY))))),(1,PV.c (CV.one (PL.fn 142 [[.sl (l.map rG),.int .i64 k]]))),(7,PV.c (CV.one (PL.f (FV.int .i64 (ns.map aY).length)))),(8,PV.c (CV.one (PL.f (FV.int .i64 i))))],[]⟩) (fun i=>∀ y ∈ ns.take i,(l.all fun g=>decide (g.q.q ≠ y)) = false) (by omega) rfl (by simp) (fun i hi hP=>?_) (fun hP=>?_)
 ·obtain ⟨y,hx,hd,ht,h0⟩:=at_ hi
  have hn:=nx hi (aij hn (by decide))
  have hq:=VT (F:=F) (n:=n) l k y hl hF
  by_cases h:(l.all fun g=>decide (g.q.q ≠ y)) = true
  ·rw [h] at hq
   simp only [ahZ,ah3,hd,hx,ht,h0,aY,hq,go_sem]
   rw [MB hP hx h]
  ·have h':=aiX.mpr h
   rw [h'] at hq
   simp only [ahZ,ah3,hd,hx,ht,h0,hn,aY,hq,go_sem]
   intro z hz
   rw [aiL,hx] at hz
   rcases air.mp hz with hz | hz
   ·exact hP z hz
   ·simp at hz;subst hz;exact h'
 ·have hd:=@end_ _ ns
  rw [aiC] at hP
  simp only [ahZ,hd,Mx hP,go_sem]
theorem Ed (l:List Gl) (k:Int) (ns:List ByteArray) (hl:l.length ≤ 1000000) (hn:ns.length ≤ 100000000) (hF:200000000000001 ≤ F):G3 F (n + 6) 125 [.agg [.f (.sl (l.map rG)),.f (.int .i64 k)],vl (ns.map aY)] = some ([vs (qC l ns).1,vb (qC l ns).2],[.agg [.f (.sl (l.map rG)),.f (.int .i64 k)],vl (ns.map aY)]):=by
 refine cK (cf:=Mw) rfl ?_
 have h1:=VU (F:=F) (n:=n) l k ns hl hn hF
 rcases MC (fun x=>l.all fun g=>decide (g.q.q ≠ x)) ns with ⟨e,h⟩ | ⟨i,y,e,hy,hp,hf⟩
 ·rw [e] at h1
  have h2:Ox l ns = none:=List.find?_eq_none.mpr fun x hx=>by rw [h x hx];decide
  unfold qC
  rw [h2]
  dsimp only [Mw,ak,bU,aR,bD,aD,bq,dB,dU,cB,aC,bP,bV,bI,aN];simp only [h1,show decide ((-1:Int) < 0) = true from rfl,go_sem]
  try rfl
 ·rw [e] at h1
  have h2:Ox l ns = some y:=hf
  have h3:decide ((i:Int) < 0) = false:=ah2 (by omega)
  unfold qC
  rw [h2]
  dsimp only [Mw,ak,bU,aR,bD,aD,bq,dB,dU,cB,aC,bP,bV,bI,aN];simp only [h1,h3,Int.toNat_natCast,ah3,hy,aY,go_sem]
  try omega
end
section
open Go Go.Proofs Ev Kc
theorem e125 : iX Tryz.prog 125 Mw:=⟨Tryz.f125,_,⟨[3,9,24],[],[],[125,134]⟩,[⟨[1,2],[],[]⟩,⟨[1,6],[],[]⟩,⟨[1,6,11],[],[]⟩,⟨[4,5],[],[]⟩,⟨[4,5],[],[]⟩],[],by kernel_rfl,by kernel_rfl,rfl,eqs,by kernel_rfl,by kernel_rfl,by decide⟩
theorem ae6 : iX Tryz.prog 142 QA:=⟨Tryz.f142,_,⟨[3,9,24],[],[],[125,134]⟩,[⟨[1,2],[],[]⟩,⟨[3],[],[]⟩],[],by kernel_rfl,by kernel_rfl,rfl,eqs,by kernel_rfl,by kernel_rfl,by decide⟩
theorem ae7 : iX Tryz.prog 144 QB:=⟨Tryz.f144,_,⟨[3,9,24],[],[],[125,134]⟩,[⟨[1,2],[],[]⟩,⟨[3],[],[]⟩],[],by kernel_rfl,by kernel_rfl,rfl,eqs,by kernel_rfl,by kernel_rfl,by decide⟩
theorem ae8 : iX Tryz.prog 141 c141:=⟨Tryz.f141,_,⟨[3,9,24],[],[],[125,134]⟩,[⟨[0,1],[],[]⟩,⟨[0,1,7,8],[],[]⟩,⟨[0,1,7,8],[20202],[]⟩,⟨[0,1,7,8,9],[],[]⟩,⟨[0,1,5,7,8],[],[]⟩,⟨[0,1,5,7,8,16],[],[]⟩,⟨[4],[],[]⟩,⟨[0,1,7,8],[],[]⟩,⟨[4],[],[]⟩],[],by kernel_rfl,by kernel_rfl,rfl,eqs,by kernel_rfl,by kernel_rfl,by decide⟩
theorem ae9 : iX Tryz.prog 151 QC:=⟨Tryz.f151,_,⟨[3,9,24],[],[],[125,134]⟩,[⟨[0,1],[],[]⟩,⟨[0,1,7,8],[],[]⟩,⟨[0,1,7,8],[20202],[]⟩,⟨[0,1,7,8,9],[],[]⟩,⟨[0,1,5,7,8],[],[]⟩,⟨[0,1,5,7,8,16],[],[]⟩,⟨[4],[],[]⟩,⟨[0,1,7,8],[],[]⟩,⟨[4],[],[]⟩],[],by kernel_rfl,by kernel_rfl,rfl,eqs,by kernel_rfl,by kernel_rfl,by decide⟩
theorem e143 : iX Tryz.prog 143 c143:=⟨Tryz.f143,_,⟨[3,9,24],[],[],[125,134]⟩,[⟨[0,1],[],[]⟩,⟨[4],[],[]⟩],[],by kernel_rfl,by kernel_rfl,rfl,eqs,by kernel_rfl,by kernel_rfl,by decide⟩
theorem ents : ∀ p ∈ oz,iX Tryz.prog p.1 p.2:=ah4.2 ⟨e125,ah4.2 ⟨ae6,ah4.2 ⟨ae7,ah4.2 ⟨ae8,ah4.2 ⟨ae9,ah4.2 ⟨e143,fun _ h=>nomatch h⟩⟩⟩⟩⟩⟩
end
end Go.Proofs.YtfokaoeinpnagaaGreat.Kf
namespace Go.Proofs.YtfokaoeinpnagaaGreat.Kd
section
attribute [local go_sem_proc] Nat.reduceAdd Nat.reduceMul Nat.reduceEqDiff Nat.reduceBEq Nat.reduceMod Nat.reduceDiv reduceCtorEq
attribute [local go_sem_proc ↓] reduceIte
open Go Go.RowKit Go.Proofs Ev Kc
def VW : CF:=⟨1,[(.t 2)],[some 5],[],(.seq (.reg [⟨(some 2),none,(.mv (.k (.one .bK)))⟩] [0]) (.seq (.seq (.reg [⟨(some 3),none,(.mv (.t 0))⟩,⟨(some 4),none,(.yY false (.t 3))⟩] [0,4]) (.cond (.t 4) (.seq (.reg [⟨(some 2),none,(.mv (.k (.one .bK)))⟩] [2]) .ret) .skip)) (.seq (.reg [⟨(some 5),none,(.wh 146 5 0 [] [])⟩,⟨(some 6),none,(.mv (.t 0))⟩,⟨(some 7),none,(.app 146 5 56 (.t 5) (.t 6))⟩,⟨(some 2),none,(.mv (.t 7))⟩] [2]) .ret)))⟩
theorem QF : iX Tryz.prog 65 VW:=⟨Tryz.f65,_,⟨[3,9,24],[],[],[125,134]⟩,[⟨[0],[],[]⟩,⟨[0,4],[],[]⟩,⟨[2],[],[]⟩,⟨[2],[],[]⟩],[],by kernel_rfl,by kernel_rfl,rfl,eqs,by kernel_rfl,by kernel_rfl,by decide⟩
theorem QG (r:List FV) (l:List (List FV)) (h:l.length < 1000000) (hl:(r :: l).all (fun r=>r.length == 5) = true):IU (fun _ _=>none) 10 VW [vl (r :: l)] = some ([.one (.own 5 (r :: l))],[vl (r :: l)]):=by
 refine I8 ?_
 rw [List.all_cons,ah5] at hl
 simp only [VW,hl.1,hl.2,List.all_cons,go_sem]
 omega
theorem MG (c:Nat) (w:World):Calls Tryz.prog 65 #[.slice none 0 c] w fun e w'=>e = .returned (.slice none 0 0) ∧ w' = w:=by
 have heq:=pY (t:=70) (e:=146) (by kernel_rfl) none c
 go_enter Tryz.func65,Tryz.ntmps65
 go_wp2
 go_ret
 exact ⟨rfl,rfl⟩
theorem MH (a:Addr) (c:Nat) (w:World):Calls Tryz.prog 65 #[.slice (some a) 0 c] w fun e w'=>e = .returned (.slice (some ⟨w.heap.size,0,none⟩) 0 0) ∧ w' = w.alloc (.cells #[] 146):=by
 have heq:=pY (t:=70) (e:=146) (by kernel_rfl) (some a) c
 obtain ⟨i,hi⟩:=ajl.mp (show (Tryz.prog.info? 146).isSome = true by kernel_rfl)
 have hap:=fun b w=>xI (t:=70) (ty:=70) (e:=146) (by kernel_rfl) hi a b c w
 go_enter Tryz.func65,Tryz.ntmps65
 go_wp2
 go_ret
 exact ⟨rfl,rfl⟩
theorem QH : Sat Tryz.prog 65 (LH 5 true):=BQ (by decide) QF QG MG MH
abbrev AGq := List AV → Option (List AV × List AV)
open Classical in
noncomputable def gLd (g:AGq):AGq:=fun dV=>match dV with
 | [.agg [.own _ rows,.f (.int .i64 k)],.one (.f (.sl ns))]=>match g [.agg [.f (.sl rows),.f (.int .i64 k)],.one (.f (.sl ns))] with
  | some ([.one (.f (.str a)),.one (.f (.bool b))],z)=>if z = [.agg [.f (.sl rows),.f (.int .i64 k)],.one (.f (.sl ns))] then some ([.one (.f (.str a)),.one (.f (.bool b))],dV) else none
  | _=>none
 | _=>none
theorem QI {f:FuncId} {g:AGq} (h:Sat Tryz.prog f g):Sat Tryz.prog f (gLd g):=by
 refine Sat.lend h fun dV r he=>?_
 unfold gLd at he
 split at he
 ·rename_i sz rows k ns
  split at he
  ·rename_i a b z hz
   split at he
   ·rename_i hzz
    subst hzz
    cases he
    exact ⟨by simp [H6,Ee],rfl,[.str a,.bool b],rfl,hz⟩
   ·cases he
  ·cases he
 ·cases he
noncomputable def frG : AGq:=gLd (fun dV=>Gm Kf.oz (fun _ _=>none) 200000000000001 6 125 dV)
theorem QJ : Sat Tryz.prog 125 frG :=
 QI ((zY (oz:=Kf.oz) (F:=200000000000001) mixed Kf.ents Hg zZ 6).1 125)
theorem VX (l:List Gl) (k:Int) (ns:List ByteArray) (hl:l.length ≤ 1000000) (hn:ns.length ≤ 100000000):frG [.agg [.own 5 (l.map rG),.f (.int .i64 k)],vl (ns.map aY)] = some ([vs (qC l ns).1,vb (qC l ns).2],[.agg [.own 5 (l.map rG),.f (.int .i64 k)],vl (ns.map aY)]):=by
 have h0:=Kf.Ed (n:=0) l k ns hl hn (ah1 200000000000001)
 rw [show 0 + 6 = 6 from rfl] at h0
 have h:Gm Kf.oz (fun _ _=>none) 200000000000001 6 125 [.agg [.f (.sl (l.map rG)),.f (.int .i64 k)],.one (.f (.sl (ns.map aY)))] = some ([vs (qC l ns).1,vb (qC l ns).2],[.agg [.f (.sl (l.map rG)),.f (.int .i64 k)],vl (ns.map aY)]):=h0
 unfold frG gLd
 simp only
 rw [h]
 simp only [aiu]
end
section
open Go Go.Proofs Ev Kc
theorem e25 : iX Tryz.prog 25 Mt:=⟨Tryz.f25,_,⟨[3,9,24],[],[],[12,125,134]⟩,[⟨[1,2],[],[]⟩,⟨[1,2,3,4],[],[]⟩,⟨[2],[],[]⟩],[],by kernel_rfl,by kernel_rfl,rfl,eqs,by kernel_rfl,by kernel_rfl,by decide⟩
theorem e34 : iX Tryz.prog 34 c34:=⟨Tryz.f34,_,⟨[3,9,24],[],[],[125,134]⟩,[⟨[1,2],[],[]⟩,⟨[1,2],[],[]⟩,⟨[2],[],[]⟩],[],by kernel_rfl,by kernel_rfl,rfl,eqs,by kernel_rfl,by kernel_rfl,by decide⟩
theorem e26 : iX Tryz.prog 26 c26:=⟨Tryz.f26,_,⟨[3,9,24],[],[],[125,134]⟩,[⟨[2,3,4,5],[],[]⟩,⟨[2,3,4,5],[],[]⟩,⟨[2,3,4,5],[20201,20205,20208,20401,20405,20408,20802,40202,60000,80000,100000,120000,220200,300400,301600,310002,310004,310006,310008,310010,310012,310014,310016,310202,310204,310206,310208,310210,310212,310214,310216,310402,310404,310406,310408,310410,310412,310414,310416,310602,310604,310606,310608,310610,310612,310614,310616,310802,310804,310806,310808,310810,310812,310814,310816,311002,311004,311006,311008,311010,311012,311014,311016],[]⟩,⟨[2,3,4,5,6,7],[],[]⟩,⟨[2,3,4,5,6,17],[],[]⟩,⟨[4,5],[],[]⟩],[],by kernel_rfl,by kernel_rfl,rfl,eqs,by kernel_rfl,by kernel_rfl,by decide⟩
theorem e66 : iX Tryz.prog 66 Kg:=⟨Tryz.f66,_,⟨[3,9,24],[70],[],[125,134]⟩,[⟨[1,2,4],[],[]⟩,⟨[1,2,4,6],[],[]⟩,⟨[1,2,4,6,14],[],[]⟩,⟨[4,5],[],[]⟩,⟨[1,2,4,6,7],[0,20201,20205,20208,20401,20405,20408,20802,40201,40204,60000,100000,160000,640200,641400,650002,650004,650006,650008,650010,650012,650014,650016,650202,650204,650206,650208,650210,650212,650214,650216,650402,650404,650406,650408,650410,650412,650414,650416,650602,650604,650606,650608,650610,650612,650614,650616,650802,650804,650806,650808,650810,650812,650814,650816,651002,651004,651006,651008,651010,651012,651014,651016,651202,651204,651206,651208,651210,651212,651214,651216,651402,651404,651406,651408,651410,651412,651414,651416,651602,651604,651606,651608,651610,651612,651614,651616,651802,651804,651806,651808,651810,651812,651814,651816,652002,652004,652006,652008,652010,652012,652014,652016,652202,652204,652206,652208,652210,652212,652214,652216,652402,652404,652406,652408,652410,652412,652414,652416,652602,652604,652606,652608,652610,652612,652614,652616,652802,652804,652806,652808,652810,652812,652814,652816,653002,653004,653006,653008,653010,653012,653014,653016,820400,821600,830002,830004,830006,830008,830010,830012,830014,830016,830202,830204,830206,830208,830210,830212,830214,830216,830402,830404,830406,830408,830410,830412,830414,830416,830602,830604,830606,830608,830610,830612,830614,830616,830802,830804,830806,830808,830810,830812,830814,830816,831002,831004,831006,831008,831010,831012,831014,831016],[]⟩,⟨[1,2,4,6,7,32],[],[]⟩,⟨[4,5],[],[]⟩,⟨[1,4,6,7,43],[],[]⟩,⟨[4,5],[],[]⟩,⟨[1,4,6,53],[],[]⟩,⟨[4],[],[]⟩,⟨[4,5],[],[]⟩,⟨[4,5],[],[]⟩],[],by kernel_rfl,by kernel_rfl,rfl,eqs,by kernel_rfl,by kernel_rfl,by decide⟩
theorem e108 : iX Tryz.prog 108 q8:=⟨Tryz.f108,_,⟨[3,9,24],[],[],[125,134]⟩,[⟨[1,2,3,6],[],[]⟩,⟨[1,2,3,6,8],[],[]⟩,⟨[1,2,3,6,8,9,10,11],[],[]⟩,⟨[1,2,3,6,8,9,10,11,38],[],[]⟩,⟨[1,2,3,6,8,9,10,11],[],[]⟩,⟨[1,2,3,6,8,9,10,11,48],[],[]⟩,⟨[1,6,12,13],[],[]⟩,⟨[1,6,12,66],[],[]⟩,⟨[6,7],[],[]⟩,⟨[6],[],[]⟩,⟨[6,7],[],[]⟩,⟨[1,2,6,8,9,10,104],[],[]⟩,⟨[6,7],[],[]⟩,⟨[1,6,8,14],[],[]⟩,⟨[1,6,14],[],[]⟩,⟨[6,14],[],[]⟩,⟨[6,7],[],[]⟩],[],by kernel_rfl,by kernel_rfl,rfl,eqs,by kernel_rfl,by kernel_rfl,by decide⟩
theorem e36 : iX Tryz.prog 36 c36:=⟨Tryz.f36,_,⟨[3,9,24],[],[],[125,134]⟩,[⟨[1,2],[],[]⟩,⟨[2,7],[],[]⟩,⟨[2,7,16],[],[]⟩,⟨[4,5,6],[],[]⟩,⟨[2,7,8],[],[]⟩,⟨[2,7,8],[20201,20205,20208,20401,20405,20408,20802,60000,450002,450004,450006,450008,450010,450012,450014,450016,450202,450204,450206,450208,450210,450212,450214,450216,450402,450404,450406,450408,450410,450412,450414,450416,450602,450604,450606,450608,450610,450612,450614,450616,450802,450804,450806,450808,450810,450812,450814,450816,451002,451004,451006,451008,451010,451012,451014,451016,590002,590004,590006,590008,590010,590012,590014,590016,590202,590204,590206,590208,590210,590212,590214,590216,590402,590404,590406,590408,590410,590412,590414,590416,590602,590604,590606,590608,590610,590612,590614,590616,590802,590804,590806,590808,590810,590812,590814,590816,591002,591004,591006,591008,591010,591012,591014,591016,890002,890004,890006,890008,890010,890012,890014,890016,890202,890204,890206,890208,890210,890212,890214,890216,890402,890404,890406,890408,890410,890412,890414,890416,890602,890604,890606,890608,890610,890612,890614,890616,890802,890804,890806,890808,890810,890812,890814,890816,891002,891004,891006,891008,891010,891012,891014,891016],[]⟩,⟨[2,7,17],[],[]⟩,⟨[2,7,9,10],[],[]⟩,⟨[2,7,9,24],[],[]⟩,⟨[7,11,12],[],[]⟩,⟨[4,5,6],[],[]⟩,⟨[2,7,8],[],[]⟩,⟨[2,7,8,40],[],[]⟩,⟨[4,5,6],[],[]⟩],[],by kernel_rfl,by kernel_rfl,rfl,eqs,by kernel_rfl,by kernel_rfl,by decide⟩
theorem e69 : iX Tryz.prog 69 c69:=⟨Tryz.f69,_,⟨[3,9,24],[],[],[125,134]⟩,[⟨[1,2,3],[],[]⟩,⟨[8,9],[],[]⟩,⟨[6,7],[],[]⟩],[],by kernel_rfl,by kernel_rfl,rfl,eqs,by kernel_rfl,by kernel_rfl,by decide⟩
theorem e70 : iX Tryz.prog 70 c70:=⟨Tryz.f70,_,⟨[3,9,24],[],[],[125,134]⟩,[⟨[1,2],[],[]⟩,⟨[1,2,6,7],[],[]⟩,⟨[2,6,7,14,15,16],[],[]⟩,⟨[2,6,7,14,15,16],[20201,20205,20208,20401,20405,20408,20802,40202,60000,140000,160000,630002,630004,630006,630008,630010,630012,630014,630016,630202,630204,630206,630208,630210,630212,630214,630216,630402,630404,630406,630408,630410,630412,630414,630416,630602,630604,630606,630608,630610,630612,630614,630616,630802,630804,630806,630808,630810,630812,630814,630816,631002,631004,631006,631008,631010,631012,631014,631016],[(6,1),(7,1)]⟩,⟨[2,6,7,14,15,16,17],[],[]⟩,⟨[2,6,7,9,14,15,16],[],[]⟩,⟨[2,6,7,14,15,16,21,22,23],[],[]⟩,⟨[2,6,7,14,15,16,21,22,23],[20201,20205,20208,20401,20405,20408,20802,40202,60000,140000,160000,440200,630002,630004,630006,630008,630010,630012,630014,630016,630202,630204,630206,630208,630210,630212,630214,630216,630402,630404,630406,630408,630410,630412,630414,630416,630602,630604,630606,630608,630610,630612,630614,630616,630802,630804,630806,630808,630810,630812,630814,630816,631002,631004,631006,631008,631010,631012,631014,631016],[(6,1),(7,1)]⟩,⟨[2,6,7,14,15,16,21,22,23,24],[],[]⟩,⟨[2,6,7,11,14,15,16,21,22,23],[],[]⟩,⟨[2,6,7,11,12,13,14,15,16,21,22,23],[],[]⟩,⟨[2,6,7,11,12,14,15,16,21,22,23,33],[],[]⟩,⟨[2,6,7,14,15,16,21,22,23],[],[]⟩,⟨[2,6,7,14,15,16,21,22,23],[],[]⟩,⟨[2,6,7,14,15,16,21,22,23],[],[]⟩,⟨[2,6,7,14,15,16],[],[]⟩,⟨[4,5],[],[]⟩],[],by kernel_rfl,by kernel_rfl,rfl,eqs,by kernel_rfl,by kernel_rfl,by decide⟩
def vR : List Hi:=[⟨[],[],[]⟩,⟨[1],[],[]⟩,⟨[2],[],[]⟩,⟨[2,3,4],[60000,80000,100000,340200,460200,462400,463600],[]⟩,⟨[2,3,4,6],[60000,80000,100000,140000,340200,460200,462400,463600,620200,622400,623600],[]⟩,⟨[2,3,4,6,7],[],[]⟩,⟨[2,3,4,6,7,8,9],[60000,80000,100000,140000,160000,180000,200000,340200,460200,462400,463600,620200,622400,623600,720000,740000,860200,862400,863600,1020000,1300000],[]⟩,⟨[2,3,4,6,7,8,9],[],[]⟩,⟨[2,3,4,6,7,8,9,11],[60000,80000,100000,140000,160000,180000,200000,240000,340200,460200,462400,463600,620200,622400,623600,720000,740000,860200,862400,863600,1020000,1140200,1142400,1143600,1300000],[]⟩,⟨[2,3,4,6,7,8,9,11],[],[]⟩,⟨[2,3,4,6,8,9,11,13],[60000,80000,100000,140000,180000,200000,240000,280000,340200,460200,462400,463600,620200,622400,623600,860200,862400,863600,1140200,1142400,1143600,1420200,1422400,1423600],[]⟩,⟨[2,3,4,6,8,9,11,13,88],[],[]⟩,⟨[0],[],[]⟩,⟨[0],[],[]⟩]
theorem aal : comp Tryz.prog ⟨[3,9,24],[],[18,26,36],[25,125,134]⟩ (Bb Tryz.f24.ntmps) (nA 0 (jI Tryz.f24)) (vR.drop 0) = some (uK 0 c24.body,vR.drop 1):=by kernel_rfl
theorem aam : comp Tryz.prog ⟨[3,9,24],[],[18,26,36],[25,125,134]⟩ (Bb Tryz.f24.ntmps) (nA 1 (jI Tryz.f24)) (vR.drop 1) = some (uK 1 c24.body,vR.drop 2):=by kernel_rfl
theorem aan : comp Tryz.prog ⟨[3,9,24],[],[18,26,36],[25,125,134]⟩ (Bb Tryz.f24.ntmps) (nA 2 (jI Tryz.f24)) (vR.drop 2) = some (uK 2 c24.body,vR.drop 3):=by kernel_rfl
theorem aao : comp Tryz.prog ⟨[3,9,24],[],[18,26,36],[25,125,134]⟩ (Bb Tryz.f24.ntmps) (nA 3 (jI Tryz.f24)) (vR.drop 3) = some (uK 3 c24.body,vR.drop 4):=by kernel_rfl
theorem aap : comp Tryz.prog ⟨[3,9,24],[],[18,26,36],[25,125,134]⟩ (Bb Tryz.f24.ntmps) (nA 4 (jI Tryz.f24)) (vR.drop 4) = some (uK 4 c24.body,vR.drop 5):=by kernel_rfl
theorem aaq : comp Tryz.prog ⟨[3,9,24],[],[18,26,36],[25,125,134]⟩ (Bb Tryz.f24.ntmps) (nA 5 (jI Tryz.f24)) (vR.drop 5) = some (uK 5 c24.body,vR.drop 6):=by kernel_rfl
theorem aar : comp Tryz.prog ⟨[3,9,24],[],[18,26,36],[25,125,134]⟩ (Bb Tryz.f24.ntmps) (nA 6 (jI Tryz.f24)) (vR.drop 6) = some (uK 6 c24.body,vR.drop 7):=by kernel_rfl
theorem aas : comp Tryz.prog ⟨[3,9,24],[],[18,26,36],[25,125,134]⟩ (Bb Tryz.f24.ntmps) (nA 7 (jI Tryz.f24)) (vR.drop 7) = some (uK 7 c24.body,vR.drop 8):=by kernel_rfl
theorem aat : comp Tryz.prog ⟨[3,9,24],[],[18,26,36],[25,125,134]⟩ (Bb Tryz.f24.ntmps) (nA 8 (jI Tryz.f24)) (vR.drop 8) = some (uK 8 c24.body,vR.drop 9):=by kernel_rfl
theorem aau : comp Tryz.prog ⟨[3,9,24],[],[18,26,36],[25,125,134]⟩ (Bb Tryz.f24.ntmps) (nA 9 (jI Tryz.f24)) (vR.drop 9) = some (uK 9 c24.body,vR.drop 10):=by kernel_rfl
theorem VY : comp Tryz.prog ⟨[3,9,24],[],[18,26,36],[25,125,134]⟩ (Bb Tryz.f24.ntmps) (nA 10 (jI Tryz.f24)) (vR.drop 10) = some (uK 10 c24.body,vR.drop 11):=by kernel_rfl
theorem aav : comp Tryz.prog ⟨[3,9,24],[],[18,26,36],[25,125,134]⟩ (Bb Tryz.f24.ntmps) (tlS 11 (jI Tryz.f24)) (vR.drop 11) = some (tlC 11 c24.body,[]):=by kernel_rfl
theorem aaw : BX 11 (jI Tryz.f24) c24.body = true:=by kernel_rfl
theorem aax : Tryz.f24.body = some (jI Tryz.f24):=by kernel_rfl
theorem e24 : iX Tryz.prog 24 c24:=⟨Tryz.f24,jI Tryz.f24,⟨[3,9,24],[],[18,26,36],[25,125,134]⟩,vR,[],by kernel_rfl,by kernel_rfl,aax,eqs,xS vR 11 0 _ _ _ aaw (fun i hi=>by
 rw [aip]
 match i,hi with
 | 0,_=>exact aal
 | 1,_=>exact aam
 | 2,_=>exact aan
 | 3,_=>exact aao
 | 4,_=>exact aap
 | 5,_=>exact aaq
 | 6,_=>exact aar
 | 7,_=>exact aas
 | 8,_=>exact aat
 | 9,_=>exact aau
 | 10,_=>exact VY
 | k + 11,h=>exact absurd h (by omega)) (by rw [aip];exact aav),by kernel_rfl,by decide⟩
theorem e64 : iX Tryz.prog 64 c64:=⟨Tryz.f64,_,⟨[3,9,24],[],[],[125,134]⟩,[⟨[0,1,2,6],[],[]⟩,⟨[6],[],[]⟩],[],by kernel_rfl,by kernel_rfl,rfl,eqs,by kernel_rfl,by kernel_rfl,by decide⟩
theorem e9 : iX Tryz.prog 9 c9:=⟨Tryz.f9,_,⟨[3,9,24],[],[],[125,134]⟩,[⟨[2,3],[],[]⟩,⟨[2,3,20],[],[]⟩,⟨[4],[],[]⟩,⟨[3,5],[],[]⟩,⟨[5,6],[],[]⟩,⟨[5,6,7],[],[]⟩,⟨[5,6,7],[120000,140000,480200,480204,480206,480400,480404,480406,480800,520200,680200,682400,683600],[]⟩,⟨[5,6,7,27],[],[]⟩,⟨[5,6,7,8,9],[],[]⟩,⟨[5,6,7,9],[],[]⟩,⟨[5,6,7,9,39],[],[]⟩,⟨[6,9,10,11],[],[]⟩,⟨[4],[],[]⟩,⟨[5,6,7],[],[]⟩,⟨[4],[],[]⟩],[],by kernel_rfl,by kernel_rfl,rfl,eqs,by kernel_rfl,by kernel_rfl,by decide⟩
theorem e23 : iX Tryz.prog 23 c23:=⟨Tryz.f23,_,⟨[3,9,24],[],[],[125,134]⟩,[⟨[1],[],[]⟩,⟨[2],[],[]⟩],[],by kernel_rfl,by kernel_rfl,rfl,eqs,by kernel_rfl,by kernel_rfl,by decide⟩
theorem e31 : iX Tryz.prog 31 c31:=⟨Tryz.f31,_,⟨[3,9,24],[],[],[125,134]⟩,[⟨[1,2],[],[]⟩,⟨[1,2,3],[],[]⟩,⟨[1,2,3,4],[],[]⟩,⟨[1,2,3,4],[20202,40000,60000,80000,480000],[]⟩,⟨[1,2,3,4,12],[],[]⟩,⟨[1,2,3,4],[],[]⟩,⟨[1,2,3,4],[],[]⟩,⟨[2],[],[]⟩],[],by kernel_rfl,by kernel_rfl,rfl,eqs,by kernel_rfl,by kernel_rfl,by decide⟩
theorem e33 : iX Tryz.prog 33 c33:=⟨Tryz.f33,_,⟨[3,9,24],[],[],[125,134]⟩,[⟨[1,2],[],[]⟩,⟨[2],[],[]⟩],[],by kernel_rfl,by kernel_rfl,rfl,eqs,by kernel_rfl,by kernel_rfl,by decide⟩
theorem e30 : iX Tryz.prog 30 c30:=⟨Tryz.f30,_,⟨[3,9,24],[],[],[125,134]⟩,[⟨[2,3],[],[]⟩,⟨[2,3,19],[],[]⟩,⟨[4],[],[]⟩,⟨[2,3,5],[],[]⟩,⟨[2,3,5],[20202,40202,60000,80000],[]⟩,⟨[2,3,5,24],[],[]⟩,⟨[2,3,5,37],[],[]⟩,⟨[4],[],[]⟩,⟨[2,3,5],[],[]⟩,⟨[4],[],[]⟩],[],by kernel_rfl,by kernel_rfl,rfl,eqs,by kernel_rfl,by kernel_rfl,by decide⟩
theorem e32 : iX Tryz.prog 32 c32:=⟨Tryz.f32,_,⟨[3,9,24],[],[],[125,134]⟩,[⟨[2,3],[],[]⟩,⟨[4],[],[]⟩],[],by kernel_rfl,by kernel_rfl,rfl,eqs,by kernel_rfl,by kernel_rfl,by decide⟩
theorem ents : ∀ p ∈ oz,iX Tryz.prog p.1 p.2:=ah4.2 ⟨e25,ah4.2 ⟨e34,ah4.2 ⟨e26,ah4.2 ⟨e66,ah4.2 ⟨e108,ah4.2 ⟨e36,ah4.2 ⟨e69,ah4.2 ⟨e70,ah4.2 ⟨e24,ah4.2 ⟨e64,ah4.2 ⟨e9,ah4.2 ⟨e23,ah4.2 ⟨e31,ah4.2 ⟨e33,ah4.2 ⟨e30,ah4.2 ⟨e32,fun _ h=>nomatch h⟩⟩⟩⟩⟩⟩⟩⟩⟩⟩⟩⟩⟩⟩⟩⟩
end
end Go.Proofs.YtfokaoeinpnagaaGreat.Kd

/- A part of the proof of ChainFollows: cut, joined and given short names by a program of this session (wip/tools/pack.py); Lean checks it. No condition. -/
import Derived.Test.YtfokaoeinpnagaaGreatPCFwsk
import Derived.Test.YtfokaoeinpnagaaGreatPCFwsf
import Derived.Test.YtfokaoeinpnagaaGreatPCFwsd
set_option linter.unusedSectionVars false
set_option linter.unusedSimpArgs false
set_option linter.unusedVariables false
set_option maxHeartbeats 16000000
set_option maxRecDepth 100000
namespace Go.Proofs.YtfokaoeinpnagaaGreat.Kc
section
attribute [local go_sem_proc] Nat.reduceAdd Nat.reduceMul Nat.reduceEqDiff Nat.reduceBEq Nat.reduceMod Nat.reduceDiv reduceCtorEq
attribute [local go_sem_proc ↓] reduceIte
open Go Ev
variable {ext : Env} {F n:Nat}
theorem J8 {α:Type} {body:St → Option (Out × St)} {rs:St → St} {k:Out × St → Prop} {u:Tok k} {F:Nat} {σ:St} (N:Nat) (T:α → St) (P:Nat → α → Prop) (hF:N < F) (x:α) (hs:rs σ = T x) (h0:P 0 x)
  (step:∀ i x,i < N → P i x → W (fun p=>match p.1 with
   | .jP=>∃ y,rs p.2 = T y ∧ P (i + 1) y
   | o=>k (o,p.2)) ⟨⟩ (body (T x)))
  (last:∀ x,P N x → W (fun p=>match p.1 with
   | .jP=>False
   | o=>k (o,p.2)) ⟨⟩ (body (T x))):W k u (iter body rs F σ):=by
 refine D7 (fun m σ=>∃ i x,i ≤ N ∧ m = N - i ∧ rs σ = T x ∧ P i x) ?_ F N σ hF ⟨0,x,amn _,rfl,hs,h0⟩
 rintro m σ ⟨i,x,hi,rfl,hr,hP⟩
 rw [hr]
 by_cases hlt:i < N
 ·refine wT (step i x hlt hP) fun p hp=>?_
  obtain ⟨o,s⟩:=p
  cases o with
  | jP =>
   obtain ⟨y,h1,h2⟩:=hp
   exact ⟨N - (i + 1),by omega,i + 1,y,by omega,rfl,h1,h2⟩
  | ext j=>exact hp
  | ret=>exact hp
 ·have:i = N:=by omega
  subst this
  refine wT (last x hP) fun p hp=>?_
  obtain ⟨o,s⟩:=p
  cases o with
  | jP=>exact hp.elim
  | ext j=>exact hp
  | ret=>exact hp
abbrev Qn.f (k:Qn):List FV:=[.str k.q,.int .i64 k.t,.int .i64 k.c]
abbrev fnQ (k:Qn):AV:=.one (.fn 135 [k.f])
theorem OQ (x k:Qn):G ext F (n + 1) 135 [vq x.q x.t x.c,.one (.fp k.f)] = some ([vb (decide (x = k))],[vq x.q x.t x.c,.one (.fp k.f)]):=by
 refine cZ (cf:=SB) rfl ?_
 dsimp only [SB,av,dB,bE,bM,aW,bZ,dS,eu,dH,aH,dn,dh,bU,bn];simp only [go_sem]
 cases x;cases k;simp
def Wi (l:List Qn) (k:Qn):Int:=match l.findIdx? fun x=>decide (x = k) with | some i=>i | none=>-1
theorem YD {l:List Qn} {k:Qn} (h:∀ x ∈ l,x ≠ k):Wi l k = -1:=by
 have:l.findIdx? (fun x=>decide (x = k)) = none:=ano.mpr fun x hx=>by simpa using h x hx
 simp [Wi,this]
theorem YE {l:List Qn} {k:Qn} {i:Nat} {x:Qn} (h:∀ x ∈ l.take i,x ≠ k) (hx:l[i]? = some x) (hk:x = k):Wi l k = i:=by
 have hi:=(amm.mp hx)
 have:l.findIdx? (fun x=>decide (x = k)) = some i:=by
  refine amY.mpr ⟨hi.1,by simp [hi.2,hk],fun j hj=>?_⟩
  have:=h (l[j]'(by have:=hi.1;omega)) (by rw [anB];exact ⟨j,by have:=hi.1;omega,rfl⟩)
  simpa using this
 simp [Wi,this]
theorem YF (l:List Qn) (k:Qn):(Wi l k = -1 ∧ ∀ x ∈ l,x ≠ k) ∨ ∃ (i:Nat),Wi l k = (i:Int) ∧ ∃ h:i < l.length,(∀ x ∈ l.take i,x ≠ k) ∧ l[i] = k:=by
 have hp:Wi l k = match l.findIdx? fun x=>decide (x = k) with | some i=>(i:Int) | none=>-1:=rfl
 cases h:l.findIdx? fun x=>decide (x = k) with
 | none =>
  rw [h] at hp
  exact .inl ⟨hp,fun x hx=>by simpa using ano.mp h x hx⟩
 | some i =>
  rw [h] at hp
  obtain ⟨hi,hx,hb⟩:=amY.mp h
  refine .inr ⟨i,hp,hi,fun x hx=>?_,by simpa using hx⟩
  obtain ⟨j,hj,rfl⟩:=anB.mp hx
  have:=hb j (by omega)
  simpa using this
theorem Ea (l:List Qn) (k:Qn) (hl:l.length ≤ 1000000000000) (hF:200000000000001 ≤ F):G ext F (n + 2) 149 [vl (l.map rQ),fnQ k] = some ([vi (Wi l k)],[vl (l.map rQ),fnQ k]):=by
 refine cZ (cf:=SG) rfl ?_
 dsimp only [SG,av,dB,bE,bM,aW,bZ,dS,eu,dH,aH,dn,dh,bU,bn];simp only [go_sem]
 refine gZ l.length (fun i=>⟨[(0,PV.c (CV.one (PL.f (FV.sl (l.map rQ))))),(1,PV.c (CV.one (PL.fn 135 [k.f]))),(7,PV.c (CV.one (PL.f (FV.int .i64 (l.map rQ).length)))),(8,PV.c (CV.one (PL.f (FV.int .i64 i))))],[]⟩) (fun i=>∀ x ∈ l.take i,x ≠ k) (by omega) rfl (by simp) (fun i hi hP=>?_) (fun hP=>?_)
 ·obtain ⟨x,hx,hd,ht,h0⟩:=at_ hi
  have hn:=nx hi (alU hl (by decide))
  have hq:=fun n=>OQ (ext:=ext) (F:=F) (n:=n) x k
  simp only [alA,alG,hd,hx,ht,h0,rQ,hq,go_sem]
  repeat' (refine bQ (fun h=>?_) (fun h=>?_) <;> simp only [h,alA,alG,hd,hx,ht,h0,hn,rQ,hq,go_sem])
  ·rw [YE hP hx (by simpa using h)]
  ·exact all_succ hP hx (by simpa using h)
 ·have hd:=@end_ _ l
  simp only [alA,hd,go_sem]
  repeat' (refine bQ (fun h=>?_) (fun h=>?_) <;> simp only [h,alA,hd,go_sem])
  rw [al3] at hP
  rw [YD hP]
theorem Td {l:List Qn} {k x:Qn} {i:Nat} (h:l[i]? = some x):(l.take (i + 1)).filter (fun y=>decide (y ≠ k)) = (l.take i).filter (fun y=>decide (y ≠ k)) ++ if x = k then [] else [x]:=by
 rw [al7,List.filter_append,h]
 by_cases hx:x = k <;> simp [hx]
theorem Bu (l:List Qn) (k:Qn) (hl:l.length ≤ 1000000000000) (hF:200000000000001 ≤ F):G ext F (n + 3) 134 [.one (.own 3 (l.map rQ)),fnQ k] = some ([.one (.own 3 ((l.filter fun x=>decide (x ≠ k)).map rQ))],[.one .any,fnQ k]):=by
 refine cZ (cf:=SA) rfl ?_
 have h1:=fun n=>Ea (ext:=ext) (F:=F) (n:=n) l k hl hF
 dsimp only [SA,av,dB,bE,bM,aW,bZ,dS,eu,dH,aH,dn,dh,bU,bn];simp only [h1,go_sem]
 rcases YF l k with ⟨hp,hno⟩ | ⟨i0,hp,hi0,hpre,hat⟩
 ·rw [hp]
  simp only [show decide ((-1:Int) = -1) = true from rfl,go_sem]
  rw [anA.mpr (fun x hx=>by simpa using hno x hx)]
 ·rw [hp]
  have hne:decide ((i0:Int) = -1) = false:=by simp
  simp only [hne,nx hi0 (alU hl (by decide)),alA,go_sem]
  refine J8 (l.length - (i0 + 1)) (fun x:List Qn × Nat × Nat=>⟨[(0,PV.c (CV.one (PL.own 20202 x.1.length))),(1,PV.c (CV.one (PL.fn 135 [k.f]))),(5,PV.c (CV.one (PL.f (FV.int IntKind.i64 x.2.1)))),(6,PV.c (CV.one (PL.f (FV.int IntKind.i64 x.2.2))))],[(20202,Ob.row 3 (x.1.map rQ))]⟩) (fun r x=>x.2.2 = i0 + 1 + r ∧ x.2.1 < x.2.2 ∧ x.1.length = l.length ∧ x.1.take x.2.1 = (l.take x.2.2).filter (fun y=>decide (y ≠ k)) ∧ x.1.drop x.2.2 = l.drop x.2.2) (by omega) (l,i0,i0 + 1) rfl ⟨rfl,Nat.lt_succ_self _,rfl,?_,rfl⟩ (fun r x hr hP=>?_) (fun x hP=>?_)
  ·rw [al7,List.filter_append,anA.mpr (fun x hx=>by simpa using hpre x hx),alT hi0]
   simp [hat]
  ·obtain ⟨R,c,j⟩:=x
   obtain ⟨rfl,hc,hlen,htk,hdr⟩:=hP
   simp only at hc hlen htk hdr ⊢
   have hj:i0 + 1 + r < R.length:=by omega
   obtain ⟨x,hx,hd,ht,h0⟩:=at_ hj
   have hn:=nx hj (by omega)
   have hq:=fun n=>OQ (ext:=ext) (F:=F) (n:=n) x k
   have hlt:((i0 + 1 + r:Nat):Int) < (R.length:Int):=by omega
   have hcR:c < R.length:=by omega
   obtain ⟨y,hy,hcd,hct,hc0⟩:=at_ hcR
   have hcl:(c:Int) < (R.length:Int):=by omega
   have hcn:=nx hcR (by omega)
   simp only [alA,alG,hd,hx,ht,h0,rQ,hq,hlt,go_sem]
   repeat' (refine bQ (fun h=>?_) (fun h=>?_) <;> simp only [h,alA,alG,hd,hx,ht,h0,hn,rQ,hq,hlt,hy,hct,hc0,hcl,hcn,go_sem])
   all_goals
    have hxl:l[i0 + 1 + r]? = some x:=by
     have:=al2 (fun z:List Qn=>z[0]?) hdr
     simp only [amB,Nat.add_zero,hx] at this
     exact this.symm
    have hdr':List.drop (i0 + 1 + r + 1) R = List.drop (i0 + 1 + r + 1) l:=by
     have:=al2 (List.drop 1) hdr
     simpa only [List.drop_drop] using this
    have hft:=Td (k:=k) hxl
   ·simp only [alL] at h
    rw [alx h,amC] at hft
    exact ⟨(R,c,i0 + 1 + r + 1),rfl,rfl,by show c < i0 + 1 + r + 1;omega,hlen,by rw [hft];exact htk,hdr'⟩
   ·simp only [alS] at h
    rw [aly h] at hft
    refine ⟨(R.set c x,c + 1,i0 + 1 + r + 1),?_,rfl,by show c + 1 < i0 + 1 + r + 1;omega,by simp [hlen],?_,?_⟩
    ·simp [amZ,rQ]
    ·show List.take (c + 1) (R.set c x) = _
     rw [hft,al7,List.take_set,List.set_eq_of_length_le (by simp;omega),htk,List.getElem?_set_self hcR]
     rfl
    ·show List.drop _ (R.set c x) = _
     rw [List.drop_set_of_lt (show c < i0 + 1 + r + 1 by omega)]
     exact hdr'
  ·obtain ⟨R,c,j⟩:=x
   obtain ⟨rfl,hc,hlen,htk,hdr⟩:=hP
   simp only at hc hlen htk hdr ⊢
   have hj:i0 + 1 + (l.length - (i0 + 1)) = R.length:=by omega
   rw [hj]
   rw [hj,am7 (l:=l) (i:=R.length) (by omega)] at htk
   have hd:=@end_ _ R
   have hct:(c:Int).toNat = c:=by simp
   have htt:List.take c (List.take c (List.map rQ R) ++ List.replicate (R.length - c) [FV.str ⟨#[]⟩,FV.int IntKind.i64 0,FV.int IntKind.i64 0]) = (l.filter fun y=>decide (y ≠ k)).map rQ:=by
    rw [anG (by simp;omega),List.take_take,Nat.min_self,← List.map_take,htk]
   simp only [alA,hd,go_sem]
   repeat' (refine bQ (fun h=>?_) (fun h=>?_) <;> simp only [h,alA,hd,go_sem])
   rw [hct]
   exact ⟨by omega,by omega,⟨by omega,by simp;omega⟩,by rw [htt]⟩
structure pO (ext:Env):Prop where
 cq:∀ l:List Qn,l.length ≤ 1000000 → ext 115 [vl (l.map rQ)] = some ([.one (.own 3 (l.map rQ))],[vl (l.map rQ)])
 cs:∀ l:List ByteArray,l.length ≤ 1000000 → ext 72 [vl (l.map dx)] = some ([vl (l.map dx)],[vl (l.map dx)])
theorem OT (C:pO ext) (l:List Qn) (h:l.length ≤ 1000000):G ext F (n + 1) 115 [vl (l.map rQ)] = some ([.one (.own 3 (l.map rQ))],[vl (l.map rQ)]):=(amx (kY rfl) _).trans (C.cq l h)
theorem Wj (C:pO ext) (l:List ByteArray) (h:l.length ≤ 1000000):G ext F (n + 1) 72 [vl (l.map dx)] = some ([vl (l.map dx)],[vl (l.map dx)]):=(amx (kY rfl) _).trans (C.cs l h)
def qP (l:List Qn) (k:Qn):List Qn:=l.filter fun x=>decide (x ≠ k)
theorem vE {l:List Qn} {k:Qn}:(qP l k).length ≤ l.length:=List.length_filter_le ..
theorem OU (C:pO ext) (l:List Qn) (k:Qn) (hl:l.length ≤ 1000000) (hF:200000000000001 ≤ F):G ext F (n + 4) 116 [vl (l.map rQ),vq k.q k.t k.c] = some ([.one (.own 3 ((qP l k).map rQ))],[vl (l.map rQ),vq k.q k.t k.c]):=by
 refine cZ (cf:=c116) rfl ?_
 have h1:=fun n=>OT (F:=F) (n:=n) C l hl
 have h2:=fun n=>Bu (ext:=ext) (F:=F) (n:=n) l k (by omega) hF
 dsimp only [c116,av,dB,bE,bM,aW,bZ,dS,eu,dH,aH,dn,dh,bU,bn];simp only [h1,h2,go_sem]
 rfl
theorem F9 (C:pO ext) (l:List Qn) (k:Qn) (hl:l.length ≤ 1000000) (hF:200000000000001 ≤ F):G ext F (n + 5) 86 [vl (l.map rQ),vq k.q k.t k.c] = some ([vl ((qP l k ++ [k]).map rQ)],[vl (l.map rQ),vq k.q k.t k.c]):=by
 refine cZ (cf:=c86) rfl ?_
 have h1:=fun n=>OU (ext:=ext) (F:=F) (n:=n) C l k hl hF
 have hl2:=@vE l k
 dsimp only [c86,av,dB,bE,bM,aW,bZ,dS,eu,dH,aH,dn,dh,bU,bn];simp only [h1,alA,go_sem]
 have hsz:((qP l k).length + 1) * 32 ≤ 140737488355328:=by omega
 simp [rQ,hsz]
theorem aco (l:List Qn):((l.map rQ).all fun r=>r.length == 3) = true:=by
 rw [alY]
 intro r hr
 obtain ⟨x, -,rfl⟩:=al6.mp hr
 rfl
theorem OV (C:pO ext) (l:List Qn) (most:Int) (hl:l.length ≤ 1000000) (hm:0 ≤ most ∧ most ≤ 1000000000000) (hF:200000000000001 ≤ F):G ext F (n + 2) 85 [vl (l.map rQ),vi most] = some ([vl ((l.drop (l.length - most.toNat)).map rQ),vl ((l.take (l.length - most.toNat)).map rQ)],[vl (l.map rQ),vi most]):=by
 refine cZ (cf:=c85) rfl ?_
 have h1:=fun n=>OT (F:=F) (n:=n) C (l.drop (l.length - most.toNat)) (by simp;omega)
 have h2:=fun n=>OT (F:=F) (n:=n) C (l.take (l.length - most.toNat)) (by simp;omega)
 obtain ⟨a,ha⟩:∃ a,a = l.length - most.toNat:=⟨_,rfl⟩
 rw [← ha] at h1 h2 ⊢
 have hc:IntKind.i64.wrap ((l.length:Int) - if (if (l.length:Int) < most then (l.length:Int) else most) < 0 then 0 else if (l.length:Int) < most then (l.length:Int) else most) = (a:Int):=by
  rw [yE (by split <;> split <;> omega) (by split <;> split <;> omega)]
  split <;> split <;> omega
 have hat:(a:Int).toNat = a:=by simp
 have hc1:(0:Int) ≤ a ∧ (a:Int) ≤ (l.length:Int):=by omega
 have hk1:List.take (l.length - a) (List.drop a (l.map rQ)) = (l.drop a).map rQ:=by rw [am7 (by simp),List.map_drop]
 have hk2:List.take a (l.map rQ) = (l.take a).map rQ:=List.map_take.symm
 dsimp only [c85,av,dB,bE,bM,aW,bZ,dS,eu,dH,aH,dn,dh,bU,bn];simp only [alA,hc,hat,hc1,hk1,hk2,h1,h2,aco l,amG,Nat.sub_zero,go_sem]
end
section
attribute [local go_sem_proc] Nat.reduceAdd Nat.reduceMul Nat.reduceEqDiff Nat.reduceBEq Nat.reduceMod Nat.reduceDiv reduceCtorEq
attribute [local go_sem_proc ↓] reduceIte
open Go Ev
variable {ext : Env} {F n:Nat} {θ:Th}
abbrev ER : KS:=.agg [.str,.int .i64,.int .i64]
abbrev kq (k:Qn):KV:=.agg [.str k.q,.int .i64 k.t,.int .i64 k.c]
def ent (x:It):KV × FC:=(kq x.k,.agg (rI x))
structure Sv where
 room:Int
 m:List It
 o:List Qn
 ch:Int
abbrev Sv.v (s:Sv):AV:=.one (.ptr [.f (.int .i64 s.room),.mp ER (s.m.map ent),.f (.sl (s.o.map rQ)),.f (.int .i64 s.ch)])
def svo : Option Sv → AV
 | some s=>s.v
 | none=>.one .iW
theorem OW (s:Sv):svo (some s) = s.v:=rfl
theorem IK {a b:Qn}:kq a = kq b ↔ a = b:=by
 constructor
 ·intro h;simp only [kq,KV.agg.injEq,ang,SV.str.injEq,SV.int.injEq] at h
  cases a;cases b;simp_all
 ·rintro rfl;rfl
theorem nV (l:List It) (k:Qn):yA (l.map ent) (kq k) = l.findIdx? fun x=>decide (x.k = k):=by
 unfold yA
 rw [List.map_map,List.findIdx?_map]
 refine al2 (fun p=>List.findIdx? p l) (funext fun x=>?_)
 simp only [Function.comp,ent]
 by_cases h:x.k = k
 ·simp [h]
 ·have:¬ kq x.k = kq k:=fun e=>h (IK.mp e)
  simp only [this,h,decide_false]
theorem rD (l:List It) (k:Qn):ug (l.map ent) (kq k) = (old l k).map fun x=>.agg (rI x):=by
 have hf:old l k = (l.findIdx? fun x=>decide (x.k = k)).bind fun i=>l[i]?:=List.find?_eq_bind_findIdx?_getElem? ..
 unfold ug
 rw [nV,hf]
 cases l.findIdx? fun x=>decide (x.k = k) with
 | none=>rfl
 | some i=>simp only [Option.bind_some,alG];cases l[i]? <;> rfl
theorem zS (l:List It) (k:Qn):Dj (l.map ent) (kq k) = (rid l k).map ent:=by
 unfold Dj rid
 rw [nV,List.eraseP_eq_eraseIdx]
 cases l.findIdx? fun x=>decide (x.k = k) with
 | none=>rfl
 | some i=>simp [List.eraseIdx_eq_take_drop_succ,List.map_take,List.map_drop]
def upd (l:List It) (x:It):List It:=match l.findIdx? fun y=>decide (y.k = x.k) with
 | some i=>l.set i x
 | none=>l ++ [x]
theorem zT (l:List It) (x:It):yB (l.map ent) (kq x.k) (.agg (rI x)) = (upd l x).map ent:=by
 unfold yB upd
 rw [nV]
 cases l.findIdx? fun y=>decide (y.k = x.k) with
 | none=>simp [ent]
 | some i=>simp [amZ,ent]
theorem YG (room:Int):G ext F (n + 1) 48 [vi room] = some ([svo (if room < 1 ∨ 1000 < room then none else some ⟨room,[],[],0⟩)],[vi room]):=by
 refine cZ (cf:=Rj) rfl ?_
 dsimp only [Rj,av,dB,bE,bM,aW,bZ,dS,eu,dH,aH,dn,dh,bU,bn];simp only [go_sem]
 repeat' (refine bQ (fun h=>?_) (fun h=>?_) <;> simp only [h,go_sem])
 all_goals (simp only [alL,alS] at *)
 all_goals first | rw [alx (by omega)] | rw [aly (by omega)]
 all_goals rfl
theorem Ga (C:pO ext) (x:It) (hx:x.d.length ≤ 1000000):G ext F (n + 2) 79 [x.v] = some ([x.v],[x.v]):=by
 refine cZ (cf:=c79) rfl ?_
 have h1:=fun n=>Wj (F:=F) (n:=n) C x.d hx
 dsimp only [c79,av,dB,bE,bM,aW,bZ,dS,eu,dH,aH,dn,dh,bU,bn];simp only [h1,go_sem]
def eH (s:Sv) (now:Int) (k:Qn):It × Bool:=match old s.m k with
 | some x=>if eY now x.u then (x,true) else (YB,false)
 | none=>(YB,false)
theorem LM (now:Int) (k:Qn):G ext F (n + 3) 43 [.one .iW,vi now,vq k.q k.t k.c] = some ([YB.v,vb false],[.one .iW,vi now,vq k.q k.t k.c]):=by
 refine cZ (cf:=Yu) rfl ?_
 dsimp only [Yu,av,dB,bE,bM,aW,bZ,dS,eu,dH,aH,dn,dh,bU,bn];simp only [go_sem]
 rfl
theorem Te (C:pO ext) (s:Sv) (now:Int) (k:Qn) (hd:∀ x ∈ s.m,x.d.length ≤ 1000000):G ext F (n + 3) 43 [s.v,vi now,vq k.q k.t k.c] = some ([(eH s now k).1.v,vb (eH s now k).2],[s.v,vi now,vq k.q k.t k.c]):=by
 refine cZ (cf:=Yu) rfl ?_
 have hk:=rD s.m k
 unfold eH
 cases ho:old s.m k with
 | none =>
  rw [ho] at hk
  dsimp only [Yu,av,dB,bE,bM,aW,bZ,dS,eu,dH,aH,dn,dh,bU,bn];simp only [hk,Option.map_none,Option.isSome_none,go_sem]
  rfl
 | some x =>
  rw [ho] at hk
  have h1:=fun n=>Ga (F:=F) (n:=n) C x (hd x (anH ho))
  cases hv:eY now x.u
  all_goals
   dsimp only [Yu,av,dB,bE,bM,aW,bZ,dS,eu,dH,aH,dn,dh,bU,bn];simp only [hk,Option.map_some,Option.isSome_some,rI,kr,hv,h1,go_sem]
  rfl
def vF (θ:Th) (s:Sv) (now:Int) (x:It):Int :=
 if x.u < 0 ∨ θ.set x.q x.t x.c x.d x.ttl = false ∨ x.r < 1 ∨ 5 < x.r then 1
 else if eY now x.u = false then 14
 else match old s.m x.k with
  | some o=>if pK o.r (eY now o.u) x.r = false then 10 else 0
  | none=>0
theorem OX (now:Int) (x:It):G ext F (n + 4) 84 [.one .iW,vi now,x.v] = some ([vi 1],[.one .iW,vi now,x.v]):=by
 refine cZ (cf:=Yv) rfl ?_
 dsimp only [Yv,av,dB,bE,bM,aW,bZ,dS,eu,dH,aH,dn,dh,bU,bn];simp only [go_sem]
theorem YH (T:θ.Ok ext) (s:Sv) (now:Int) (x:It) (hF:200000000000001 ≤ F) (hq:x.q.size ≤ 1000000) (hn:x.d.length ≤ 1000000) (hd:∀ y ∈ x.d,y.size ≤ 1000000):G ext F (n + 4) 84 [s.v,vi now,x.v] = some ([vi (vF θ s now x)],[s.v,vi now,x.v]):=by
 refine cZ (cf:=Yv) rfl ?_
 have hk:=rD s.m x.k
 have h1:=fun n=>Cr (ext:=ext) (F:=F) (n:=n) T x.q x.t x.c x.d x.ttl (by omega) hF hq hd
 unfold vF
 cases hold:old s.m x.k with
 | none =>
  rw [hold] at hk
  dsimp only [Yv,av,dB,bE,bM,aW,bZ,dS,eu,dH,aH,dn,dh,bU,bn];simp only [h1,hk,kr,Option.map_none,Option.isSome_none,go_sem]
  repeat' (refine bQ (fun h=>?_) (fun h=>?_) <;> simp only [h,h1,hk,kr,Option.map_none,Option.isSome_none,go_sem])
  all_goals clear h1 hk
  all_goals simp only [alL,alS] at *
  all_goals simp [*]
 | some o =>
  rw [hold] at hk
  dsimp only [Yv,av,dB,bE,bM,aW,bZ,dS,eu,dH,aH,dn,dh,bU,bn];simp only [h1,hk,kr,J3,Option.map_some,Option.isSome_some,rI,go_sem]
  repeat' (refine bQ (fun h=>?_) (fun h=>?_) <;> simp only [h,h1,hk,kr,J3,Option.map_some,Option.isSome_some,rI,go_sem])
  all_goals clear h1 hk
  all_goals simp only [alL,alS] at *
  all_goals simp [*]
end
section
open Go Ev
variable {ext : Env} {F n:Nat} {θ:Th}
abbrev Se.it (x:Se) (u r:Int):It:=⟨x.q,x.t,x.c,x.d,x.ttl,u,r⟩
def mZ (θ:Th) (s:Sv) (now:Int) (x:Se) (r:Int):Sv × Int :=
 let it:=x.it (cu now x.ttl) r
 if vF θ s now it ≠ 0 then (s,vF θ s now it)
 else
  let t:=qP s.o x.k ++ [x.k]
  (⟨s.room,(t.take (t.length - s.room.toNat)).foldl rid (upd s.m it),t.drop (t.length - s.room.toNat),s.ch + 1⟩,0)
structure Gb (θ:Th) (ext:Env):Prop where
 p0:∀ now x r,ext 50 [.one .iW,vi now,Se.v x,vi r] = some ([vi 1],[.one .iW,vi now,x.v,vi r])
 p1:∀ (s:Sv) now (x:Se) r,0 ≤ s.room ∧ s.room ≤ 1000000 → 0 ≤ s.ch ∧ s.ch ≤ 1000000000000 → s.o.length ≤ 100000 → s.m.length ≤ 100000 → x.q.size ≤ 1000000 → x.d.length ≤ 1000000 → (∀ y ∈ x.d,y.size ≤ 1000000) →
  ext 50 [s.v,vi now,x.v,vi r] = some ([vi (mZ θ s now x r).2],[(mZ θ s now x r).1.v,vi now,x.v,vi r])
theorem YI (Q:Gb θ ext) (s:Sv) (now:Int) (x:Se) (r:Int) (h1:0 ≤ s.room ∧ s.room ≤ 1000000) (h2:0 ≤ s.ch ∧ s.ch ≤ 1000000000000) (h3:s.o.length ≤ 100000) (h3':s.m.length ≤ 100000) (h4:x.q.size ≤ 1000000) (h5:x.d.length ≤ 1000000) (h6:∀ y ∈ x.d,y.size ≤ 1000000):G ext F (n + 1) 50 [s.v,vi now,x.v,vi r] = some ([vi (mZ θ s now x r).2],[(mZ θ s now x r).1.v,vi now,x.v,vi r]):=(amx (kY rfl) _).trans (Q.p1 s now x r h1 h2 h3 h3' h4 h5 h6)
abbrev na : ByteArray:=⟨#[1,97,0]⟩
abbrev nb : ByteArray:=⟨#[1,98,0]⟩
abbrev Tf : ByteArray:=⟨#[1,99,0]⟩
abbrev dd : ByteArray:=⟨#[49,49,49,49]⟩
abbrev sa : Se:=⟨na,1,1,[dd],5⟩
abbrev sb : Se:=⟨nb,1,1,[dd],5⟩
abbrev sc : Se:=⟨Tf,1,1,[dd],5⟩
abbrev sz : Se:=⟨na,1,1,[dd],0⟩
abbrev t0 : Sv:=⟨2,[],[],0⟩
abbrev t1 : Sv:=⟨2,[sa.it 6 5],[sa.k],1⟩
abbrev t2 : Sv:=⟨2,[sa.it 6 5,sb.it 6 3],[sa.k,sb.k],2⟩
abbrev t3 : Sv:=⟨2,[sa.it 6 5,sb.it 6 3],[sb.k,sa.k],2⟩
abbrev t4 : Sv:=⟨2,[sa.it 6 5,sc.it 7 1],[sa.k,sc.k],3⟩
abbrev t5 : Sv:=⟨2,[sc.it 7 1],[sc.k],4⟩
end
section
open Go Ev
variable {θ : Th}
abbrev ks (l:List It):List Qn:=l.map It.k
theorem Eb {b:Qn}:old [] b = none:=rfl
theorem jJ {x:It} {l:List It} {b:Qn}:old (x :: l) b = if x.k = b then some x else old l b:=by
 unfold old;rw [List.find?_cons];by_cases h:x.k = b <;> simp [h]
theorem qm {l:List It} {b:Qn} (h:b ∉ ks l):old l b = none:=by
 unfold old;rw [anC]
 intro x hx;simp only [alL];rintro rfl;exact h (anh hx)
theorem ku {l:List It} {b:Qn} {x:It} (h:old l b = some x):x.k = b ∧ x ∈ l:=⟨by simpa using List.find?_some h,anH h⟩
theorem pQ {x:It} {l:List It} {a:Qn}:rid (x :: l) a = if x.k = a then l else x :: rid l a:=by
 unfold rid;rw [List.eraseP_cons];by_cases h:x.k = a <;> simp [h]
theorem qo {l:List It} {a:Qn}:(rid l a).Sublist l:=List.eraseP_sublist ..
theorem mh {l:List It} {a:Qn} (h:(ks l).Nodup):(ks (rid l a)).Nodup:=(qo.map _).nodup h
theorem qp {l:List It} {a b:Qn} (h:(ks l).Nodup):old (rid l a) b = if b = a then none else old l b:=by
 induction l with
 | nil=>simp [rid,Eb]
 | cons x l ih =>
  have hc:=amw.mp h
  rw [pQ]
  by_cases hx:x.k = a
  ·rw [alx hx]
   by_cases hb:b = a
   ·rw [alx hb];exact qm (by rw [hb,← hx];exact hc.1)
   ·rw [aly hb,jJ,aly (by rw [hx];exact fun e=>hb e.symm)]
  ·rw [aly hx,jJ,jJ,ih hc.2]
   by_cases hb:b = a
   ·subst hb;rw [aly hx,alx rfl,alx rfl]
   ·rw [aly hb,aly hb]
theorem IL {l:List It} {a:Qn} (h:(ks l).Nodup):ks (rid l a) = qP (ks l) a:=by
 induction l with
 | nil=>rfl
 | cons x l ih =>
  have hc:=amw.mp h
  rw [pQ]
  by_cases hx:x.k = a
  ·rw [alx hx]
   have:qP (ks l) a = ks l:=anA.mpr fun y hy=>by
    simp only [alL];rintro rfl;rw [← hx] at hy;exact hc.1 hy
   simp only [ks,alD,qP,ana,hx,ne_eq,decide_not] at this ⊢
   simp [this]
  ·rw [aly hx]
   simp only [ks,alD,qP,ana] at ih ⊢
   rw [ih hc.2];simp [hx]
theorem vG {l:List It} {x:It} {b:Qn} (h:x.k ∉ ks l):old (l ++ [x]) b = if b = x.k then some x else old l b:=by
 unfold old;rw [anp]
 by_cases hb:b = x.k
 ·subst hb
  have:=qm h;unfold old at this
  rw [this];simp
 ·have:¬ x.k = b:=fun e=>hb e.symm
  simp [hb,this]
theorem qw (l:List It) (x:It):(x.k ∉ ks l ∧ upd l x = l ++ [x]) ∨ ∃ a y b,l = a ++ y :: b ∧ y.k = x.k ∧ x.k ∉ ks a ∧ upd l x = a ++ x :: b:=by
 unfold upd
 cases h:l.findIdx? fun y=>decide (y.k = x.k) with
 | none =>
  refine .inl ⟨fun hm=>?_,rfl⟩
  obtain ⟨y,hy,hk⟩:=al6.mp hm
  have:=ano.mp h y hy
  simp [hk] at this
 | some i =>
  obtain ⟨hi,hx,hb⟩:=amY.mp h
  refine .inr ⟨l.take i,l[i],l.drop (i + 1),?_,by simpa using hx,fun hm=>?_,?_⟩
  ·rw [List.getElem_cons_drop,ank]
  ·obtain ⟨y,hy,hk⟩:=al6.mp hm
   obtain ⟨j,hj,rfl⟩:=anB.mp hy
   have:=hb j (by omega)
   simp [hk] at this
  ·simp only [List.set_eq_take_append_cons_drop,hi,ama]
theorem Ec {l:List It} {x:It} {b:Qn}:old (upd l x) b = if b = x.k then some x else old l b:=by
 rcases qw l x with ⟨h,hu⟩ | ⟨a,y,c,rfl,hy,ha,hu⟩
 ·rw [hu,vG h]
 ·rw [hu]
  have hno:=qm ha
  unfold old at hno ⊢
  rw [anp,anp,List.find?_cons,List.find?_cons]
  by_cases hb:b = x.k
  ·subst hb;rw [hno];simp
  ·have h1:¬ x.k = b:=fun e=>hb e.symm
   have h2:¬ y.k = b:=fun e=>hb (by rw [← hy,e])
   simp [hb,h1,h2]
theorem kC {l:List It} {x:It} (h:(ks l).Nodup):(ks (upd l x)).Nodup:=by
 rcases qw l x with ⟨hn,hu⟩ | ⟨a,y,c,rfl,hy,ha,hu⟩
 ·rw [hu]
  simp only [ks,amE,alD,alE]
  refine amO.mpr ⟨h,anu _ _,fun p hp q hq=>?_⟩
  rw [amA] at hq;subst hq;rintro rfl;exact hn hp
 ·rw [hu]
  have:ks (a ++ x :: c) = ks (a ++ y :: c):=by simp [ks,hy]
  rw [this];exact h
structure Rl (s:Sv) (k:Sr):Prop where
 room:s.room = k.room
 ch:s.ch = k.ch
 ord:s.o = ks k.l
 kM:(ks k.l).Nodup
 IQ:(ks s.m).Nodup
 old:∀ b,old s.m b = old k.l b
 len:(k.l.length:Int) ≤ k.room
theorem Ed {l:List It} {a:Qn}:(rid l a).length ≤ l.length:=qo.length_le
theorem OY {s:Sv} {k:Sr} (h:Rl s k) (now:Int) (b:Qn):eH s now b = dW k now b:=by
 unfold eH dW;rw [h.old b]
 all_goals (cases Kc.old k.l b <;> rfl)
theorem pR {l:List It} {a:Qn} (h:(ks l).Nodup):a ∉ ks (rid l a):=fun hp=>by
 have h1:=qp (b:=a) (a:=a) h
 rw [alx rfl] at h1
 obtain ⟨y,hy,hk⟩:=al6.mp hp
 have:=anC.mp h1 y hy
 simp [hk] at this
theorem wV {l:List It} {x:It} (h:(ks l).Nodup) (hn:x.k ∉ ks l):(ks (l ++ [x])).Nodup:=by
 simp only [ks,amE,alD,alE]
 refine amO.mpr ⟨h,anu _ _,fun p hp q hq=>?_⟩
 rw [amA] at hq;subst hq;rintro rfl;exact hn hp
theorem sD {now ttl:Int}:cu now ttl < 0 ↔ D8 now = false ∨ ttl < 0:=by
 unfold cu D8
 split
 ·rename_i h
  simp only [alL] at h
  simp only [alS]
  constructor
  ·intro h1;split at h1 <;> omega
  ·rintro (h1 | h1) <;> omega
 ·rename_i h
  simp only [alL] at h
  simp only [alS]
  constructor
  ·intro _;omega
  ·intro _;decide
theorem J9 {s:Sv} {k:Sr} (h:Rl s k) (hr:1 ≤ k.room) {now:Int} {x:Se} {r:Int}:(cu now x.ttl < 0 ∨ θ.set x.q x.t x.c x.d x.ttl = false ∨ r < 1 ∨ 5 < r) ↔ θ.arg k now x r:=by
 unfold Th.arg
 rw [sD]
 constructor
 ·rintro ((h1 | h1) | h1)
  ·exact .inr (.inl h1)
  ·exact .inr (.inr (.inl (by unfold Th.set;rw [alS];rintro ⟨-, -,h2, -⟩;omega)))
  ·exact .inr (.inr h1)
 ·rintro (h1 | h1 | h1)
  ·omega
  ·exact .inl (.inl h1)
  ·exact .inr h1
theorem Tg {s:Sv} {k:Sr} (h:Rl s k) (hr:1 ≤ k.room) (now:Int) (x:Se) (r:Int):(mZ θ s now x r).2 = (vC θ k now x r).2 ∧ Rl (mZ θ s now x r).1 (vC θ k now x r).1:=by
 have hold:=h.old x.k
 by_cases ha:θ.arg k now x r
 ·have hm:vF θ s now (x.it (cu now x.ttl) r) = 1:=by unfold vF;exact alx ((J9 h hr).mpr ha)
  have hs:mZ θ s now x r = (s,1):=by unfold mZ;simp only [hm];rfl
  rw [hs,nU ha];exact ⟨rfl,h⟩
 have ha':=fun e=>ha ((J9 (θ:=θ) h hr).mp e)
 cases hl:eY now (cu now x.ttl) with
 | false =>
  have hm:vF θ s now (x.it (cu now x.ttl) r) = 14:=by unfold vF;rw [aly ha',alx hl]
  have hs:mZ θ s now x r = (s,14):=by unfold mZ;simp only [hm];rfl
  rw [hs,D9 ha hl];exact ⟨rfl,h⟩
 | true =>
 by_cases hov:∃ o,old k.l x.k = some o ∧ pK o.r (eY now o.u) r = false
 ·obtain ⟨o,ho,hov⟩:=hov
  have hm:vF θ s now (x.it (cu now x.ttl) r) = 10:=by
   unfold vF;rw [aly ha',aly (by rw [hl];decide)]
   show (match old s.m x.k with | some o=>if pK o.r (eY now o.u) r = false then (10:Int) else 0 | none=>0) = 10
   rw [hold,ho];exact alx hov
  have hs:mZ θ s now x r = (s,10):=by unfold mZ;simp only [hm];rfl
  rw [hs,J7 ha hl ho hov];exact ⟨rfl,h⟩
 have acp:∀ o,old k.l x.k = some o → pK o.r (eY now o.u) r = true:=fun o ho=>by
  cases hv:pK o.r (eY now o.u) r with
  | true=>rfl
  | false=>exact absurd ⟨o,ho,hv⟩ hov
 have hm:vF θ s now (x.it (cu now x.ttl) r) = 0:=by
  unfold vF;rw [aly ha',aly (by rw [hl];decide)]
  show (match old s.m x.k with | some o=>if pK o.r (eY now o.u) r = false then (10:Int) else 0 | none=>0) = 0
  rw [hold]
  cases ho:old k.l x.k with
  | none=>rfl
  | some o=>exact aly (by rw [acp o ho];decide)
 rw [vD ha hl acp rfl]
 have hs:mZ θ s now x r = (⟨s.room,((qP s.o x.k ++ [x.k]).take ((qP s.o x.k ++ [x.k]).length - s.room.toNat)).foldl rid (upd s.m (x.it (cu now x.ttl) r)),(qP s.o x.k ++ [x.k]).drop ((qP s.o x.k ++ [x.k]).length - s.room.toNat),s.ch + 1⟩,0):=by unfold mZ;simp only [hm];rfl
 rw [hs]
 refine ⟨rfl,?_⟩
 generalize hit:x.it (cu now x.ttl) r = it
 have hkx:it.k = x.k:=by rw [← hit]
 have hit':(⟨x.q,x.t,x.c,x.d,x.ttl,cu now x.ttl,r⟩:It) = it:=hit
 rw [hit']
 have ht:qP s.o x.k ++ [x.k] = ks (rid k.l x.k ++ [it]):=by rw [h.ord,← IL h.kM];simp [ks,hkx]
 rw [ht]
 have hnd:(ks (rid k.l x.k ++ [it])).Nodup:=wV (mh h.kM) (by rw [hkx];exact pR h.kM)
 have hm1:∀ c,old (upd s.m it) c = old (rid k.l x.k ++ [it]) c:=fun c=>by
  rw [Ec,vG (by rw [hkx];exact pR h.kM),hkx,qp h.kM,h.old c]
  by_cases hc:c = x.k <;> simp [hc]
 have hlen:=h.len
 have hl2:=@Ed k.l x.k
 generalize hL:rid k.l x.k ++ [it] = L at ht hnd hm1 ⊢
 have hLl:L.length = (rid k.l x.k).length + 1:=by rw [← hL];simp
 have hkl:(ks L).length = L.length:=by simp [ks]
 rw [hkl,h.room]
 by_cases hc:k.room < (L.length:Int)
 ·have h1:L.length - k.room.toNat = 1:=by omega
  rw [h1]
  have hcut:zR k.room L = L.drop 1:=by unfold zR;exact alx hc
  rw [hcut]
  cases L with
  | nil=>simp at hLl
  | cons y L =>
   have hn:=amw.mp hnd
   refine ⟨h.room ▸ rfl,by show s.ch + 1 = k.ch + 1;rw [h.ch],rfl,hn.2,mh (kC h.IQ),fun c=>?_,?_⟩
   ·show old (rid (upd s.m it) y.k) c = old L c
    rw [qp (kC h.IQ),hm1 c,jJ]
    by_cases hy:c = y.k
    ·subst hy;rw [alx rfl,qm hn.1]
    ·rw [aly hy,aly (fun e=>hy e.symm)]
   ·simp only [List.length_cons] at hLl
    show ((L.length:Nat):Int) ≤ k.room
    omega
 ·have h1:L.length - k.room.toNat = 0:=by omega
  rw [h1]
  have hcut:zR k.room L = L:=by unfold zR;exact aly hc
  rw [hcut]
  refine ⟨h.room ▸ rfl,by show s.ch + 1 = k.ch + 1;rw [h.ch],rfl,hnd,kC h.IQ,hm1,by show (L.length:Int) ≤ k.room;omega⟩
end
end Go.Proofs.YtfokaoeinpnagaaGreat.Kc
namespace Go.Proofs.YtfokaoeinpnagaaGreat.Kc.Ne
section
open Go Ev
variable {ext : Env} {F n:Nat} {θ:Th}
structure Nt where
 k:Qn
 nx:Bool
 s:Se
 u:Int
 deriving DecidableEq
def rN (x:Nt):List FV:=[.str x.k.q,.int .i64 x.k.t,.int .i64 x.k.c,.bool x.nx,.str x.s.q,.int .i64 x.s.t,.int .i64 x.s.c,.sl (x.s.d.map dx),.int .i64 x.s.ttl,.int .i64 x.u]
abbrev Nt.v (x:Nt):AV:=.agg [.f (.str x.k.q),.f (.int .i64 x.k.t),.f (.int .i64 x.k.c),.f (.bool x.nx),.f (.str x.s.q),.f (.int .i64 x.s.t),.f (.int .i64 x.s.c),.f (.sl (x.s.d.map dx)),.f (.int .i64 x.s.ttl),.f (.int .i64 x.u)]
abbrev _root_.Go.Proofs.YtfokaoeinpnagaaGreat.Kc.Qn.v (k:Qn):AV:=vq k.q k.t k.c
def nt0 : Nt:=⟨⟨⟨#[]⟩,0,0⟩,false,⟨⟨#[]⟩,0,0,[],0⟩,0⟩
structure On where
 o:Int
 now:Int
 k:Qn
 nx:Bool
 s:Se
abbrev On.v (x:On):AV:=.agg [.f (.int .i64 x.o),.f (.int .i64 x.now),.f (.str x.k.q),.f (.int .i64 x.k.t),.f (.int .i64 x.k.c),.f (.bool x.nx),.f (.str x.s.q),.f (.int .i64 x.s.t),.f (.int .i64 x.s.c),.f (.sl (x.s.d.map dx)),.f (.int .i64 x.s.ttl)]
structure Nv where
 room:Int
 m:List Nt
 o:List Qn
 ch:Int
structure Rn where
 room:Int
 l:List Nt
 ch:Int
abbrev ER : KS:=.agg [.str,.int .i64,.int .i64]
abbrev kq (k:Qn):KV:=.agg [.str k.q,.int .i64 k.t,.int .i64 k.c]
theorem IK {a b:Qn}:kq a = kq b ↔ a = b:=by
 constructor
 ·intro h;simp only [kq,KV.agg.injEq,ang,SV.str.injEq,SV.int.injEq] at h
  cases a;cases b;simp_all
 ·rintro rfl;rfl
def old (l:List Nt) (k:Qn):Option Nt:=l.find? fun x=>decide (x.k = k)
def rid (l:List Nt) (k:Qn):List Nt:=l.eraseP fun x=>decide (x.k = k)
def ent (x:Nt):KV × FC:=(kq x.k,.agg (rN x))
theorem nV (l:List Nt) (k:Qn):yA (l.map ent) (kq k) = l.findIdx? fun x=>decide (x.k = k):=by
 unfold yA
 rw [List.map_map,List.findIdx?_map]
 refine al2 (fun p=>List.findIdx? p l) (funext fun x=>?_)
 simp only [Function.comp,ent]
 by_cases h:x.k = k
 ·simp [h]
 ·have:¬ kq x.k = kq k:=fun e=>h (IK.mp e)
  simp only [this,h,decide_false]
theorem rD (l:List Nt) (k:Qn):ug (l.map ent) (kq k) = (old l k).map fun x=>.agg (rN x):=by
 have hf:old l k = (l.findIdx? fun x=>decide (x.k = k)).bind fun i=>l[i]?:=List.find?_eq_bind_findIdx?_getElem? ..
 unfold ug
 rw [nV,hf]
 cases l.findIdx? fun x=>decide (x.k = k) with
 | none=>rfl
 | some i=>simp only [Option.bind_some,alG];cases l[i]? <;> rfl
theorem zS (l:List Nt) (k:Qn):Dj (l.map ent) (kq k) = (rid l k).map ent:=by
 unfold Dj rid
 rw [nV,List.eraseP_eq_eraseIdx]
 cases l.findIdx? fun x=>decide (x.k = k) with
 | none=>rfl
 | some i=>simp [List.eraseIdx_eq_take_drop_succ,List.map_take,List.map_drop]
def upd (l:List Nt) (x:Nt):List Nt:=match l.findIdx? fun y=>decide (y.k = x.k) with
 | some i=>l.set i x
 | none=>l ++ [x]
theorem zT (l:List Nt) (x:Nt):yB (l.map ent) (kq x.k) (.agg (rN x)) = (upd l x).map ent:=by
 unfold yB upd
 rw [nV]
 cases l.findIdx? fun y=>decide (y.k = x.k) with
 | none=>simp [ent]
 | some i=>simp [amZ,ent]
abbrev ks (l:List Nt):List Qn:=l.map Nt.k
theorem Eb {b:Qn}:old [] b = none:=rfl
theorem jJ {x:Nt} {l:List Nt} {b:Qn}:old (x :: l) b = if x.k = b then some x else old l b:=by
 unfold old;rw [List.find?_cons];by_cases h:x.k = b <;> simp [h]
theorem qm {l:List Nt} {b:Qn} (h:b ∉ ks l):old l b = none:=by
 unfold old;rw [anC]
 intro x hx;simp only [alL];rintro rfl;exact h (anh hx)
theorem ku {l:List Nt} {b:Qn} {x:Nt} (h:old l b = some x):x.k = b ∧ x ∈ l:=⟨by simpa using List.find?_some h,anH h⟩
theorem pQ {x:Nt} {l:List Nt} {a:Qn}:rid (x :: l) a = if x.k = a then l else x :: rid l a:=by
 unfold rid;rw [List.eraseP_cons];by_cases h:x.k = a <;> simp [h]
theorem qo {l:List Nt} {a:Qn}:(rid l a).Sublist l:=List.eraseP_sublist ..
theorem mh {l:List Nt} {a:Qn} (h:(ks l).Nodup):(ks (rid l a)).Nodup:=(qo.map _).nodup h
theorem qp {l:List Nt} {a b:Qn} (h:(ks l).Nodup):old (rid l a) b = if b = a then none else old l b:=by
 induction l with
 | nil=>simp [rid,Eb]
 | cons x l ih =>
  have hc:=amw.mp h
  rw [pQ]
  by_cases hx:x.k = a
  ·rw [alx hx]
   by_cases hb:b = a
   ·rw [alx hb];exact qm (by rw [hb,← hx];exact hc.1)
   ·rw [aly hb,jJ,aly (by rw [hx];exact fun e=>hb e.symm)]
  ·rw [aly hx,jJ,jJ,ih hc.2]
   by_cases hb:b = a
   ·subst hb;rw [aly hx,alx rfl,alx rfl]
   ·rw [aly hb,aly hb]
theorem IL {l:List Nt} {a:Qn} (h:(ks l).Nodup):ks (rid l a) = qP (ks l) a:=by
 induction l with
 | nil=>rfl
 | cons x l ih =>
  have hc:=amw.mp h
  rw [pQ]
  by_cases hx:x.k = a
  ·rw [alx hx]
   have:qP (ks l) a = ks l:=anA.mpr fun y hy=>by
    simp only [alL];rintro rfl;rw [← hx] at hy;exact hc.1 hy
   simp only [ks,alD,qP,ana,hx,ne_eq,decide_not] at this ⊢
   simp [this]
  ·rw [aly hx]
   simp only [ks,alD,qP,ana] at ih ⊢
   rw [ih hc.2];simp [hx]
theorem vG {l:List Nt} {x:Nt} {b:Qn} (h:x.k ∉ ks l):old (l ++ [x]) b = if b = x.k then some x else old l b:=by
 unfold old;rw [anp]
 by_cases hb:b = x.k
 ·subst hb
  have:=qm h;unfold old at this
  rw [this];simp
 ·have:¬ x.k = b:=fun e=>hb e.symm
  simp [hb,this]
theorem qw (l:List Nt) (x:Nt):(x.k ∉ ks l ∧ upd l x = l ++ [x]) ∨ ∃ a y b,l = a ++ y :: b ∧ y.k = x.k ∧ x.k ∉ ks a ∧ upd l x = a ++ x :: b:=by
 unfold upd
 cases h:l.findIdx? fun y=>decide (y.k = x.k) with
 | none =>
  refine .inl ⟨fun hm=>?_,rfl⟩
  obtain ⟨y,hy,hk⟩:=al6.mp hm
  have:=ano.mp h y hy
  simp [hk] at this
 | some i =>
  obtain ⟨hi,hx,hb⟩:=amY.mp h
  refine .inr ⟨l.take i,l[i],l.drop (i + 1),?_,by simpa using hx,fun hm=>?_,?_⟩
  ·rw [List.getElem_cons_drop,ank]
  ·obtain ⟨y,hy,hk⟩:=al6.mp hm
   obtain ⟨j,hj,rfl⟩:=anB.mp hy
   have:=hb j (by omega)
   simp [hk] at this
  ·simp only [List.set_eq_take_append_cons_drop,hi,ama]
theorem Ec {l:List Nt} {x:Nt} {b:Qn}:old (upd l x) b = if b = x.k then some x else old l b:=by
 rcases qw l x with ⟨h,hu⟩ | ⟨a,y,c,rfl,hy,ha,hu⟩
 ·rw [hu,vG h]
 ·rw [hu]
  have hno:=qm ha
  unfold old at hno ⊢
  rw [anp,anp,List.find?_cons,List.find?_cons]
  by_cases hb:b = x.k
  ·subst hb;rw [hno];simp
  ·have h1:¬ x.k = b:=fun e=>hb e.symm
   have h2:¬ y.k = b:=fun e=>hb (by rw [← hy,e])
   simp [hb,h1,h2]
theorem kC {l:List Nt} {x:Nt} (h:(ks l).Nodup):(ks (upd l x)).Nodup:=by
 rcases qw l x with ⟨hn,hu⟩ | ⟨a,y,c,rfl,hy,ha,hu⟩
 ·rw [hu]
  simp only [ks,amE,alD,alE]
  refine amO.mpr ⟨h,anu _ _,fun p hp q hq=>?_⟩
  rw [amA] at hq;subst hq;rintro rfl;exact hn hp
 ·rw [hu]
  have:ks (a ++ x :: c) = ks (a ++ y :: c):=by simp [ks,hy]
  rw [this];exact h
theorem Ed {l:List Nt} {a:Qn}:(rid l a).length ≤ l.length:=qo.length_le
theorem pR {l:List Nt} {a:Qn} (h:(ks l).Nodup):a ∉ ks (rid l a):=fun hp=>by
 have h1:=qp (b:=a) (a:=a) h
 rw [alx rfl] at h1
 obtain ⟨y,hy,hk⟩:=al6.mp hp
 have:=anC.mp h1 y hy
 simp [hk] at this
theorem wV {l:List Nt} {x:Nt} (h:(ks l).Nodup) (hn:x.k ∉ ks l):(ks (l ++ [x])).Nodup:=by
 simp only [ks,amE,alD,alE]
 refine amO.mpr ⟨h,anu _ _,fun p hp q hq=>?_⟩
 rw [amA] at hq;subst hq;rintro rfl;exact hn hp
theorem Ti {l:List Nt} {x:Nt}:(upd l x).length ≤ l.length + 1:=by
 rcases qw l x with ⟨-,hu⟩ | ⟨a,y,c,rfl, -, -,hu⟩ <;> rw [hu] <;> simp
theorem Tj {l:List Nt} {x y:Nt} (h:y ∈ upd l x):y = x ∨ y ∈ l:=by
 rcases qw l x with ⟨-,hu⟩ | ⟨a,z,c,rfl, -, -,hu⟩ <;> rw [hu] at h <;> simp at h ⊢
 ·rcases h with h | h <;> simp [h]
 ·rcases h with h | h | h <;> simp [h]
theorem zU : ∀ {g:List Qn} {l:List Nt},(g.foldl rid l).Sublist l
 | [],l=>anv _
 | a :: g,l=>(zU (g:=g)).trans qo
abbrev Nv.v (s:Nv):AV:=.one (.ptr [.f (.int .i64 s.room),.mp ER (s.m.map ent),.f (.sl (s.o.map rQ)),.f (.int .i64 s.ch)])
abbrev Rn.v (s:Rn):AV:=.agg [.f (.int .i64 s.room),.f (.sl (s.l.map rN)),.f (.int .i64 s.ch)]
def nvo : Option Nv → AV
 | some s=>s.v
 | none=>.one .iW
theorem OZ (s:Nv):nvo (some s) = s.v:=rfl
end
section
attribute [local go_sem_proc] Nat.reduceAdd Nat.reduceMul Nat.reduceEqDiff Nat.reduceBEq Nat.reduceMod Nat.reduceDiv reduceCtorEq
attribute [local go_sem_proc ↓] reduceIte
open Go Ev
variable {ext : Env} {F n:Nat} {θ:Th} {gt:ByteArray → Int → Int → Int × Bool}
structure zV (gt:ByteArray → Int → Int → Int × Bool) (ext:Env):Prop where
 og:∀ s a z,s.size ≤ 1000000 → ext 117 [vs s,vi a,vi z] = some ([vi (gt s a z).1,vb (gt s a z).2],[vs s,vi a,vi z])
 rg:∀ s a z,s.size ≤ 1000000 → ext 120 [vs s,vi a,vi z] = some ([vi (gt s a z).1,vb (gt s a z).2],[vs s,vi a,vi z])
 nn:∀ s a z,0 ≤ (gt s a z).1
theorem acr (O:zV gt ext) (s:ByteArray) (a z:Int) (h:s.size ≤ 1000000):G ext F (n + 1) 117 [vs s,vi a,vi z] = some ([vi (gt s a z).1,vb (gt s a z).2],[vs s,vi a,vi z]):=(amx (kY rfl) _).trans (O.og s a z h)
theorem acs (O:zV gt ext) (s:ByteArray) (a z:Int) (h:s.size ≤ 1000000):G ext F (n + 1) 120 [vs s,vi a,vi z] = some ([vi (gt s a z).1,vb (gt s a z).2],[vs s,vi a,vi z]):=(amx (kY rfl) _).trans (O.rg s a z h)
theorem Tk (room:Int):G ext F (n + 1) 49 [vi room] = some ([nvo (if room < 1 ∨ 1000 < room then none else some ⟨room,[],[],0⟩)],[vi room]):=by
 refine cZ (cf:=c49) rfl ?_
 dsimp only [c49,av,dB,bE,bM,aW,bZ,dS,eu,dH,aH,dn,dh,bU,bn];simp only [go_sem]
 repeat' (refine bQ (fun h=>?_) (fun h=>?_) <;> simp only [h,go_sem])
 all_goals (simp only [alL,alS] at *)
 all_goals first | rw [alx (by omega)] | rw [aly (by omega)]
 all_goals rfl
theorem O1 (room:Int):G ext F (n + 1) 53 [vi room] = some ([Rn.v ⟨if room < 1 ∨ 1000 < room then 0 else room,[],0⟩],[vi room]):=by
 refine cZ (cf:=c53) rfl ?_
 dsimp only [c53,av,dB,bE,bM,aW,bZ,dS,eu,dH,aH,dn,dh,bU,bn];simp only [go_sem]
 repeat' (refine bQ (fun h=>?_) (fun h=>?_) <;> simp only [h,go_sem])
 all_goals (simp only [alL,alS] at *)
 all_goals first | rw [alx (by omega)] | rw [aly (by omega)]
 all_goals rfl
theorem pU (C:pO ext) (x:Nt) (hx:x.s.d.length ≤ 1000000):G ext F (n + 2) 90 [x.v] = some ([x.v],[x.v]):=by
 refine cZ (cf:=c90) rfl ?_
 have h1:=fun n=>Wj (F:=F) (n:=n) C x.s.d hx
 dsimp only [c90,av,dB,bE,bM,aW,bZ,dS,eu,dH,aH,dn,dh,bU,bn];simp only [h1,go_sem]
theorem Gc (k:Qn):G ext F (n + 1) 89 [k.v] = some ([vq k.q 0 k.c],[k.v]):=by
 refine cZ (cf:=c89) rfl ?_
 dsimp only [c89,av,dB,bE,bM,aW,bZ,dS,eu,dH,aH,dn,dh,bU,bn];simp only [go_sem]
abbrev _root_.Go.Proofs.YtfokaoeinpnagaaGreat.Kc.Qn.w (k:Qn):Qn:=⟨k.q,0,k.c⟩
def _root_.Go.Proofs.YtfokaoeinpnagaaGreat.Kc.Th.ask (θ:Th) (k:Qn):Bool:=θ.key k.q k.t k.c && !decide (k.t = 0)
theorem O4 (T:θ.Ok ext) (k:Qn) (hq:k.q.size ≤ 1000000):G ext F (n + 2) 88 [k.v] = some ([vb (θ.ask k)],[k.v]):=by
 refine cZ (cf:=c88) rfl ?_
 have h1:=fun n=>V9 (F:=F) (n:=n) T k.q hq
 have h2:=fun n=>Wd (F:=F) (n:=n) T k.q hq
 dsimp only [c88,av,dB,bE,bM,aW,bZ,dS,eu,dH,aH,dn,dh,bU,bn];simp only [h1,h2,go_sem]
 repeat' (refine bQ (fun h=>?_) (fun h=>?_) <;> simp only [h,h1,h2,go_sem])
 all_goals clear h1 h2
 all_goals simp only [alL,alS] at *
 all_goals (simp [Th.ask,Th.key, *])
 all_goals (try omega)
 all_goals (have a1:0 ≤ k.t:=by omega);(have a2:¬ k.t = 0:=by omega);simp [a1,a2]
def nH (θ:Th) (gt:ByteArray → Int → Int → Int × Bool) (x:Se):Int × Bool :=
 if θ.set x.q x.t x.c x.d x.ttl = true ∧ x.t = 6 then (if x.ttl < (gt (x.d.headD ⟨#[]⟩) ((x.d.headD ⟨#[]⟩).size - 4) 4).1 then x.ttl else (gt (x.d.headD ⟨#[]⟩) ((x.d.headD ⟨#[]⟩).size - 4) 4).1,true) else (0,false)
theorem Gd {x:Se} (h:θ.set x.q x.t x.c x.d x.ttl = true):∃ y d,x.d = y :: d:=by
 unfold Th.set at h
 rw [alL] at h
 exact anq h.2.2.2
theorem IU (T:θ.Ok ext) (O:zV gt ext) (x:Se) (hF:200000000000001 ≤ F) (hq:x.q.size ≤ 1000000) (hn:x.d.length ≤ 1000000) (hd:∀ y ∈ x.d,y.size ≤ 1000000):G ext F (n + 4) 87 [x.v] = some ([vi (nH θ gt x).1,vb (nH θ gt x).2],[x.v]):=by
 refine cZ (cf:=c87) rfl ?_
 have h1:=fun n=>Cr (F:=F) (n:=n) T x.q x.t x.c x.d x.ttl (by omega) hF hq hd
 by_cases h6:x.t = 6
 ·have h6':decide (x.t = 6) = true:=alz h6
  cases hs:θ.set x.q x.t x.c x.d x.ttl with
  | false =>
   rw [hs] at h1
   have e:nH θ gt x = (0,false):=by unfold nH;rw [hs];rfl
   rw [e]
   dsimp only [c87,av,dB,bE,bM,aW,bZ,dS,eu,dH,aH,dn,dh,bU,bn];simp only [h1,h6',go_sem]
  | true =>
   rw [hs] at h1
   obtain ⟨y,ds,hy⟩:=Gd hs
   have e:nH θ gt x = (if x.ttl < (gt y (y.size - 4) 4).1 then x.ttl else (gt y (y.size - 4) 4).1,true):=by unfold nH;rw [alx ⟨hs,h6⟩,hy];rfl
   rw [e]
   have hys:=hd y (by rw [hy];simp)
   have hw:IntKind.i64.wrap ((y.size:Int) - 4) = y.size - 4:=yE (by omega) (by omega)
   have hg:=fun n=>acr (F:=F) (n:=n) O y (y.size - 4) 4 hys
   simp only [Se.v,mY,hy,alD,dx] at h1 ⊢
   dsimp only [c87,av,dB,bE,bM,aW,bZ,dS,eu,dH,aH,dn,dh,bU,bn];simp only [h1,h6',alD,List.getElem?_cons_zero,dx,hw,hg,Int.toNat_zero,go_sem]
   exact ⟨amb _,by rw [hy];rfl⟩
 ·have h6':decide (x.t = 6) = false:=alB h6
  have e:nH θ gt x = (0,false):=by unfold nH;rw [aly (fun h=>h6 h.2)]
  rw [e]
  dsimp only [c87,av,dB,bE,bM,aW,bZ,dS,eu,dH,aH,dn,dh,bU,bn];simp only [h6',go_sem]
theorem Gf (T:θ.Ok ext) (O:zV gt ext) (x:Se) (hF:200000000000001 ≤ F) (hq:x.q.size ≤ 1000000) (hn:x.d.length ≤ 1000000) (hd:∀ y ∈ x.d,y.size ≤ 1000000):G ext F (n + 4) 98 [x.v] = some ([vi (nH θ gt x).1,vb (nH θ gt x).2],[x.v]):=by
 refine cZ (cf:=c98) rfl ?_
 have h1:=fun n=>Cq (F:=F) (n:=n) T x.q x.t x.c x.d x.ttl (by omega) hF hq hd
 cases hs:θ.set x.q x.t x.c x.d x.ttl with
 | false =>
  rw [hs] at h1
  have e:nH θ gt x = (0,false):=by unfold nH;rw [hs];rfl
  rw [e]
  dsimp only [c98,av,dB,bE,bM,aW,bZ,dS,eu,dH,aH,dn,dh,bU,bn];simp only [h1,go_sem]
 | true =>
  rw [hs] at h1
  by_cases h6:x.t = 6
  ·have h6':decide (x.t = 6) = true:=alz h6
   obtain ⟨y,ds,hy⟩:=Gd hs
   have e:nH θ gt x = (if x.ttl < (gt y (y.size - 4) 4).1 then x.ttl else (gt y (y.size - 4) 4).1,true):=by unfold nH;rw [alx ⟨hs,h6⟩,hy];rfl
   rw [e]
   have hys:=hd y (by rw [hy];simp)
   have hw:IntKind.i64.wrap ((y.size:Int) - 4) = y.size - 4:=yE (by omega) (by omega)
   have hg:=fun n=>acs (F:=F) (n:=n) O y (y.size - 4) 4 hys
   simp only [Se.v,mY,hy,alD,dx] at h1 ⊢
   dsimp only [c98,av,dB,bE,bM,aW,bZ,dS,eu,dH,aH,dn,dh,bU,bn];simp only [h1,h6',alD,List.getElem?_cons_zero,dx,hw,hg,Int.toNat_zero,go_sem]
   exact ⟨amb _,by rw [hy];rfl⟩
  ·have h6':decide (x.t = 6) = false:=alB h6
   have e:nH θ gt x = (0,false):=by unfold nH;rw [aly (fun h=>h6 h.2)]
   rw [e]
   dsimp only [c98,av,dB,bE,bM,aW,bZ,dS,eu,dH,aH,dn,dh,bU,bn];simp only [h1,h6',go_sem]
end
section
attribute [local go_sem_proc] Nat.reduceAdd Nat.reduceMul Nat.reduceEqDiff Nat.reduceBEq Nat.reduceMod Nat.reduceDiv reduceCtorEq
attribute [local go_sem_proc ↓] reduceIte
open Go Ev
variable {ext : Env} {F n:Nat} {θ:Th} {gt:ByteArray → Int → Int → Int × Bool}
theorem Ee {a b:Qn}:a = b ↔ a.q = b.q ∧ a.t = b.t ∧ a.c = b.c:=by cases a;cases b;simp
def Ka (l:List Nt) (k:Qn):List Nt:=l.filter fun x=>decide (x.k ≠ k)
theorem O5 {l:List Nt} {k:Qn} {i:Nat} {x:Nt} (h:l[i]? = some x):Ka (l.take (i + 1)) k = Ka (l.take i) k ++ if x.k = k then [] else [x]:=by
 unfold Ka
 rw [al7,h,List.filter_append]
 by_cases hk:x.k = k <;> simp [hk]
theorem Ke {l:List Nt} {k:Qn}:(Ka l k).length ≤ l.length:=List.length_filter_le ..
theorem Gg (l:List Nt) (k:Qn) (hl:l.length ≤ 1000000000) (hF:200000000000001 ≤ F):G ext F (n + 1) 100 [vl (l.map rN),k.v] = some ([.one (.own 10 ((Ka l k).map rN))],[vl (l.map rN),k.v]):=by
 refine cZ (cf:=SH) rfl ?_
 dsimp only [SH,av,dB,bE,bM,aW,bZ,dS,eu,dH,aH,dn,dh,bU,bn];simp only [go_sem]
 refine gZ l.length (fun i=>⟨[(0,PV.c (CV.one (PL.f (FV.sl (List.map rN l))))),(3,PV.c (CV.one (PL.ptr 80000 0))),(5,PV.c (CV.one (PL.own 120000 ((Ka (l.take i) k).map rN).length))),(6,PV.c (CV.one (PL.f (FV.int IntKind.i64 i))))],[(80000,Ob.gM [PL.f (FV.str k.q),PL.f (FV.int IntKind.i64 k.t),PL.f (FV.int IntKind.i64 k.c)]),(120000,Ob.row 10 ((Ka (l.take i) k).map rN))]⟩) (fun i=>True) (by omega) (by rw [show Ka (List.take 0 l) k = [] by simp [Ka]];rfl) trivial (fun i hi hP=>?_) (fun hP=>?_)
 ·obtain ⟨x,hx,hd,ht,h0⟩:=at_ hi
  have hn:=nx hi (alU hl (by decide))
  have hw:(Ka (l.take i) k).length ≤ i:=alU Ke (by simp;omega)
  simp only [alA,alG,hd,hx,ht,h0,rN,go_sem]
  repeat' (refine bQ (fun h=>?_) (fun h=>?_) <;> simp only [h,alA,alG,hd,hx,ht,h0,hn,rN,go_sem])
  all_goals (rw [O5 hx];simp only [alL,alS] at h)
  ·rw [alx (Ee.mpr h)];simp
  ·rw [aly (fun e=>h (Ee.mp e)),amE,alX];exact ⟨by omega,rfl⟩
 ·have hd:=@end_ _ l
  simp only [alA,hd,go_sem]
  repeat' (refine bQ (fun h=>?_) (fun h=>?_) <;> simp only [h,alA,hd,go_sem])
  rw [al3]
def Na (l:List Nt) (now:Int) (k:Qn):Option Nt:=l.find? fun x=>decide (x.k = k) && eY now x.u
theorem O6 {l:List Nt} {now:Int} {k:Qn} (h:∀ x ∈ l,¬ (x.k = k ∧ eY now x.u = true)):Na l now k = none:=by
 unfold Na
 rw [anC]
 intro x hx
 have:=h x hx
 simpa using this
theorem YJ {l:List Nt} {now:Int} {k:Qn} {i:Nat} {x:Nt} (h:∀ x ∈ l.take i,¬ (x.k = k ∧ eY now x.u = true)) (hx:l[i]? = some x) (hk:x.k = k) (hv:eY now x.u = true):Na l now k = some x:=by
 have hi:=amm.mp hx
 have e:l = l.take i ++ x :: l.drop (i + 1):=by
  rw [← hi.2,List.getElem_cons_drop,ank]
 unfold Na
 rw [e,anp]
 have:(l.take i).find? (fun x=>decide (x.k = k) && eY now x.u) = none:=O6 h
 rw [this,List.find?_cons]
 simp [hk,hv]
def Ro (o:Option Nt):Nt × Bool:=match o with
 | some x=>(x,true)
 | none=>(nt0,false)
theorem O7 (s:Rn) (now:Int) (k:Qn) (hl:s.l.length ≤ 1000000000) (hF:200000000000001 ≤ F):G ext F (n + 3) 106 [s.v,vi now,k.v] = some ([(Ro (Na s.l now k)).1.v,vb (Ro (Na s.l now k)).2],[s.v,vi now,k.v]):=by
 refine cZ (cf:=SI) rfl ?_
 dsimp only [SI,av,dB,bE,bM,aW,bZ,dS,eu,dH,aH,dn,dh,bU,bn];simp only [go_sem]
 refine gZ s.l.length (fun i=>⟨[(1,PV.c (CV.one (PL.f (FV.int IntKind.i64 now)))),(3,PV.c (CV.one (PL.ptr 80000 0))),(5,PV.c (CV.one (PL.ptr 120000 0))),(6,PV.c (CV.one (PL.ptr 140000 0))),(8,PV.c (CV.one (PL.f (FV.int IntKind.i64 i))))],[(80000,Ob.gM [PL.f (FV.int IntKind.i64 s.room),PL.f (FV.sl (List.map rN s.l)),PL.f (FV.int IntKind.i64 s.ch)]),(120000,Ob.gM [PL.f (FV.str k.q),PL.f (FV.int IntKind.i64 k.t),PL.f (FV.int IntKind.i64 k.c)]),(140000,Ob.gM [PL.f (FV.str ⟨#[]⟩),PL.f (FV.int IntKind.i64 0),PL.f (FV.int IntKind.i64 0),PL.f (FV.bool false),PL.f (FV.str ⟨#[]⟩),PL.f (FV.int IntKind.i64 0),PL.f (FV.int IntKind.i64 0),PL.dz,PL.f (FV.int IntKind.i64 0),PL.f (FV.int IntKind.i64 0)])]⟩) (fun i=>∀ x ∈ s.l.take i,¬ (x.k = k ∧ eY now x.u = true)) (by omega) rfl (by simp) (fun i hi hP=>?_) (fun hP=>?_)
 ·obtain ⟨x,hx,hd,ht,h0⟩:=at_ hi
  have hn:=nx hi (alU hl (by decide))
  simp only [alA,alG,hd,hx,ht,h0,rN,jI,go_sem]
  repeat' (refine bQ (fun h=>?_) (fun h=>?_) <;> simp only [h,alA,alG,hd,hx,ht,h0,hn,rN,jI,go_sem])
  ·rw [YJ hP hx (Ee.mpr (alQ (by assumption))) h];rfl
  ·exact all_succ hP hx (fun e=>by rw [h] at e;cases e.2)
  ·exact all_succ hP hx (fun e=>of_decide_eq_false h (Ee.mp e.1))
 ·have hd:=@end_ _ s.l
  rw [al3] at hP
  simp only [alA,hd,go_sem]
  repeat' (refine bQ (fun h=>?_) (fun h=>?_) <;> simp only [h,alA,hd,go_sem])
  rw [O6 hP];rfl
def iE (s:Rn) (now:Int) (k:Qn):Nt × Bool:=match Na s.l now k.w with
 | some x=>(x,true)
 | none=>Ro (Na s.l now k)
theorem O8 (s:Rn) (now:Int) (k:Qn) (hl:s.l.length ≤ 1000000000) (hF:200000000000001 ≤ F):G ext F (n + 4) 62 [s.v,vi now,k.v] = some ([(iE s now k).1.v,vb (iE s now k).2],[s.v,vi now,k.v]):=by
 refine cZ (cf:=c62) rfl ?_
 have h1:=fun n=>O7 (ext:=ext) (F:=F) (n:=n) s now k.w hl hF
 have h2:=fun n=>O7 (ext:=ext) (F:=F) (n:=n) s now k hl hF
 unfold iE
 cases h:Na s.l now k.w with
 | none =>
  rw [h] at h1
  simp only [Ro,nt0,alE] at h1
  dsimp only [c62,av,dB,bE,bM,aW,bZ,dS,eu,dH,aH,dn,dh,bU,bn];simp only [h1,h2,go_sem]
 | some x =>
  rw [h] at h1
  simp only [Ro] at h1
  dsimp only [c62,av,dB,bE,bM,aW,bZ,dS,eu,dH,aH,dn,dh,bU,bn];simp only [h1,go_sem]
abbrev kn (nx:Bool) (k:Qn):Qn:=if nx then k.w else k
def Bv (room:Int) (l:List Nt):List Nt:=if room < l.length then l.drop 1 else l
def _root_.Go.Proofs.YtfokaoeinpnagaaGreat.Kc.Th.narg (θ:Th) (gt:ByteArray → Int → Int → Int × Bool) (s:Rn) (now:Int) (k:Qn) (x:Se):Prop:=s.room = 0 ∨ D8 now = false ∨ (nH θ gt x).2 = false ∨ θ.key k.q k.t k.c = false ∨ k.t = 0
instance {s : Rn} {now:Int} {k:Qn} {x:Se}:Decidable (θ.narg gt s now k x):=by unfold Th.narg;infer_instance
def nW (θ:Th) (gt:ByteArray → Int → Int → Int × Bool) (s:Rn) (now:Int) (k:Qn) (nx:Bool) (x:Se):Rn × Int :=
 if θ.narg gt s now k x then (s,1)
 else if eY now (cu now (nH θ gt x).1) = false then (s,14)
 else (⟨s.room,Bv s.room (Ka s.l (kn nx k) ++ [⟨kn nx k,nx,x,cu now (nH θ gt x).1⟩]),s.ch + 1⟩,0)
theorem Kg {s:Rn} {now:Int} {k:Qn} {nx:Bool} {x:Se} (h:θ.narg gt s now k x):nW θ gt s now k nx x = (s,1):=alx h
theorem Gh {s:Rn} {now:Int} {k:Qn} {nx:Bool} {x:Se} (h:¬ θ.narg gt s now k x) (h2:eY now (cu now (nH θ gt x).1) = false):nW θ gt s now k nx x = (s,14):=by unfold nW;rw [aly h,alx h2]
theorem vH {s:Rn} {now:Int} {k:Qn} {nx:Bool} {x:Se} {l:List Nt} (h:¬ θ.narg gt s now k x) (h2:eY now (cu now (nH θ gt x).1) = true) (hl:Bv s.room (Ka s.l (kn nx k) ++ [⟨kn nx k,nx,x,cu now (nH θ gt x).1⟩]) = l):nW θ gt s now k nx x = (⟨s.room,l,s.ch + 1⟩,0):=by
 subst hl;unfold nW;rw [aly h,aly (by rw [h2];decide)]
theorem O9 {room:Int} {l:List Nt} {x:Nt} (h:room < ((l.length + 1:Nat):Int)):Bv room (l ++ [x]) = (l ++ [x]).drop 1:=by
 unfold Bv;rw [alx (by simpa using h)]
theorem Pb {room:Int} {l:List Nt} {x:Nt} (h:¬ room < ((l.length + 1:Nat):Int)):Bv room (l ++ [x]) = l ++ [x]:=by
 unfold Bv;rw [aly (by simpa using h)]
theorem Ct {a:List (List FV)} {b:List FV} {n:Nat} (h:a.length = n):List.take (n + 1 - Int.toNat 1) (List.drop (Int.toNat 1) (a ++ [b])) = (a ++ [b]).drop 1:=by
 rw [show Int.toNat 1 = 1 from rfl,am7 (by simp [h])]
theorem Pf (T:θ.Ok ext) (O:zV gt ext) (s:Rn) (now:Int) (k:Qn) (nx:Bool) (x:Se) (hl:s.l.length ≤ 1000000) (hF:200000000000001 ≤ F) (hc:0 ≤ s.ch ∧ s.ch ≤ 1000000000000) (hk:k.q.size ≤ 1000000) (hq:x.q.size ≤ 1000000) (hn:x.d.length ≤ 1000000) (hd:∀ y ∈ x.d,y.size ≤ 1000000):G ext F (n + 5) 55 [s.v,vi now,k.v,vb nx,x.v] = some ([(nW θ gt s now k nx x).1.v,vi (nW θ gt s now k nx x).2],[s.v,vi now,k.v,vb nx,x.v]):=by
 refine cZ (cf:=c55) rfl ?_
 have h1:=fun n=>Gf (F:=F) (n:=n) T O x hF hq hn hd
 have h2:=fun n=>F7 (ext:=ext) (F:=F) (n:=n) T k.q k.t k.c hk
 have h3:=fun n=>Gg (ext:=ext) (F:=F) (n:=n) s.l (kn nx k) (by omega) hF
 have hr:=@Ke s.l (kn nx k)
 have hw:IntKind.i64.wrap (s.ch + 1) = s.ch + 1:=yE (by omega) (by omega)
 have hsz:((Ka s.l (kn nx k)).length + 1) * 112 ≤ 140737488355328:=by omega
 generalize hm1:(nH θ gt x).1 = m1 at h1
 cases hm2:(nH θ gt x).2 with
 | false =>
  rw [hm2] at h1
  have e:nW θ gt s now k nx x = (s,1):=by unfold nW;exact alx (.inr (.inr (.inl hm2)))
  rw [e]
  dsimp only [c55,av,dB,bE,bM,aW,bZ,dS,eu,dH,aH,dn,dh,bU,bn];simp only [h1,kT,go_sem]
  repeat' (refine bQ (fun h=>?_) (fun h=>?_) <;> simp only [h,h1,kT,go_sem])
 | true =>
  rw [hm2] at h1
  cases nx
  all_goals
   simp only [kn,ama,alV,al4] at h3 hr hsz
   dsimp only [c55,av,dB,bE,bM,aW,bZ,dS,eu,dH,aH,dn,dh,bU,bn];simp only [h1,h2,h3,kT,nN,jI,go_sem]
   repeat' (refine bQ (fun h=>?_) (fun h=>?_) <;> simp only [h,h1,h2,h3,kT,nN,jI,alX,alA,hw,hsz,go_sem])
  all_goals clear h1 h2 h3
  all_goals simp only [alL,alS] at *
  all_goals first
   | (rw [Kg (by unfold Th.narg;simp [*])];done)
   | (rw [Gh (by unfold Th.narg;simp [*]) (by rw [hm1];assumption)];done)
   | (rw [vH (nx:=false) (by unfold Th.narg;simp [*]) (by rw [hm1];assumption) (O9 (by simp only [kn,ama,alV,al4];omega))];refine ⟨by omega,?_⟩;rw [Ct (alA _)];simp [rN,hm1,kn])
   | (rw [vH (nx:=false) (by unfold Th.narg;simp [*]) (by rw [hm1];assumption) (Pb (by simp only [kn,ama,alV,al4];omega))];try (simp [rN,hm1,kn]);done)
   | (rw [vH (nx:=true) (by unfold Th.narg;simp [*]) (by rw [hm1];assumption) (O9 (by simp only [kn,ama,alV,al4];omega))];refine ⟨by omega,?_⟩;rw [Ct (alA _)];simp [rN,hm1,kn])
   | (rw [vH (nx:=true) (by unfold Th.narg;simp [*]) (by rw [hm1];assumption) (Pb (by simp only [kn,ama,alV,al4];omega))];try (simp [rN,hm1,kn]);done)
end
section
attribute [local go_sem_proc] Nat.reduceAdd Nat.reduceMul Nat.reduceEqDiff Nat.reduceBEq Nat.reduceMod Nat.reduceDiv reduceCtorEq
attribute [local go_sem_proc ↓] reduceIte
open Go Ev
variable {ext : Env} {F n:Nat} {θ:Th} {gt:ByteArray → Int → Int → Int × Bool}
def nof (m:List Nt) (now:Int) (k:Qn):Option Nt:=match old m k with
 | some x=>if eY now x.u then some x else none
 | none=>none
def gF (s:Nv) (now:Int) (k:Qn):Nt × Bool:=match nof s.m now k.w with
 | some x=>(x,true)
 | none=>Ro (nof s.m now k)
theorem IV (now:Int) (k:Qn):G ext F (n + 3) 103 [.one .iW,vi now,k.v] = some ([nt0.v,vb false],[.one .iW,vi now,k.v]):=by
 refine cZ (cf:=LJ) rfl ?_
 dsimp only [LJ,av,dB,bE,bM,aW,bZ,dS,eu,dH,aH,dn,dh,bU,bn];simp only [go_sem]
 rfl
theorem Pg (C:pO ext) (s:Nv) (now:Int) (k:Qn) (hF:200000000000001 ≤ F) (hd:∀ x ∈ s.m,x.s.d.length ≤ 1000000):G ext F (n + 3) 103 [s.v,vi now,k.v] = some ([(gF s now k).1.v,vb (gF s now k).2],[s.v,vi now,k.v]):=by
 refine cZ (cf:=LJ) rfl ?_
 have hw:=fun n=>Gc (ext:=ext) (F:=F) (n:=n) k
 dsimp only [LJ,av,dB,bE,bM,aW,bZ,dS,eu,dH,aH,dn,dh,bU,bn];simp only [hw,go_sem]
 refine gZ 2 (fun i=>⟨[(0,PV.c (CV.one (PL.ptr 20201 0))),(1,PV.c (CV.one (PL.f (FV.int IntKind.i64 now)))),(6,PV.c (CV.one (PL.ptr 140000 0))),(18,PV.c (CV.one (PL.own 380000 2))),(19,PV.c (CV.one (PL.f (FV.int IntKind.i64 ((2:Nat):Int))))),(20,PV.c (CV.one (PL.f (FV.int IntKind.i64 (i:Int)))))],[(20201,Ob.gM [PL.f (FV.int IntKind.i64 s.room),PL.mp 20205,PL.f (FV.sl (List.map rQ s.o)),PL.f (FV.int IntKind.i64 s.ch)]),(20205,Ob.map ER (List.map ent s.m)),(140000,Ob.gM [PL.f (FV.str ⟨#[]⟩),PL.f (FV.int IntKind.i64 0),PL.f (FV.int IntKind.i64 0),PL.f (FV.bool false),PL.f (FV.str ⟨#[]⟩),PL.f (FV.int IntKind.i64 0),PL.f (FV.int IntKind.i64 0),PL.dz,PL.f (FV.int IntKind.i64 0),PL.f (FV.int IntKind.i64 0)]),(380000,Ob.row 3 [[FV.str k.q,FV.int IntKind.i64 0,FV.int IntKind.i64 k.c],[FV.str k.q,FV.int IntKind.i64 k.t,FV.int IntKind.i64 k.c]])]⟩) (fun i=>(1 ≤ i → nof s.m now k.w = none) ∧ (2 ≤ i → nof s.m now k = none)) (by omega) rfl ⟨by omega,by omega⟩ (fun i hi hP=>?_) (fun hP=>?_)
 ·rcases (show i = 0 ∨ i = 1 by omega) with rfl | rfl
  ·skip
   have hlt:decide (((0:Nat):Int) < ((2:Nat):Int)) = true:=by decide
   have ht:((0:Nat):Int).toNat = 0:=rfl
   have h0:(0:Int) ≤ ((0:Nat):Int):=by decide
   have hn':IntKind.i64.wrap (((0:Nat):Int) + 1) = ((0 + 1:Nat):Int):=by rw [yE (by omega) (by omega)];rfl
   have hk1:=rD s.m k.w
   simp only [kq] at hk1
   have hcl:=fun n x hx=>pU (F:=F) (n:=n) C x hx
   cases hold:old s.m k.w with
   | none =>
    rw [hold] at hk1
    simp only [hlt,ht,h0,hn',List.getElem?_cons_zero,List.getElem?_cons_succ,hk1,Option.map_none,Option.isSome_none,go_sem]
    first | exact ⟨by decide,fun _=>by unfold nof;simp [hold, *],by omega⟩ | exact ⟨by decide,rfl,fun _=>by unfold nof;simp [hold, *],by omega⟩
   | some x =>
    rw [hold] at hk1
    have hcl:=fun n=>pU (F:=F) (n:=n) C x (hd x (ku hold).2)
    cases hv:eY now x.u with
    | false =>
     simp only [hlt,ht,h0,hn',List.getElem?_cons_zero,List.getElem?_cons_succ,hk1,Option.map_some,Option.isSome_some,rN,kr,hv,go_sem]
     first | exact ⟨by decide,fun _=>by unfold nof;simp [hold, *],by omega⟩ | exact ⟨by decide,rfl,fun _=>by unfold nof;simp [hold, *],by omega⟩
    | true =>
     simp only [hlt,ht,h0,hn',List.getElem?_cons_zero,List.getElem?_cons_succ,hk1,Option.map_some,Option.isSome_some,rN,kr,hv,hcl,go_sem]
     have e:gF s now k = (x,true):=by unfold gF nof;rw [hold];simp [hv]
     rw [e]
     exact ⟨by decide,rfl⟩
  ·have hp:=hP.1 (by decide)
   have hlt:decide (((1:Nat):Int) < ((2:Nat):Int)) = true:=by decide
   have ht:((1:Nat):Int).toNat = 1:=rfl
   have h0:(0:Int) ≤ ((1:Nat):Int):=by decide
   have hn':IntKind.i64.wrap (((1:Nat):Int) + 1) = ((1 + 1:Nat):Int):=by rw [yE (by omega) (by omega)];rfl
   have hk1:=rD s.m k
   simp only [kq] at hk1
   have hcl:=fun n x hx=>pU (F:=F) (n:=n) C x hx
   cases hold:old s.m k with
   | none =>
    rw [hold] at hk1
    simp only [hlt,ht,h0,hn',List.getElem?_cons_zero,List.getElem?_cons_succ,hk1,Option.map_none,Option.isSome_none,go_sem]
    first | exact ⟨by decide,fun _=>hp,fun _=>by unfold nof;simp [hold, *]⟩ | exact ⟨by decide,rfl,fun _=>hp,fun _=>by unfold nof;simp [hold, *]⟩
   | some x =>
    rw [hold] at hk1
    have hcl:=fun n=>pU (F:=F) (n:=n) C x (hd x (ku hold).2)
    cases hv:eY now x.u with
    | false =>
     simp only [hlt,ht,h0,hn',List.getElem?_cons_zero,List.getElem?_cons_succ,hk1,Option.map_some,Option.isSome_some,rN,kr,hv,go_sem]
     first | exact ⟨by decide,fun _=>hp,fun _=>by unfold nof;simp [hold, *]⟩ | exact ⟨by decide,rfl,fun _=>hp,fun _=>by unfold nof;simp [hold, *]⟩
    | true =>
     simp only [hlt,ht,h0,hn',List.getElem?_cons_zero,List.getElem?_cons_succ,hk1,Option.map_some,Option.isSome_some,rN,kr,hv,hcl,go_sem]
     have e:gF s now k = (x,true):=by unfold gF;rw [hp];unfold nof;rw [hold];simp [hv,Ro]
     rw [e]
     exact ⟨by decide,rfl⟩
 ·have hp1:=hP.1 (by decide)
  have hp2:=hP.2 (by decide)
  have hlt:decide (((2:Nat):Int) < ((2:Nat):Int)) = false:=by decide
  have e:gF s now k = (nt0,false):=by unfold gF;rw [hp1,hp2];rfl
  rw [e]
  simp only [hlt,go_sem]
  rfl
def nX (θ:Th) (gt:ByteArray → Int → Int → Int × Bool) (s:Nv) (now:Int) (k:Qn) (nx:Bool) (x:Se):Nv × Int :=
 if (nH θ gt x).2 = false ∨ cu now (nH θ gt x).1 = -1 ∨ θ.ask k = false then (s,1)
 else if eY now (cu now (nH θ gt x).1) = false then (s,14)
 else
  let t:=qP s.o (kn nx k) ++ [kn nx k]
  (⟨s.room,(t.take (t.length - s.room.toNat)).foldl rid (upd s.m ⟨kn nx k,nx,x,cu now (nH θ gt x).1⟩),t.drop (t.length - s.room.toNat),s.ch + 1⟩,0)
theorem Tm (T:θ.Ok ext) (O:zV gt ext) (C:pO ext) (s:Nv) (now:Int) (k:Qn) (mF:Bool) (x:Se) (hF:200000000000001 ≤ F) (hr1:0 ≤ s.room ∧ s.room ≤ 1000000) (hc:0 ≤ s.ch ∧ s.ch ≤ 1000000000000) (ho:s.o.length ≤ 100000) (hk:k.q.size ≤ 1000000) (hq:x.q.size ≤ 1000000) (hn:x.d.length ≤ 1000000) (hd:∀ y ∈ x.d,y.size ≤ 1000000):G ext F (n + 6) 51 [s.v,vi now,k.v,vb mF,x.v] = some ([vi (nX θ gt s now k mF x).2],[(nX θ gt s now k mF x).1.v,vi now,k.v,vb mF,x.v]):=by
 refine cZ (cf:=c51) rfl ?_
 have h1:=fun n=>IU (F:=F) (n:=n) T O x hF hq hn hd
 have h2:=fun n=>O4 (F:=F) (n:=n) T k hk
 have hu:=fun n t=>zQ (ext:=ext) (F:=F) (n:=n) now t
 cases hm2:(nH θ gt x).2 with
 | false =>
  rw [hm2] at h1
  have e:nX θ gt s now k mF x = (s,1):=by unfold nX;exact alx (.inl hm2)
  rw [e]
  dsimp only [c51,av,dB,bE,bM,aW,bZ,dS,eu,dH,aH,dn,dh,bU,bn];simp only [h1,hu,go_sem]
 | true =>
 rw [hm2] at h1
 by_cases hun:cu now (nH θ gt x).1 = -1
 ·have e:nX θ gt s now k mF x = (s,1):=by unfold nX;exact alx (.inr (.inl hun))
  rw [e]
  have hun':decide (cu now (nH θ gt x).1 = -1) = true:=alz hun
  dsimp only [c51,av,dB,bE,bM,aW,bZ,dS,eu,dH,aH,dn,dh,bU,bn];simp only [h1,hu,hun',go_sem]
 have hun':decide (cu now (nH θ gt x).1 = -1) = false:=alB hun
 cases ha:θ.ask k with
 | false =>
  have e:nX θ gt s now k mF x = (s,1):=by unfold nX;exact alx (.inr (.inr ha))
  rw [e]
  rw [ha] at h2
  dsimp only [c51,av,dB,bE,bM,aW,bZ,dS,eu,dH,aH,dn,dh,bU,bn];simp only [h1,h2,hu,hun',go_sem]
 | true =>
 rw [ha] at h2
 have hno:¬ ((nH θ gt x).2 = false ∨ cu now (nH θ gt x).1 = -1 ∨ θ.ask k = false):=by rw [hm2,ha];simp [hun]
 cases hl:eY now (cu now (nH θ gt x).1) with
 | false =>
  have e:nX θ gt s now k mF x = (s,14):=by unfold nX;rw [aly hno,alx hl]
  rw [e]
  dsimp only [c51,av,dB,bE,bM,aW,bZ,dS,eu,dH,aH,dn,dh,bU,bn];simp only [h1,h2,hu,hun',kr,hl,go_sem]
 | true =>
 have e:nX θ gt s now k mF x = (⟨s.room,((qP s.o (kn mF k) ++ [kn mF k]).take ((qP s.o (kn mF k) ++ [kn mF k]).length - s.room.toNat)).foldl rid (upd s.m ⟨kn mF k,mF,x,cu now (nH θ gt x).1⟩),(qP s.o (kn mF k) ++ [kn mF k]).drop ((qP s.o (kn mF k) ++ [kn mF k]).length - s.room.toNat),s.ch + 1⟩,0):=by
  unfold nX;rw [aly hno,aly (by rw [hl];decide)]
 rw [e]
 have hu':=fun n=>hu n (nH θ gt x).1
 generalize cu now (nH θ gt x).1 = u at hu' hun' hl ⊢
 have hw:IntKind.i64.wrap (s.ch + 1) = s.ch + 1:=yE (by omega) (by omega)
 have hwh:=fun n=>Gc (ext:=ext) (F:=F) (n:=n) k
 have hcl:=fun n=>pU (ext:=ext) (F:=F) (n:=n) C ⟨kn mF k,mF,x,u⟩ hn
 have hqq:=@vE s.o (kn mF k)
 have ht:=fun n=>F9 (ext:=ext) (F:=F) (n:=n) C s.o (kn mF k) (by omega) hF
 have hct:=fun n=>OV (ext:=ext) (F:=F) (n:=n) C (qP s.o (kn mF k) ++ [kn mF k]) s.room (by simp;omega) (by omega) hF
 have hup:=zT s.m ⟨kn mF k,mF,x,u⟩
 simp only [kq,rN] at hup
 generalize hqt:qP s.o (kn mF k) ++ [kn mF k] = t at ht hct ⊢
 generalize t.drop (t.length - s.room.toNat) = td at hct ⊢
 generalize htt:t.take (t.length - s.room.toNat) = tt at hct ⊢
 have htl:tt.length ≤ 1000000:=by rw [← htt,alP,← hqt,alX,List.length_singleton];omega
 generalize hM:upd s.m ⟨kn mF k,mF,x,u⟩ = M at hup ⊢
 cases mF
 all_goals
  simp only [kn,ama,alV,al4] at hup ht hct hcl
  dsimp only [c51,av,dB,bE,bM,aW,bZ,dS,eu,dH,aH,dn,dh,bU,bn];simp only [h1,h2,hu',hun',kr,hl,hwh,hcl,ht,hct,hup,hw,go_sem]
  refine gZ tt.length (fun i=>⟨[(0,PV.c (CV.one (PL.ptr 20201 0))),(14,PV.c (CV.one (PL.f (FV.sl (List.map rQ td))))),(75,PV.c (CV.one (PL.f (FV.sl (List.map rQ tt))))),(76,PV.c (CV.one (PL.f (FV.int IntKind.i64 ↑(List.map rQ tt).length)))),(77,PV.c (CV.one (PL.f (FV.int IntKind.i64 i))))],[(20201,Ob.gM [PL.f (FV.int IntKind.i64 s.room),PL.mp 20205,PL.f (FV.sl (List.map rQ s.o)),PL.f (FV.int IntKind.i64 s.ch)]),(20205,Ob.map ER (((tt.take i).foldl rid M).map ent))]⟩) (fun _=>True) (by omega) rfl trivial (fun i hi _=>?_) (fun _=>?_)
  ·obtain ⟨k',hx,hlt,hit,h00⟩:=at_ hi
   have hn':=nx hi (by omega)
   have hdl:=zS ((tt.take i).foldl rid M) k'
   have hfo:(tt.take (i + 1)).foldl rid M = rid ((tt.take i).foldl rid M) k':=by rw [al7,hx,anb];rfl
   simp only [alA,alG,hlt,hx,hit,h00,hn',rQ,hdl,go_sem]
   rw [hfo]
  ·have hd:=@end_ _ tt
   simp only [alA,hd,hw,al3,go_sem]
end
end Go.Proofs.YtfokaoeinpnagaaGreat.Kc.Ne
namespace Go.Proofs.YtfokaoeinpnagaaGreat.Ev
open Go
section
variable {Γ : Env} {F s sm:Nat} {ks os k6:List Nat} {g4 g6:List G} {ca cb cc:CC} {cf:CF} {gN:List AV} {oG:List CV} {σ:St} {kk:KV}
def rgK : Out → (Unit → Prop) → (Unit → Prop) → Prop
 | .ret,A,_=>A ()
 | .jP,_,B=>B ()
 | .ext _,_,_=>False
@[go_sem] theorem afs {A B:Unit → Prop}:rgK .ret A B ↔ A ():=alM
@[go_sem] theorem aft {A B:Unit → Prop}:rgK .jP A B ↔ B ():=alM
def kB : Option Ob → Option (List KV)
 | some (.map _ ents)=>some (ents.map (·.1))
 | _=>none
def kA (os:List Nat) (ob:List (Nat × Ob)):Option PV → Option (List KV)
 | some (.c (.one (.mp key)))=>if os.contains key then none else kB (get ob key)
 | _=>none
@[go_sem] theorem aif {sh:KS} {ents:List (KV × FC)}:kB (some (.map sh ents)) = some (ents.map (·.1)):=rfl
@[go_sem] theorem aaC : IY σ os s = kA os σ.ob (get σ.tm s):=rfl
@[go_sem] theorem acv : Gi ks os σ = ⟨pick ks σ.tm,pick os σ.ob⟩:=rfl
@[go_sem ↓] theorem aj1 {k:List AV × List AV → Prop} {u:Tok k}:W k u (fin cf oG gN σ) ↔ W (fun b=>W (fun l=>W (fun r=>k (r.1,b.1)) ⟨⟩ (nR cf.ro b.2 l)) ⟨⟩ (slots b.2 cf.res)) ⟨⟩ (kW σ oG gN):=by
 simp only [fin,eT,bF,dG]
@[go_sem ↓] theorem afu {k:St → Prop} {u:Tok k}:W k u (Ki Γ F ks os s g6 k6 cb σ kk) ↔ W (fun t=>W (fun p=>p.1 = .jP ∧ k (Gi ks os p.2)) ⟨⟩ (ev Γ F cb ⟨pick k6 t.tm,t.ob⟩)) ⟨⟩ (yP Γ false g6 ⟨put σ.tm s (.c (kvC kk)),σ.ob⟩):=by
 simp only [Ki,eT,bF]
 refine dN fun t=>dN fun p=>?_
 obtain ⟨o,σ'⟩:=p
 cases o <;> simp [jX,bO]
@[go_sem ↓] theorem aii {k:List AV × List AV → Prop} {u:Tok k}:W k u (acu Γ F ca g4 sm ks os s g6 k6 cb cc cf gN) ↔ gN.length = cf.np ∧ W (fun e=>W (fun p=>rgK p.1 (fun _=>W k ⟨⟩ (fin cf e.1 gN p.2)) (fun _=>W (fun t=>W (fun l=>W (fun t=>W (fun q=>(∀ id,q.1 ≠ .ext id) ∧ W k ⟨⟩ (fin cf e.1 gN q.2)) ⟨⟩ (ev Γ F cc t)) ⟨⟩ (Wn (Ki Γ F ks os s g6 k6 cb) (Gi ks os t) l)) ⟨⟩ (IY t os sm)) ⟨⟩ (yP Γ false g4 p.2))) ⟨⟩ (ev Γ F ca e.2)) ⟨⟩ (enter cf.bo 0 [] ⟨[],[]⟩ gN):=by
 simp only [acu,eT,dR,bF,ne_eq,aml]
 refine amW alM (dN fun e=>dN fun p=>?_)
 obtain ⟨o,σ'⟩:=p
 cases o with
 | ext i=>simp [jX,rgK]
 | ret=>simp only [rgK]
 | jP =>
  simp only [rgK,bF]
  refine dN fun t=>dN fun l=>dN fun t'=>dN fun q=>?_
  obtain ⟨o,σ'⟩:=q
  cases o <;> simp [jX]
end
end Go.Proofs.YtfokaoeinpnagaaGreat.Ev
namespace Go.Proofs.YtfokaoeinpnagaaGreat.Kc.Ne
open Go Ev
variable {ext : Env} {F n:Nat} {θ:Th} {gt:ByteArray → Int → Int → Int × Bool}
theorem IZ {l:List Nt} {a:Qn} (h:(ks l).Nodup):rid l a = l.filter fun x=>decide (x.k ≠ a):=by
 induction l with
 | nil=>rfl
 | cons x l ih =>
  have hc:=amw.mp h
  rw [pQ,ana]
  by_cases hx:x.k = a
  ·rw [alx hx,aly (by simp [hx])]
   exact (anA.mpr fun y hy=>by
    simp only [alL];rintro e;exact hc.1 (by rw [hx,← e];exact anh hy)).symm
  ·rw [aly hx,alx (by simpa using hx),ih hc.2]
end Go.Proofs.YtfokaoeinpnagaaGreat.Kc.Ne
namespace Go.Proofs.YtfokaoeinpnagaaGreat.Kc.Ne
open Go Ev
variable {θ : Th} {gt:ByteArray → Int → Int → Int × Bool}
structure Rl (s:Nv) (k:Rn):Prop where
 room:s.room = k.room
 ch:s.ch = k.ch
 ord:s.o = ks k.l
 kM:(ks k.l).Nodup
 IQ:(ks s.m).Nodup
 old:∀ b,old s.m b = old k.l b
 len:(k.l.length:Int) ≤ k.room
theorem Kj {l:List Nt} {now:Int} {b:Qn} (h:(ks l).Nodup):Na l now b = nof l now b:=by
 unfold Na nof
 induction l with
 | nil=>rfl
 | cons x l ih =>
  have hc:=amw.mp h
  rw [List.find?_cons,jJ]
  by_cases hx:x.k = b
  ·rw [alx hx]
   cases hv:eY now x.u with
   | true=>simp [hx,hv]
   | false =>
    have hno:b ∉ ks l:=by rw [← hx];exact hc.1
    simp only [hx,hv,anc,Bool.and_false,al4,alV]
    refine anC.mpr fun y hy=>?_
    have:y.k ≠ b:=fun e=>hno (by rw [← e];exact anh hy)
    simp [this]
  ·rw [aly hx,← ih hc.2]
   simp [hx]
theorem Pk {s:Nv} {k:Rn} (h:Rl s k) (now:Int) (b:Qn):nof s.m now b = nof k.l now b:=by
 unfold nof;rw [h.old b]
theorem Pm {s:Nv} {k:Rn} (h:Rl s k) (now:Int) (b:Qn):gF s now b = iE k now b:=by
 unfold gF iE
 rw [Kj h.kM,Kj h.kM,Pk h,Pk h]
 all_goals (cases nof k.l now b.w <;> rfl)
theorem Tn {l:List Nt} {a:Qn} (h:(ks l).Nodup):Ka l a = rid l a:=(IZ h).symm
theorem sD {now ttl:Int}:cu now ttl < 0 ↔ D8 now = false ∨ ttl < 0:=by
 unfold cu D8
 split
 ·rename_i h
  simp only [alL] at h
  simp only [alS]
  constructor
  ·intro h1;split at h1 <;> omega
  ·rintro (h1 | h1) <;> omega
 ·rename_i h
  simp only [alL] at h
  simp only [alS]
  constructor
  ·intro _;omega
  ·intro _;decide
theorem Pn {now ttl:Int}:cu now ttl = -1 ↔ cu now ttl < 0:=by
 constructor
 ·intro h;omega
 ·intro h
  have:=sD.mp h
  refine zP ?_
  rintro ⟨h1,h2⟩
  rcases this with h3 | h3
  ·unfold D8 at h3;rw [alS] at h3;exact h3 h1
  ·omega
theorem YM (hg:∀ s a z,0 ≤ (gt s a z).1) (x:Se) (h:(nH θ gt x).2 = true):0 ≤ (nH θ gt x).1:=by
 unfold nH at h ⊢
 split
 ·rename_i h1
  have:=h1.1
  unfold Th.set at this
  rw [alL] at this
  have h2:=hg (x.d.headD ⟨#[]⟩) ((x.d.headD ⟨#[]⟩).size - 4) 4
  dsimp only
  split
  ·exact this.2.2.1.1
  ·exact h2
 ·rename_i h1
  rw [aly h1] at h;cases h
theorem Gl {s:Nv} {k:Rn} (hg:∀ s a z,0 ≤ (gt s a z).1) (hr:1 ≤ k.room) {now:Int} {b:Qn} {x:Se}:((nH θ gt x).2 = false ∨ cu now (nH θ gt x).1 = -1 ∨ θ.ask b = false) ↔ θ.narg gt k now b x:=by
 unfold Th.narg Th.ask
 rw [Pn,sD]
 have hb:(θ.key b.q b.t b.c && !decide (b.t = 0)) = false ↔ θ.key b.q b.t b.c = false ∨ b.t = 0:=by
  cases θ.key b.q b.t b.c <;> simp
 rw [hb]
 constructor
 ·rintro (h | (h | h) | h | h)
  ·exact .inr (.inr (.inl h))
  ·exact .inr (.inl h)
  ·cases hm:(nH θ gt x).2 with
   | false=>exact .inr (.inr (.inl rfl))
   | true=>have:=YM (θ:=θ) hg x hm;omega
  ·exact .inr (.inr (.inr (.inl h)))
  ·exact .inr (.inr (.inr (.inr h)))
 ·rintro (h | h | h | h | h)
  ·omega
  ·exact .inr (.inl (.inl h))
  ·exact .inl h
  ·exact .inr (.inr (.inl h))
  ·exact .inr (.inr (.inr h))
theorem Tp {s:Nv} {k:Rn} (hg:∀ s a z,0 ≤ (gt s a z).1) (h:Rl s k) (hr:1 ≤ k.room) (now:Int) (b:Qn) (mF:Bool) (x:Se):(nX θ gt s now b mF x).2 = (nW θ gt k now b mF x).2 ∧ Rl (nX θ gt s now b mF x).1 (nW θ gt k now b mF x).1:=by
 by_cases ha:θ.narg gt k now b x
 ·have e:nX θ gt s now b mF x = (s,1):=by unfold nX;exact alx ((Gl (s:=s) hg hr).mpr ha)
  rw [e,Kg ha];exact ⟨rfl,h⟩
 have ha':=fun e=>ha ((Gl (θ:=θ) (s:=s) hg hr).mp e)
 cases hl:eY now (cu now (nH θ gt x).1) with
 | false =>
  have e:nX θ gt s now b mF x = (s,14):=by unfold nX;rw [aly ha',alx hl]
  rw [e,Gh ha hl];exact ⟨rfl,h⟩
 | true =>
 rw [vH ha hl rfl]
 have hs:nX θ gt s now b mF x = (⟨s.room,((qP s.o (kn mF b) ++ [kn mF b]).take ((qP s.o (kn mF b) ++ [kn mF b]).length - s.room.toNat)).foldl rid (upd s.m ⟨kn mF b,mF,x,cu now (nH θ gt x).1⟩),(qP s.o (kn mF b) ++ [kn mF b]).drop ((qP s.o (kn mF b) ++ [kn mF b]).length - s.room.toNat),s.ch + 1⟩,0):=by
  unfold nX;rw [aly ha',aly (by rw [hl];decide)]
 rw [hs]
 refine ⟨rfl,?_⟩
 generalize hit:(⟨kn mF b,mF,x,cu now (nH θ gt x).1⟩:Nt) = it
 have hkx:it.k = kn mF b:=by rw [← hit]
 generalize kn mF b = a at hkx ⊢
 have ht:qP s.o a ++ [a] = ks (rid k.l a ++ [it]):=by rw [h.ord,← IL h.kM];simp [ks,hkx]
 rw [ht,Tn h.kM]
 have hnd:(ks (rid k.l a ++ [it])).Nodup:=wV (mh h.kM) (by rw [hkx];exact pR h.kM)
 have hm1:∀ c,old (upd s.m it) c = old (rid k.l a ++ [it]) c:=fun c=>by
  rw [Ec,vG (by rw [hkx];exact pR h.kM),hkx,qp h.kM,h.old c]
  by_cases hc:c = a <;> simp [hc]
 have hlen:=h.len
 have hl2:=@Ed k.l a
 generalize hL:rid k.l a ++ [it] = L at ht hnd hm1 ⊢
 have hLl:L.length = (rid k.l a).length + 1:=by rw [← hL];simp
 have hkl:(ks L).length = L.length:=by simp [ks]
 rw [hkl,h.room]
 by_cases hc:k.room < (L.length:Int)
 ·have h1:L.length - k.room.toNat = 1:=by omega
  rw [h1]
  have hcut:Bv k.room L = L.drop 1:=by unfold Bv;exact alx hc
  rw [hcut]
  cases L with
  | nil=>simp at hLl
  | cons y L =>
   have hn:=amw.mp hnd
   refine ⟨h.room ▸ rfl,by show s.ch + 1 = k.ch + 1;rw [h.ch],rfl,hn.2,mh (kC h.IQ),fun c=>?_,?_⟩
   ·show old (rid (upd s.m it) y.k) c = old L c
    rw [qp (kC h.IQ),hm1 c,jJ]
    by_cases hy:c = y.k
    ·subst hy;rw [alx rfl,qm hn.1]
    ·rw [aly hy,aly (fun e=>hy e.symm)]
   ·simp only [List.length_cons] at hLl
    show ((L.length:Nat):Int) ≤ k.room
    omega
 ·have h1:L.length - k.room.toNat = 0:=by omega
  rw [h1]
  have hcut:Bv k.room L = L:=by unfold Bv;exact aly hc
  rw [hcut]
  refine ⟨h.room ▸ rfl,by show s.ch + 1 = k.ch + 1;rw [h.ch],rfl,hnd,kC h.IQ,hm1,by show (L.length:Int) ≤ k.room;omega⟩
end Go.Proofs.YtfokaoeinpnagaaGreat.Kc.Ne
namespace Go.Proofs.YtfokaoeinpnagaaGreat.Kc
section
attribute [local go_sem_proc] Nat.reduceAdd Nat.reduceMul Nat.reduceEqDiff Nat.reduceBEq Nat.reduceMod Nat.reduceDiv reduceCtorEq
attribute [local go_sem_proc ↓] reduceIte
open Go Ev
variable {ext : Env} {F n:Nat} {θ:Th}
def jK (now u:Int):Int:=if eY now u = true then (if 604800 < u - now then 604800 else u - now) else 0
def zY (r:Int):Bool:=decide (3 ≤ r ∧ r ≤ 5)
theorem Kk {now u:Int} (h:eY now u = true) (hu:u ≤ 4611686018427387904):IntKind.i64.wrap (u - now) = u - now:=by
 unfold eY D8 at h
 simp only [alN,alL] at h
 exact yE (by omega) (by omega)
theorem Kl (now u:Int) (hu:u ≤ 4611686018427387904):G ext F (n + 3) 102 [vi now,vi u] = some ([vi (jK now u)],[vi now,vi u]):=by
 refine cZ (cf:=OA) rfl ?_
 cases h:eY now u with
 | false =>
  have e:jK now u = 0:=by unfold jK;rw [h];rfl
  rw [e]
  dsimp only [OA,av,dB,bE,bM,aW,bZ,dS,eu,dH,aH,dn,dh,bU,bn];simp only [kr,h,go_sem]
 | true =>
  have e:jK now u = if 604800 < u - now then 604800 else u - now:=by unfold jK;rw [h];rfl
  have hw:=Kk h hu
  rw [e]
  dsimp only [OA,av,dB,bE,bM,aW,bZ,dS,eu,dH,aH,dn,dh,bU,bn];simp only [kr,h,hw,go_sem]
theorem zZ (now u:Int) (hu:u ≤ 4611686018427387904):G ext F (n + 3) 60 [vi now,vi u] = some ([vi (jK now u)],[vi now,vi u]):=by
 refine cZ (cf:=c60) rfl ?_
 cases h:eY now u with
 | false =>
  have e:jK now u = 0:=by unfold jK;rw [h];rfl
  rw [e]
  dsimp only [c60,av,dB,bE,bM,aW,bZ,dS,eu,dH,aH,dn,dh,bU,bn];simp only [jI,h,go_sem]
 | true =>
  have e:jK now u = if 604800 < u - now then 604800 else u - now:=by unfold jK;rw [h];rfl
  have hw:=Kk h hu
  rw [e]
  dsimp only [c60,av,dB,bE,bM,aW,bZ,dS,eu,dH,aH,dn,dh,bU,bn];simp only [jI,h,hw,go_sem]
theorem Gn (r:Int):G ext F (n + 2) 101 [vi r] = some ([vb (zY r)],[vi r]):=by
 refine cZ (cf:=SL) rfl ?_
 dsimp only [SL,av,dB,bE,bM,aW,bZ,dS,eu,dH,aH,dn,dh,bU,bn];simp only [IE,go_sem]
 all_goals (simp [zY])
theorem LP (r:Int):G ext F (n + 1) 104 [vi r] = some ([vb (zY r)],[vi r]):=by
 refine cZ (cf:=SN) rfl ?_
 dsimp only [SN,av,dB,bE,bM,aW,bZ,dS,eu,dH,aH,dn,dh,bU,bn];simp only [go_sem]
 repeat' (refine bQ (fun h=>?_) (fun h=>?_) <;> simp only [h,go_sem])
 all_goals (simp only [alL,alS] at *;simp [zY];try omega)
structure jB where
 s:Se
 left:Int
def Bw : Se:=⟨⟨#[]⟩,0,0,[],0⟩
def kZ : jB:=⟨Bw,0⟩
structure Ch where
 hits:List jB
 e:Int
 nm:ByteArray
 iI:jB
def rH (x:jB):List FV:=[.str x.s.q,.int .i64 x.s.t,.int .i64 x.s.c,.sl (x.s.d.map dx),.int .i64 x.s.ttl,.int .i64 x.left]
abbrev jB.v (x:jB):AV:=.agg [.f (.str x.s.q),.f (.int .i64 x.s.t),.f (.int .i64 x.s.c),.f (.sl (x.s.d.map dx)),.f (.int .i64 x.s.ttl),.f (.int .i64 x.left)]
abbrev Ch.v (x:Ch):AV:=.agg [.f (.sl (x.hits.map rH)),.f (.int .i64 x.e),.f (.str x.nm),.f (.str x.iI.s.q),.f (.int .i64 x.iI.s.t),.f (.int .i64 x.iI.s.c),.f (.sl (x.iI.s.d.map dx)),.f (.int .i64 x.iI.s.ttl),.f (.int .i64 x.iI.left)]
def tl (pk:Qn → It × Bool) (now:Int) (q:Qn):Option jB:=if (pk q).2 = true ∧ zY (pk q).1.r = true then some ⟨⟨(pk q).1.q,(pk q).1.t,(pk q).1.c,(pk q).1.d,(pk q).1.ttl⟩,jK now (pk q).1.u⟩ else none
def tg (nm:Int → ByteArray → List ByteArray) (s:Se):Option ByteArray:=if s.t = 5 then s.d.head?.bind fun d=>(nm 5 d).head? else none
def al (nm:Int → ByteArray → List ByteArray) (pk:Qn → It × Bool) (now:Int) (q:Qn):Option (jB × ByteArray):=if q.t = 5 then none else (tl pk now ⟨q.q,5,q.c⟩).bind fun h=>(tg nm h.s).map fun ZZ8=>(h,ZZ8)
def fin (fd:Qn → Ne.Nt × Bool) (now:Int) (hits:List jB) (q:Qn):Ch:=if (fd q).2 = true then ⟨hits,if (fd q).1.nx = true then 2 else 1,q.q,⟨(fd q).1.s,jK now (fd q).1.u⟩⟩ else ⟨hits,3,q.q,kZ⟩
def Km (nm:Int → ByteArray → List ByteArray) (pk:Qn → It × Bool) (fd:Qn → Ne.Nt × Bool) (now:Int):Nat → List ByteArray → List jB → Qn → Ch
 | 0,_,hits,q=>⟨hits,4,q.q,kZ⟩
 | f + 1,met,hits,q=>match tl pk now q with
  | some h=>⟨hits ++ [h],0,q.q,kZ⟩
  | none=>match al nm pk now q with
   | none=>fin fd now hits q
   | some (h,ZZ8)=>if 8 ≤ hits.length ∨ xQ met ZZ8 = true then ⟨hits ++ [h],4,q.q,kZ⟩ else Km nm pk fd now f (met ++ [ZZ8]) (hits ++ [h]) ⟨ZZ8,q.t,q.c⟩
def Bz (nm:Int → ByteArray → List ByteArray) (pk:Qn → It × Bool) (fd:Qn → Ne.Nt × Bool) (now:Int) (q:Qn):Ch:=Km nm pk fd now 9 [q.q] [] q
end
section
attribute [local go_sem_proc] Nat.reduceAdd Nat.reduceMul Nat.reduceEqDiff Nat.reduceBEq Nat.reduceMod Nat.reduceDiv reduceCtorEq
attribute [local go_sem_proc ↓] reduceIte
open Go Ev
variable {ext : Env} {F n:Nat} {θ:Th} {nm:Int → ByteArray → List ByteArray}
structure yF (nm:Int → ByteArray → List ByteArray) (ext:Env):Prop where
 n0:∀ k q,q.size ≤ 1000000 → ext 81 [vi k,vs q] = some ([vl ((nm k q).map dx)],[vi k,vs q])
 n1:∀ k q,q.size ≤ 1000000 → ext 105 [vi k,vs q] = some ([vl ((nm k q).map dx)],[vi k,vs q])
theorem acw (M:yF nm ext) (k:Int) (q:ByteArray) (h:q.size ≤ 1000000):G ext F (n + 1) 81 [vi k,vs q] = some ([vl ((nm k q).map dx)],[vi k,vs q]):=(amx (kY rfl) _).trans (M.n0 k q h)
theorem acy (M:yF nm ext) (k:Int) (q:ByteArray) (h:q.size ≤ 1000000):G ext F (n + 1) 105 [vi k,vs q] = some ([vl ((nm k q).map dx)],[vi k,vs q]):=(amx (kY rfl) _).trans (M.n1 k q h)
def uL (nm:Int → ByteArray → List ByteArray) (s:Se):ByteArray × Bool:=match tg nm s with
 | some x=>(x,true)
 | none=>(⟨#[]⟩,false)
theorem Kn {s:Se} (h:s.t ≠ 5):uL nm s = (⟨#[]⟩,false):=by unfold uL tg;rw [aly h]
theorem Po {s:Se} (h:s.d = []):uL nm s = (⟨#[]⟩,false):=by unfold uL tg;rw [h];by_cases h5:s.t = 5 <;> simp [h5]
theorem Ko {s:Se} {y:ByteArray} {d:List ByteArray} (h5:s.t = 5) (h:s.d = y :: d) (hn:nm 5 y = []):uL nm s = (⟨#[]⟩,false):=by unfold uL tg;rw [alx h5,h];show (match ((nm 5 y).head?:Option ByteArray) with | some x=>(x,true) | none=>(⟨#[]⟩,false)) = _;rw [hn];rfl
theorem Kq {s:Se} {y z:ByteArray} {d l:List ByteArray} (h5:s.t = 5) (h:s.d = y :: d) (hn:nm 5 y = z :: l):uL nm s = (z,true):=by unfold uL tg;rw [alx h5,h];show (match ((nm 5 y).head?:Option ByteArray) with | some x=>(x,true) | none=>(⟨#[]⟩,false)) = _;rw [hn];rfl
theorem wW (M:yF nm ext) (s:Se) (hd:∀ y ∈ s.d,y.size ≤ 1000000):G ext F (n + 2) 47 [s.v] = some ([vs (uL nm s).1,vb (uL nm s).2],[s.v]):=by
 refine cZ (cf:=M9) rfl ?_
 by_cases h5:s.t = 5
 ·have h5':decide (s.t = 5) = true:=alz h5
  cases hy:s.d with
  | nil =>
   rw [Po hy]
   simp only [Se.v,mY,hy,alE]
   dsimp only [M9,av,dB,bE,bM,aW,bZ,dS,eu,dH,aH,dn,dh,bU,bn];simp only [h5',List.length_nil,show decide (((0:Nat):Int) = 0) = true from rfl,go_sem]
   simp [hy]
  | cons y ds =>
   have hlen:decide ((((List.map dx ds).length + 1:Nat):Int) = 0) = false:=by simp;omega
   have h1:=fun n=>acw (F:=F) (n:=n) M 5 y (hd y (by rw [hy];simp))
   cases hz:nm 5 y with
   | nil =>
    rw [Ko h5 hy hz]
    rw [hz] at h1
    simp only [Se.v,mY,hy,alD,alE,dx] at h1 ⊢
    dsimp only [M9,av,dB,bE,bM,aW,bZ,dS,eu,dH,aH,dn,dh,bU,bn];simp only [h5',hlen,h1,List.getElem?_cons_zero,Int.toNat_zero,List.length_nil,show decide (((0:Nat):Int) = 0) = true from rfl,go_sem]
    exact ⟨amb _,by simp [hy,dx]⟩
   | cons z zs =>
    rw [Kq h5 hy hz]
    rw [hz] at h1
    have Pp:decide ((((List.map dx zs).length + 1:Nat):Int) = 0) = false:=by simp;omega
    simp only [Se.v,mY,hy,alD,dx] at h1 ⊢
    dsimp only [M9,av,dB,bE,bM,aW,bZ,dS,eu,dH,aH,dn,dh,bU,bn];simp only [h5',hlen,Pp,h1,List.getElem?_cons_zero,Int.toNat_zero,go_sem]
    exact ⟨amb _,amb _,by simp [hy,dx]⟩
 ·have h5':decide (s.t = 5) = false:=alB h5
  rw [Kn h5]
  dsimp only [M9,av,dB,bE,bM,aW,bZ,dS,eu,dH,aH,dn,dh,bU,bn];simp only [h5',go_sem]
abbrev Sv.tv (s:Sv):TV:=.ptr [.f (.int .i64 s.room),.mp ER (s.m.map ent),.f (.sl (s.o.map rQ)),.f (.int .i64 s.ch)]
abbrev nvt (s:Ne.Nv):TV:=.ptr [.f (.int .i64 s.room),.mp Ne.ER (s.m.map Ne.ent),.f (.sl (s.o.map rQ)),.f (.int .i64 s.ch)]
abbrev kno (s:Sv) (m:Ne.Nv) (now:Int):AV:=.agg [s.tv,nvt m,.f (.int .i64 now)]
def Kr (pk:Qn → It × Bool) (now:Int) (q:Qn):jB × Bool:=match tl pk now q with
 | some h=>(h,true)
 | none=>(kZ,false)
theorem Gp (C:pO ext) (s:Sv) (m:Ne.Nv) (now:Int) (q:Qn) (hd:∀ x ∈ s.m,x.d.length ≤ 1000000) (hu:∀ x ∈ s.m,x.u ≤ 4611686018427387904):G ext F (n + 4) 56 [kno s m now,q.v] = some ([(Kr (eH s now) now q).1.v,vb (Kr (eH s now) now q).2],[kno s m now,q.v]):=by
 refine cZ (cf:=V5) rfl ?_
 have h1:=fun n=>Te (ext:=ext) (F:=F) (n:=n) C s now q hd
 have hlu:=fun n=>Kl (ext:=ext) (F:=F) (n:=n) now (eH s now q).1.u (by
  unfold eH
  split
  ·rename_i x ho
   split
   ·exact hu x (ku ho).2
   ·show (0:Int) ≤ _;omega
  ·show (0:Int) ≤ _;omega)
 unfold Kr tl
 cases hv:(eH s now q).2 with
 | false =>
  rw [hv] at h1
  dsimp only [V5,av,dB,bE,bM,aW,bZ,dS,eu,dH,aH,dn,dh,bU,bn];simp only [h1,go_sem]
  rfl
 | true =>
  rw [hv] at h1
  cases ht:zY (eH s now q).1.r with
  | false =>
   dsimp only [V5,av,dB,bE,bM,aW,bZ,dS,eu,dH,aH,dn,dh,bU,bn];simp only [h1,Gn,ht,go_sem]
   rfl
  | true =>
   dsimp only [V5,av,dB,bE,bM,aW,bZ,dS,eu,dH,aH,dn,dh,bU,bn];simp only [h1,Gn,ht,hlu,go_sem]
def Wo (nm:Int → ByteArray → List ByteArray) (pk:Qn → It × Bool) (now:Int) (q:Qn):jB × (ByteArray × Bool):=if q.t = 5 then (kZ,(⟨#[]⟩,false)) else ((Kr pk now ⟨q.q,5,q.c⟩).1,uL nm (Kr pk now ⟨q.q,5,q.c⟩).1.s)
theorem Pq (M:yF nm ext) (C:pO ext) (s:Sv) (m:Ne.Nv) (now:Int) (q:Qn) (hd:∀ x ∈ s.m,x.d.length ≤ 1000000) (hu:∀ x ∈ s.m,x.u ≤ 4611686018427387904) (hy:∀ x ∈ s.m,∀ y ∈ x.d,y.size ≤ 1000000):G ext F (n + 5) 57 [kno s m now,q.v] = some ([(Wo nm (eH s now) now q).1.v,vs (Wo nm (eH s now) now q).2.1,vb (Wo nm (eH s now) now q).2.2],[kno s m now,q.v]):=by
 refine cZ (cf:=V6) rfl ?_
 have h1:=fun n=>Gp (F:=F) (n:=n) C s m now ⟨q.q,5,q.c⟩ hd hu
 have hsz:∀ y ∈ (Kr (eH s now) now ⟨q.q,5,q.c⟩).1.s.d,y.size ≤ 1000000:=by
  have h0:∀ y ∈ (eH s now ⟨q.q,5,q.c⟩).1.d,y.size ≤ 1000000:=by
   unfold eH
   split
   ·rename_i x ho
    split
    ·exact hy x (ku ho).2
    ·intro y h;cases h
   ·intro y h;cases h
  unfold Kr tl
  split
  ·rename_i h he
   split at he
   ·cases he;exact h0
   ·cases he
  ·intro y h;cases h
 have h2:=fun n=>wW (F:=F) (n:=n) M (Kr (eH s now) now ⟨q.q,5,q.c⟩).1.s hsz
 unfold Wo
 by_cases h5:q.t = 5
 ·have h5':decide (q.t = 5) = true:=alz h5
  rw [alx h5]
  dsimp only [V6,av,dB,bE,bM,aW,bZ,dS,eu,dH,aH,dn,dh,bU,bn];simp only [h5',go_sem]
  try rfl
 ·have h5':decide (q.t = 5) = false:=alB h5
  rw [aly h5]
  dsimp only [V6,av,dB,bE,bM,aW,bZ,dS,eu,dH,aH,dn,dh,bU,bn];simp only [h5',h1,h2,go_sem]
  try rfl
def Pv (fd:Qn → Ne.Nt × Bool) (now:Int) (c:Ch) (q:Qn):Ch:=if (fd q).2 = true then ⟨c.hits,if (fd q).1.nx = true then 2 else 1,c.nm,⟨(fd q).1.s,jK now (fd q).1.u⟩⟩ else ⟨c.hits,3,c.nm,c.iI⟩
theorem Tq (C:pO ext) (s:Sv) (m:Ne.Nv) (now:Int) (c:Ch) (q:Qn) (hF:200000000000001 ≤ F) (hd:∀ x ∈ m.m,x.s.d.length ≤ 1000000) (hu:∀ x ∈ m.m,x.u ≤ 4611686018427387904):G ext F (n + 4) 58 [kno s m now,c.v,q.v] = some ([(Pv (Ne.gF m now) now c q).v],[kno s m now,c.v,q.v]):=by
 refine cZ (cf:=Yw) rfl ?_
 have h1:=fun n=>Ne.Pg (F:=F) (n:=n) C m now q hF hd
 have hlu:=fun n=>Kl (ext:=ext) (F:=F) (n:=n) now (Ne.gF m now q).1.u (by
  have h9:∀ b y,Ne.nof m.m now b = some y → y.u ≤ 4611686018427387904:=fun b y hy=>by
   unfold Ne.nof at hy
   split at hy
   ·rename_i y' ho
    split at hy
    ·cases hy;exact hu _ (Ne.ku ho).2
    ·cases hy
   ·cases hy
  unfold Ne.gF
  split
  ·rename_i y hy;exact h9 _ _ hy
  ·unfold Ne.Ro
   split
   ·rename_i y hy;exact h9 _ _ hy
   ·show (0:Int) ≤ _;omega)
 unfold Pv
 cases hv:(Ne.gF m now q).2 with
 | false =>
  rw [hv] at h1
  dsimp only [Yw,av,dB,bE,bM,aW,bZ,dS,eu,dH,aH,dn,dh,bU,bn];simp only [h1,go_sem]
  try rfl
 | true =>
  rw [hv] at h1
  cases hx:(Ne.gF m now q).1.nx
  all_goals
   dsimp only [Yw,av,dB,bE,bM,aW,bZ,dS,eu,dH,aH,dn,dh,bU,bn];simp only [h1,hx,hlu,go_sem]
   try rfl
end
section
attribute [local go_sem_proc] Nat.reduceAdd Nat.reduceMul Nat.reduceEqDiff Nat.reduceBEq Nat.reduceMod Nat.reduceDiv reduceCtorEq
attribute [local go_sem_proc ↓] reduceIte
open Go Ev
variable {ext : Env} {F n:Nat} {θ:Th} {nm:Int → ByteArray → List ByteArray}
abbrev jB.k (x:jB):Qn:=⟨x.s.q,x.s.t,x.s.c⟩
theorem Gq (c:Ch) (hl:c.hits.length ≤ 1000000) (hF:200000000000001 ≤ F):G ext F (n + 1) 19 [c.v] = some ([vl ((c.hits.map jB.k).map rQ)],[c.v]):=by
 refine cZ (cf:=c19) rfl ?_
 dsimp only [c19,av,dB,bE,bM,aW,bZ,dS,eu,dH,aH,dn,dh,bU,bn];simp only [go_sem]
 refine gZ c.hits.length (fun i=>⟨[(3,PV.c (CV.one (PL.own 80000 (((c.hits.take i).map jB.k).map rQ).length))),(7,PV.c (CV.one (PL.f (FV.sl (c.hits.map rH))))),(8,PV.c (CV.one (PL.f (FV.int .i64 ((c.hits.map rH).length:Nat))))),(9,PV.c (CV.one (PL.f (FV.int .i64 i))))],[(80000,Ob.row 3 (((c.hits.take i).map jB.k).map rQ))]⟩) (fun i=>True) (by omega) rfl trivial (fun i hi hP=>?_) (fun hP=>?_)
 ·obtain ⟨x,hx,hd,ht,h0⟩:=at_ hi
  have hn:=nx hi (by omega)
  have hw:(c.hits.take i).length = i:=by simp;omega
  have hs:((c.hits.take (i + 1)).map jB.k).map rQ = ((c.hits.take i).map jB.k).map rQ ++ [[.str x.s.q,.int .i64 x.s.t,.int .i64 x.s.c]]:=by rw [al7,hx];simp [rQ]
  simp only [alA,alG,hd,hx,ht,h0,rH,hw,hn,go_sem]
  rw [hs]
  exact ⟨by omega,by simp [hw];omega⟩
 ·have hd:=@end_ _ c.hits
  simp only [alA,hd,go_sem]
  rw [al3]
def wX (l:List ByteArray):List (KV × FC):=l.map fun s=>(.one (.str s),.one (.int .i64 1))
theorem Kt (l:List ByteArray) (s:ByteArray):yA (wX l) (.one (.str s)) = l.findIdx? fun x=>decide (x = s):=by
 unfold yA wX
 rw [List.map_map,List.findIdx?_map]
 refine al2 (fun p=>List.findIdx? p l) (funext fun x=>?_)
 simp only [Function.comp,KV.one.injEq,SV.str.injEq]
theorem Pw {l:List ByteArray} {s:ByteArray} (h:xQ l s = false):ug (wX l) (.one (.str s)) = none ∧ yB (wX l) (.one (.str s)) (.one (.int .i64 1)) = wX (l ++ [s]):=by
 have:l.findIdx? (fun x=>decide (x = s)) = none:=by
  refine ano.mpr fun x hx=>?_
  unfold xQ at h
  have:=List.any_eq_false.mp h x hx
  simpa using this
 unfold ug yB
 rw [Kt,this]
 exact ⟨rfl,by simp [wX]⟩
theorem Tt {l:List ByteArray} {s:ByteArray} (h:xQ l s = true):ug (wX l) (.one (.str s)) = some (.one (.int .i64 1)):=by
 unfold ug
 rw [Kt]
 cases hi:l.findIdx? (fun x=>decide (x = s)) with
 | none =>
  have h1:=ano.mp hi
  unfold xQ at h
  obtain ⟨x,hx,he⟩:=amF.mp h
  have:=h1 x hx
  rw [he] at this;cases this
 | some i =>
  obtain ⟨hi', -⟩:=amY.mp hi
  show ((wX l)[i]?.map fun p=>p.2) = _
  unfold wX
  rw [alG,alT hi']
  rfl
theorem Tv {pk:Qn → It × Bool} {now:Int} {q:Qn} (h:al nm pk now q = none):(Wo nm pk now q).2.2 = false:=by
 unfold al at h
 unfold Wo
 split
 ·rfl
 ·rename_i h5
  rw [aly h5] at h
  unfold Kr
  cases ht:tl pk now ⟨q.q,5,q.c⟩ with
  | none=>exact al2 Prod.snd (Kn (nm:=nm) (s:=kZ.s) (by decide))
  | some x =>
   rw [ht] at h
   show (uL nm x.s).2 = false
   unfold uL
   cases hg:tg nm x.s with
   | none=>rfl
   | some ZZ8=>rw [Option.bind_some,hg] at h;cases h
theorem Tw {pk:Qn → It × Bool} {now:Int} {q:Qn} {x:jB} {ZZ8:ByteArray} (h:al nm pk now q = some (x,ZZ8)):Wo nm pk now q = (x,(ZZ8,true)):=by
 unfold al at h
 unfold Wo
 split at h
 ·cases h
 ·rename_i h5
  rw [aly h5]
  obtain ⟨y,h1,h2⟩:=zbm h
  obtain ⟨z,h3,h4⟩:=zmm h2
  cases h4
  unfold Kr
  rw [h1]
  show (x,uL nm x.s) = _
  unfold uL
  rw [h3]
theorem Tx {fd:Qn → Ne.Nt × Bool} {now:Int} {hits:List jB} {q:Qn}:Pv fd now ⟨hits,0,q.q,kZ⟩ q = fin fd now hits q:=by
 unfold Pv fin;rfl
def fT (s:Sv) (m:Ne.Nv) (now:Int) (M:List ByteArray) (hits:List jB) (pn:ByteArray) (q:Qn):St:=match hits with
 | []=>⟨[(7,PV.c (CV.one (PL.ptr 160000 0))),(8,PV.c (CV.one (PL.ptr 180000 0))),(9,PV.c (CV.one (PL.ptr 200000 0))),(10,PV.c (CV.one (PL.ptr 220000 0))),(11,PV.c (CV.one (PL.mp 440000)))],[(20201,Ob.gM [PL.f (FV.int IntKind.i64 s.room),PL.mp 20205,PL.f (FV.sl (List.map rQ s.o)),PL.f (FV.int IntKind.i64 s.ch)]),(20205,Ob.map ER (List.map ent s.m)),(40201,Ob.gM [PL.f (FV.int IntKind.i64 m.room),PL.mp 40205,PL.f (FV.sl (List.map rQ m.o)),PL.f (FV.int IntKind.i64 m.ch)]),(40205,Ob.map Ne.ER (List.map Ne.ent m.m)),(160000,Ob.gM [PL.f (FV.str q.q),PL.f (FV.int IntKind.i64 q.t),PL.f (FV.int IntKind.i64 q.c)]),(180000,Ob.gM [PL.dz,PL.f (FV.int IntKind.i64 0),PL.f (FV.str ⟨#[]⟩),PL.f (FV.str ⟨#[]⟩),PL.f (FV.int IntKind.i64 0),PL.f (FV.int IntKind.i64 0),PL.dz,PL.f (FV.int IntKind.i64 0),PL.f (FV.int IntKind.i64 0)]),(200000,Ob.gM [PL.ptr 20201 0,PL.ptr 40201 0,PL.f (FV.int IntKind.i64 now)]),(220000,Ob.gM [PL.dz,PL.f (FV.int IntKind.i64 0),PL.f (FV.str pn),PL.f (FV.str ⟨#[]⟩),PL.f (FV.int IntKind.i64 0),PL.f (FV.int IntKind.i64 0),PL.dz,PL.f (FV.int IntKind.i64 0),PL.f (FV.int IntKind.i64 0)]),(440000,Ob.map (KS.one SK.str) (wX M))]⟩
 | _=>⟨[(7,PV.c (CV.one (PL.ptr 160000 0))),(8,PV.c (CV.one (PL.ptr 180000 0))),(9,PV.c (CV.one (PL.ptr 200000 0))),(10,PV.c (CV.one (PL.ptr 220000 0))),(11,PV.c (CV.one (PL.mp 440000)))],[(20201,Ob.gM [PL.f (FV.int IntKind.i64 s.room),PL.mp 690004,PL.f (FV.sl (List.map rQ s.o)),PL.f (FV.int IntKind.i64 s.ch)]),(40201,Ob.gM [PL.f (FV.int IntKind.i64 m.room),PL.mp 690204,PL.f (FV.sl (List.map rQ m.o)),PL.f (FV.int IntKind.i64 m.ch)]),(160000,Ob.gM [PL.f (FV.str q.q),PL.f (FV.int IntKind.i64 q.t),PL.f (FV.int IntKind.i64 q.c)]),(180000,Ob.gM [PL.dz,PL.f (FV.int IntKind.i64 0),PL.f (FV.str ⟨#[]⟩),PL.f (FV.str ⟨#[]⟩),PL.f (FV.int IntKind.i64 0),PL.f (FV.int IntKind.i64 0),PL.dz,PL.f (FV.int IntKind.i64 0),PL.f (FV.int IntKind.i64 0)]),(200000,Ob.gM [PL.ptr 20201 0,PL.ptr 40201 0,PL.f (FV.int IntKind.i64 now)]),(220000,Ob.gM [PL.own 1240000 (hits.map rH).length,PL.f (FV.int IntKind.i64 0),PL.f (FV.str pn),PL.f (FV.str ⟨#[]⟩),PL.f (FV.int IntKind.i64 0),PL.f (FV.int IntKind.i64 0),PL.dz,PL.f (FV.int IntKind.i64 0),PL.f (FV.int IntKind.i64 0)]),(440000,Ob.map (KS.one SK.str) (wX M)),(690004,Ob.map ER (List.map ent s.m)),(690204,Ob.map Ne.ER (List.map Ne.ent m.m)),(1240000,.row 6 (hits.map rH))]⟩
theorem Ef (s:Sv) (m:Ne.Nv) (now:Int) (M:List ByteArray) (pn:ByteArray) (q:Qn):fT s m now M [] pn q = ⟨[(7,PV.c (CV.one (PL.ptr 160000 0))),(8,PV.c (CV.one (PL.ptr 180000 0))),(9,PV.c (CV.one (PL.ptr 200000 0))),(10,PV.c (CV.one (PL.ptr 220000 0))),(11,PV.c (CV.one (PL.mp 440000)))],[(20201,Ob.gM [PL.f (FV.int IntKind.i64 s.room),PL.mp 20205,PL.f (FV.sl (List.map rQ s.o)),PL.f (FV.int IntKind.i64 s.ch)]),(20205,Ob.map ER (List.map ent s.m)),(40201,Ob.gM [PL.f (FV.int IntKind.i64 m.room),PL.mp 40205,PL.f (FV.sl (List.map rQ m.o)),PL.f (FV.int IntKind.i64 m.ch)]),(40205,Ob.map Ne.ER (List.map Ne.ent m.m)),(160000,Ob.gM [PL.f (FV.str q.q),PL.f (FV.int IntKind.i64 q.t),PL.f (FV.int IntKind.i64 q.c)]),(180000,Ob.gM [PL.dz,PL.f (FV.int IntKind.i64 0),PL.f (FV.str ⟨#[]⟩),PL.f (FV.str ⟨#[]⟩),PL.f (FV.int IntKind.i64 0),PL.f (FV.int IntKind.i64 0),PL.dz,PL.f (FV.int IntKind.i64 0),PL.f (FV.int IntKind.i64 0)]),(200000,Ob.gM [PL.ptr 20201 0,PL.ptr 40201 0,PL.f (FV.int IntKind.i64 now)]),(220000,Ob.gM [PL.dz,PL.f (FV.int IntKind.i64 0),PL.f (FV.str pn),PL.f (FV.str ⟨#[]⟩),PL.f (FV.int IntKind.i64 0),PL.f (FV.int IntKind.i64 0),PL.dz,PL.f (FV.int IntKind.i64 0),PL.f (FV.int IntKind.i64 0)]),(440000,Ob.map (KS.one SK.str) (wX M))]⟩:=rfl
theorem sF (s:Sv) (m:Ne.Nv) (now:Int) (M:List ByteArray) (hits:List jB) (pn:ByteArray) (q:Qn) (h:hits ≠ []):fT s m now M hits pn q = ⟨[(7,PV.c (CV.one (PL.ptr 160000 0))),(8,PV.c (CV.one (PL.ptr 180000 0))),(9,PV.c (CV.one (PL.ptr 200000 0))),(10,PV.c (CV.one (PL.ptr 220000 0))),(11,PV.c (CV.one (PL.mp 440000)))],[(20201,Ob.gM [PL.f (FV.int IntKind.i64 s.room),PL.mp 690004,PL.f (FV.sl (List.map rQ s.o)),PL.f (FV.int IntKind.i64 s.ch)]),(40201,Ob.gM [PL.f (FV.int IntKind.i64 m.room),PL.mp 690204,PL.f (FV.sl (List.map rQ m.o)),PL.f (FV.int IntKind.i64 m.ch)]),(160000,Ob.gM [PL.f (FV.str q.q),PL.f (FV.int IntKind.i64 q.t),PL.f (FV.int IntKind.i64 q.c)]),(180000,Ob.gM [PL.dz,PL.f (FV.int IntKind.i64 0),PL.f (FV.str ⟨#[]⟩),PL.f (FV.str ⟨#[]⟩),PL.f (FV.int IntKind.i64 0),PL.f (FV.int IntKind.i64 0),PL.dz,PL.f (FV.int IntKind.i64 0),PL.f (FV.int IntKind.i64 0)]),(200000,Ob.gM [PL.ptr 20201 0,PL.ptr 40201 0,PL.f (FV.int IntKind.i64 now)]),(220000,Ob.gM [PL.own 1240000 (hits.map rH).length,PL.f (FV.int IntKind.i64 0),PL.f (FV.str pn),PL.f (FV.str ⟨#[]⟩),PL.f (FV.int IntKind.i64 0),PL.f (FV.int IntKind.i64 0),PL.dz,PL.f (FV.int IntKind.i64 0),PL.f (FV.int IntKind.i64 0)]),(440000,Ob.map (KS.one SK.str) (wX M)),(690004,Ob.map ER (List.map ent s.m)),(690204,Ob.map Ne.ER (List.map Ne.ent m.m)),(1240000,.row 6 (hits.map rH))]⟩:=by
 cases hits with
 | nil=>exact absurd rfl h
 | cons a l=>rfl
theorem lJ (hits:List jB):hits = [] ∨ hits ≠ []:=by cases hits <;> simp
theorem sG (O:yF nm ext) (C:pO ext) (hF:200000000000001 ≤ F) (s:Sv) (m:Ne.Nv) (now:Int) (q:Qn) (hd:∀ x ∈ s.m,x.d.length ≤ 1000000) (hu:∀ x ∈ s.m,x.u ≤ 4611686018427387904) (hy:∀ x ∈ s.m,∀ y ∈ x.d,y.size ≤ 1000000) (hd2:∀ x ∈ m.m,x.s.d.length ≤ 1000000) (hu2:∀ x ∈ m.m,x.u ≤ 4611686018427387904) :
  G ext F (n + 6) 14 [s.v,m.v,vi now,q.v] = some ([(Bz nm (eH s now) (Ne.gF m now) now q).v],[s.v,m.v,vi now,q.v]):=by
 refine cZ (cf:=c14) rfl ?_
 generalize hres:Bz nm (eH s now) (Ne.gF m now) now q = R
 dsimp only [c14,av,dB,bE,bM,aW,bZ,dS,eu,dH,aH,dn,dh,bU,bn];simp only [go_sem]
 refine J8 9 (fun x:List ByteArray × List jB × ByteArray × ByteArray=>fT s m now x.1 x.2.1 x.2.2.1 ⟨x.2.2.2,q.t,q.c⟩) (fun i x=>x.2.1.length = i ∧ i < 9 ∧ xQ x.1 x.2.2.2 = false ∧ Km nm (eH s now) (Ne.gF m now) now (9 - i) (x.1 ++ [x.2.2.2]) x.2.1 ⟨x.2.2.2,q.t,q.c⟩ = R) (by omega) ([],[],⟨#[]⟩,q.q) rfl ⟨rfl,by omega,rfl,hres⟩ (fun i x hi hP=>?_) (fun x hP=>absurd hP.2.1 (by omega))
 obtain ⟨M,hits,pn,ig⟩:=x
 obtain ⟨hlen, -,hm,hf⟩:=hP
 simp only at hlen hm hf ⊢
 obtain ⟨f,hf9⟩:∃ f,9 - i = f + 1:=⟨8 - i,by omega⟩
 rw [hf9] at hf
 obtain ⟨k1,k2⟩:=Pw hm
 have hw1:IntKind.i64.wrap (0 + 1) = 1:=by decide
 have t1:=fun n=>Gp (F:=F) (n:=n) C s m now ⟨ig,q.t,q.c⟩ hd hu
 have a1:=fun n=>Pq (F:=F) (n:=n) O C s m now ⟨ig,q.t,q.c⟩ hd hu hy
 have e1:=fun n=>Tq (F:=F) (n:=n) C s m now ⟨hits,0,ig,kZ⟩ ⟨ig,q.t,q.c⟩ hF hd2 hu2
 rw [show Pv (Ne.gF m now) now ⟨hits,0,ig,kZ⟩ ⟨ig,q.t,q.c⟩ = fin (Ne.gF m now) now hits ⟨ig,q.t,q.c⟩ from Tx (q:=⟨ig,q.t,q.c⟩)] at e1
 simp only [Ch.v,kZ,Bw,alE] at e1
 unfold Km at hf
 have hsz:(((hits.map rH).length:Nat) + 1) * 72 ≤ 140737488355328:=by rw [alA];omega
 cases h1:tl (eH s now) now ⟨ig,q.t,q.c⟩ with
 | some h =>
  have et:Kr (eH s now) now ⟨ig,q.t,q.c⟩ = (h,true):=by unfold Kr;rw [h1]
  rw [et] at t1
  rw [h1] at hf
  subst hf
  rcases lJ hits with rfl | g1
  ·rw [Ef]
   simp only [k1,k2,hw1,t1,Option.getD_none,go_sem]
   exact ⟨by decide,rfl⟩
  ·rw [sF _ _ _ _ _ _ _ g1]
   simp only [k1,k2,hw1,t1,Option.getD_none,hsz,go_sem]
   simp [rH,kZ,Bw]
 | none =>
  have et:Kr (eH s now) now ⟨ig,q.t,q.c⟩ = (kZ,false):=by unfold Kr;rw [h1]
  rw [et] at t1
  rw [h1] at hf
  simp only [kZ,Bw,alE] at t1
  cases h2:al nm (eH s now) now ⟨ig,q.t,q.c⟩ with
  | none =>
   have ea:=Tv h2
   rw [h2] at hf
   subst hf
   rw [ea] at a1
   rcases lJ hits with rfl | g1
   ·rw [Ef]
    simp only [alE] at e1
    simp only [k1,k2,hw1,t1,a1,e1,Option.getD_none,go_sem]
   ·rw [sF _ _ _ _ _ _ _ g1]
    simp only [k1,k2,hw1,t1,a1,e1,Option.getD_none,go_sem]
  | some p =>
   obtain ⟨h,ZZ8⟩:=p
   rw [Tw h2] at a1
   rw [h2] at hf
   simp only at hf
   have hml:((hits ++ [h]).map rH) = hits.map rH ++ [[FV.str h.s.q,FV.int IntKind.i64 h.s.t,FV.int IntKind.i64 h.s.c,FV.sl (List.map dx h.s.d),FV.int IntKind.i64 h.s.ttl,FV.int IntKind.i64 h.left]]:=by simp [rH]
   have hll:(hits.map rH).length = hits.length:=alA _
   by_cases h8:8 ≤ hits.length
   ·rw [alx (.inl h8)] at hf
    subst hf
    have c8:decide ((8:Int) < (((hits.map rH).length + 1:Nat):Int)) = true:=alz (by omega)
    rcases lJ hits with rfl | g1
    ·simp at h8
    ·rw [sF _ _ _ _ _ _ _ g1]
     simp only [k1,k2,hw1,t1,a1,Option.getD_none,hsz,c8,go_sem]
     simp [rH,kZ,Bw]
   ·have c8:decide ((8:Int) < (((hits.map rH).length + 1:Nat):Int)) = false:=alB (by omega)
    have c8':decide ((8:Int) < ((0 + 1:Nat):Int)) = false:=by decide
    have z1:decide ((0:Int) < 1) = true:=by decide
    have z0:decide ((0:Int) < 0) = false:=by decide
    cases hin:xQ (M ++ [ig]) ZZ8 with
    | true =>
     rw [alx (.inr hin)] at hf
     subst hf
     have y1:=Tt hin
     rcases lJ hits with rfl | g1
     ·rw [Ef]
      simp only [k1,k2,hw1,t1,a1,Option.getD_none,Option.getD_some,hsz,c8',y1,z1,List.length_cons,List.length_nil,go_sem]
      exact ⟨by decide,rfl⟩
     ·rw [sF _ _ _ _ _ _ _ g1]
      simp only [k1,k2,hw1,t1,a1,Option.getD_none,Option.getD_some,hsz,c8,y1,z1,go_sem]
      simp [rH,kZ,Bw]
    | false =>
     rw [aly (by rw [hin];simp;omega)] at hf
     have y1:=(Pw hin).1
     have hnext:(hits ++ [h]).length = i + 1 ∧ i + 1 < 9 ∧ xQ (M ++ [ig]) ZZ8 = false ∧ Km nm (eH s now) (Ne.gF m now) now (9 - (i + 1)) (M ++ [ig] ++ [ZZ8]) (hits ++ [h]) ⟨ZZ8,q.t,q.c⟩ = R:=⟨by simp;omega,by omega,hin,by rw [show 9 - (i + 1) = f from by omega];exact hf⟩
     have g3:=fun pn' q'=>sF s m now (M ++ [ig]) (hits ++ [h]) pn' q' (by simp)
     rcases lJ hits with rfl | g1
     ·rw [Ef]
      simp only [k1,k2,hw1,t1,a1,Option.getD_none,Option.getD_some,hsz,c8',y1,z0,List.length_cons,List.length_nil,go_sem]
      exact ⟨by decide,(M ++ [ig],[] ++ [h],ig,ZZ8),by rw [g3];rfl,hnext⟩
     ·rw [sF _ _ _ _ _ _ _ g1]
      simp only [k1,k2,hw1,t1,a1,Option.getD_none,Option.getD_some,hsz,c8,y1,z0,go_sem]
      exact ⟨(M ++ [ig],hits ++ [h],ig,ZZ8),by rw [g3,hml];simp,hnext⟩
end
section
open Go Ev
variable {θ : Th} {gt:ByteArray → Int → Int → Int × Bool}
structure Pt where
 now:Int
 s:Se
 r:Int
 k:Qn
def rP (x:Pt):List FV:=[.int .i64 x.now,.str x.s.q,.int .i64 x.s.t,.int .i64 x.s.c,.sl (x.s.d.map dx),.int .i64 x.s.ttl,.int .i64 x.r,.str x.k.q,.int .i64 x.k.t,.int .i64 x.k.c]
abbrev Pt.v (x:Pt):AV:=.agg [.f (.int .i64 x.now),.f (.str x.s.q),.f (.int .i64 x.s.t),.f (.int .i64 x.s.c),.f (.sl (x.s.d.map dx)),.f (.int .i64 x.s.ttl),.f (.int .i64 x.r),.f (.str x.k.q),.f (.int .i64 x.k.t),.f (.int .i64 x.k.c)]
def s50 : Sv:=⟨50,[],[],0⟩
def m50 : Ne.Nv:=⟨50,[],[],0⟩
def Px (θ:Th) (gt:ByteArray → Int → Int → Int × Bool) (a:Sv × Ne.Nv) (p:Pt):Sv × Ne.Nv:=if 0 < p.r then ((mZ θ a.1 p.now p.s p.r).1,a.2) else (a.1,(Ne.nX θ gt a.2 p.now p.k (decide (p.r < 0)) p.s).1)
def lK (θ:Th) (gt:ByteArray → Int → Int → Int × Bool) (l:List Pt):Sv × Ne.Nv:=l.foldl (Px θ gt) (s50,m50)
theorem z8 {l:List Pt} {p:Pt} {i:Nat} (h:l[i]? = some p):lK θ gt (l.take (i + 1)) = Px θ gt (lK θ gt (l.take i)) p:=by
 unfold lK;rw [al7,h,anb];rfl
theorem wY : ∀ {g:List Qn} {l:List It},(g.foldl rid l).Sublist l
 | [],l=>anv _
 | a :: g,l=>(wY (g:=g)).trans qo
theorem Py {l:List It} {x:It}:(upd l x).length ≤ l.length + 1:=by
 rcases qw l x with ⟨-,hu⟩ | ⟨a,y,c,rfl, -, -,hu⟩ <;> rw [hu] <;> simp
theorem Pz {l:List It} {x y:It} (h:y ∈ upd l x):y = x ∨ y ∈ l:=by
 rcases qw l x with ⟨-,hu⟩ | ⟨a,z,c,rfl, -, -,hu⟩ <;> rw [hu] at h <;> simp at h ⊢
 ·rcases h with h | h <;> simp [h]
 ·rcases h with h | h | h <;> simp [h]
theorem xR : ∀ {g:List Qn} {l:List It},(ks l).Nodup → (ks (g.foldl rid l)).Nodup
 | [],l,h=>h
 | a :: g,l,h=>xR (g:=g) (mh h)
theorem xS : ∀ {g:List Qn} {l:List Ne.Nt},(Ne.ks l).Nodup → (Ne.ks (g.foldl Ne.rid l)).Nodup
 | [],l,h=>h
 | a :: g,l,h=>xS (g:=g) (Ne.mh h)
structure FS (l:List Pt) (i:Nat) (s:Sv):Prop where
 r:s.room = 50
 c:0 ≤ s.ch ∧ s.ch ≤ i
 o:s.o.length ≤ i
 m:s.m.length ≤ i
 it:∀ x ∈ s.m,∃ p ∈ l,0 < p.r ∧ x = p.s.it (cu p.now p.s.ttl) p.r
 kM:(ks s.m).Nodup
structure FN (θ:Th) (gt:ByteArray → Int → Int → Int × Bool) (l:List Pt) (i:Nat) (s:Ne.Nv):Prop where
 r:s.room = 50
 c:0 ≤ s.ch ∧ s.ch ≤ i
 o:s.o.length ≤ i
 m:s.m.length ≤ i
 it:∀ x ∈ s.m,∃ p ∈ l,x.s = p.s ∧ x.u = cu p.now (Ne.nH θ gt p.s).1 ∧ x.k.q = p.k.q
 kM:(Ne.ks s.m).Nodup
theorem FS.up {l:List Pt} {i:Nat} {s:Sv} (h:FS l i s):FS l (i + 1) s:=⟨h.r,by have:=h.c;omega,by have:=h.o;omega,by have:=h.m;omega,h.it,h.kM⟩
theorem FN.up {l:List Pt} {i:Nat} {s:Ne.Nv} (h:FN θ gt l i s):FN θ gt l (i + 1) s:=⟨h.r,by have:=h.c;omega,by have:=h.o;omega,by have:=h.m;omega,h.it,h.kM⟩
theorem FS.put {l:List Pt} {i:Nat} {s:Sv} (h:FS l i s) {p:Pt} (hp:p ∈ l) (h0:0 < p.r):FS l (i + 1) (mZ θ s p.now p.s p.r).1:=by
 have hc:=h.c
 have hq:=@vE s.o p.s.k
 have ho:=h.o
 have hm:=h.m
 have hu:=@Py s.m (p.s.it (cu p.now p.s.ttl) p.r)
 unfold mZ
 dsimp only
 split
 ·exact h.up
 ·refine ⟨h.r,by show 0 ≤ s.ch + 1 ∧ s.ch + 1 ≤ _;omega,?_,?_,fun y hy=>?_,xR (kC h.kM)⟩
  ·show (List.drop _ _).length ≤ _
   rw [al5,alX,List.length_singleton];omega
  ·exact alU wY.length_le (by omega)
  ·rcases Pz (wY.subset hy) with rfl | h1
   ·exact ⟨p,hp,h0,rfl⟩
   ·exact h.it y h1
theorem FN.put {l:List Pt} {i:Nat} {s:Ne.Nv} (h:FN θ gt l i s) {p:Pt} (hp:p ∈ l) (b:Bool):FN θ gt l (i + 1) (Ne.nX θ gt s p.now p.k b p.s).1:=by
 have hc:=h.c
 have hq:=@vE s.o (Ne.kn b p.k)
 have ho:=h.o
 have hm:=h.m
 unfold Ne.nX
 split
 ·exact h.up
 split
 ·exact h.up
 have hu:=@Ne.Ti s.m ⟨Ne.kn b p.k,b,p.s,cu p.now (Ne.nH θ gt p.s).1⟩
 refine ⟨h.r,by show 0 ≤ s.ch + 1 ∧ s.ch + 1 ≤ _;omega,?_,?_,fun y hy=>?_,xS (Ne.kC h.kM)⟩
 ·show (List.drop _ _).length ≤ _
  rw [al5,alX,List.length_singleton];omega
 ·exact alU Ne.zU.length_le (by omega)
 ·rcases Ne.Tj (Ne.zU.subset hy) with rfl | h1
  ·refine ⟨p,hp,rfl,rfl,?_⟩
   show (Ne.kn b p.k).q = _
   unfold Ne.kn;cases b <;> rfl
  ·exact h.it y h1
structure FI (θ:Th) (gt:ByteArray → Int → Int → Int × Bool) (l:List Pt) (i:Nat) (a:Sv × Ne.Nv):Prop where
 s:FS l i a.1
 n:FN θ gt l i a.2
theorem fi0 (l:List Pt):FI θ gt l 0 (s50,m50):=⟨⟨rfl,⟨amb _,amb _⟩,alC _,alC _,(by intro x hx;cases hx),amU⟩,⟨rfl,⟨amb _,amb _⟩,alC _,alC _,(by intro x hx;cases hx),amU⟩⟩
theorem FI.Px {l:List Pt} {i:Nat} {a:Sv × Ne.Nv} (h:FI θ gt l i a) {p:Pt} (hp:p ∈ l):FI θ gt l (i + 1) (Px θ gt a p):=by
 unfold Kc.Px
 split
 ·rename_i h0;exact ⟨h.s.put hp h0,h.n.up⟩
 ·exact ⟨h.s.up,h.n.put hp _⟩
theorem fi (l:List Pt):∀ i,i ≤ l.length → FI θ gt l i (lK θ gt (l.take i))
 | 0,_=>fi0 l
 | i + 1,h=>by
  have hi:l[i]? = some l[i]:=alT (by omega)
  rw [z8 hi]
  exact (fi l i (by omega)).Px (List.getElem_mem _)
theorem fiA (l:List Pt):FI θ gt l l.length (lK θ gt l):=by
 have:=fi (θ:=θ) (gt:=gt) l l.length (alC _)
 rwa [al3] at this
def wZ (l:List Pt):Bool:=l.all fun x=>oZ x.s.q x.s.d && decide (x.k.q.size ≤ 300)
theorem LQ {l:List Pt} {x:Pt} {i:Nat} (h:l[i]? = some x):wZ (l.take (i + 1)) = (wZ (l.take i) && (oZ x.s.q x.s.d && decide (x.k.q.size ≤ 300))):=by
 unfold wZ
 rw [al7,h,List.all_append]
 simp
theorem Ku {l:List Pt} {x:Pt} {i:Nat} (h:l[i]? = some x) (hx:(oZ x.s.q x.s.d && decide (x.k.q.size ≤ 300)) = false):wZ l = false:=by
 unfold wZ
 rw [List.all_eq_false]
 exact ⟨x,amH h,by simp only [hx,al4,anD]⟩
theorem LU {q:ByteArray} {d:List ByteArray} (h:oZ q d = true):q.size ≤ 300 ∧ d.length ≤ 60 ∧ ∀ y ∈ d,y.size ≤ 2000:=by
 unfold oZ F4 at h
 rw [alN,alY,alL] at h
 refine ⟨by omega,?_,fun y hy=>?_⟩
 ·cases hd:d with
  | nil=>simp
  | cons y d' =>
   have:=h.1 y (by rw [hd];simp)
   simp only [alN,alL] at this
   rw [hd] at this;omega
 ·have:=h.1 y hy
  simp only [alN,alL] at this
  omega
theorem vJ {l:List Pt} {x:Pt} (h:wZ l = true) (hx:x ∈ l):x.k.q.size ≤ 1000000 ∧ x.s.q.size ≤ 1000000 ∧ x.s.d.length ≤ 1000000 ∧ ∀ y ∈ x.s.d,y.size ≤ 1000000:=by
 have h1:=alY.mp h x hx
 rw [alN,alL] at h1
 obtain ⟨a,b,c⟩:=LU h1.1
 exact ⟨by omega,by omega,by omega,fun y hy=>by have:=c y hy;omega⟩
theorem Gr {now ttl:Int}:cu now ttl ≤ 4611686018427387904:=by
 unfold cu D8
 split
 ·rename_i h
  simp only [alL] at h
  split <;> omega
 ·omega
structure FW (a:Sv × Ne.Nv):Prop where
 hd:∀ x ∈ a.1.m,x.d.length ≤ 1000000
 hu:∀ x ∈ a.1.m,x.u ≤ 4611686018427387904
 hy:∀ x ∈ a.1.m,∀ y ∈ x.d,y.size ≤ 1000000
 hd2:∀ x ∈ a.2.m,x.s.d.length ≤ 1000000
 hu2:∀ x ∈ a.2.m,x.u ≤ 4611686018427387904
theorem FI.w {l:List Pt} {i:Nat} {a:Sv × Ne.Nv} (h:FI θ gt l i a) (hf:wZ l = true):FW a:=by
 refine ⟨fun x hx=>?_,fun x hx=>?_,fun x hx=>?_,fun x hx=>?_,fun x hx=>?_⟩
 ·obtain ⟨p,hp, -,rfl⟩:=h.s.it x hx;exact (vJ hf hp).2.2.1
 ·obtain ⟨p,hp, -,rfl⟩:=h.s.it x hx;exact Gr
 ·obtain ⟨p,hp, -,rfl⟩:=h.s.it x hx;exact (vJ hf hp).2.2.2
 ·obtain ⟨p,hp,h1, -⟩:=h.n.it x hx;rw [h1];exact (vJ hf hp).2.2.1
 ·obtain ⟨p,hp, -,h1, -⟩:=h.n.it x hx;rw [h1];exact Gr
theorem Eh {s:Sv} {now:Int} {k:Qn} (h:(eH s now k).2 = true):(eH s now k).1 ∈ s.m ∧ (eH s now k).1.k = k ∧ eY now (eH s now k).1.u = true:=by
 unfold eH at h ⊢
 cases ho:old s.m k with
 | none=>rw [ho] at h;cases h
 | some x =>
  rw [ho] at h
  dsimp only at h ⊢
  cases hl:eY now x.u with
  | false=>rw [hl] at h;cases h
  | true=>exact ⟨(ku ho).2,(ku ho).1,hl⟩
end
section
open Go Ev
variable {nm : Int → ByteArray → List ByteArray}
def yG : List Int → Int
 | []=>0
 | a :: l=>l.foldl min a
theorem Ei {l:List Int} {x:Int} (h:l ≠ []):yG (l ++ [x]) = if x < yG l then x else yG l:=by
 cases l with
 | nil=>exact absurd rfl h
 | cons a l =>
  show (l ++ [x]).foldl min a = if x < l.foldl min a then x else l.foldl min a
  rw [anb,List.foldl_cons,List.foldl_nil]
  split <;> omega
def lefts (c:Ch):List Int:=c.hits.map jB.left ++ if c.e = 1 ∨ c.e = 2 then [c.iI.left] else []
def sub (d:Int) (h:jB):jB:=⟨h.s,h.left - d⟩
theorem acz {m:List Ne.Nt} {a:Int} {k:Qn} {y:Ne.Nt} (h:Ne.nof m a k = some y):y ∈ m ∧ eY a y.u = true ∧ Ne.old m k = some y:=by
 unfold Ne.nof at h
 cases ho:Ne.old m k with
 | none=>rw [ho] at h;cases h
 | some x =>
  rw [ho] at h
  dsimp only at h
  cases hl:eY a x.u with
  | false=>rw [hl] at h;cases h
  | true=>rw [hl] at h;cases h;exact ⟨(Ne.ku ho).2,hl,rfl⟩
end
section
attribute [local go_sem_proc] Nat.reduceAdd Nat.reduceMul Nat.reduceEqDiff Nat.reduceBEq Nat.reduceMod Nat.reduceDiv reduceCtorEq
attribute [local go_sem_proc ↓] reduceIte
open Go Ev
variable {ext : Env} {F n:Nat} {θ:Th} {nm:Int → ByteArray → List ByteArray} {gt:ByteArray → Int → Int → Int × Bool}
theorem I4 (M:yF nm ext) (s:Se) (hd:∀ y ∈ s.d,y.size ≤ 1000000):G ext F (n + 2) 61 [s.v] = some ([vs (uL nm s).1,vb (uL nm s).2],[s.v]):=by
 refine cZ (cf:=Yx) rfl ?_
 by_cases h5:s.t = 5
 ·have h5':decide (s.t = 5) = true:=alz h5
  cases hy:s.d with
  | nil =>
   rw [Po hy]
   simp only [Se.v,mY,hy,alE]
   dsimp only [Yx,av,dB,bE,bM,aW,bZ,dS,eu,dH,aH,dn,dh,bU,bn];simp only [h5',List.length_nil,show decide (((0:Nat):Int) = 0) = true from rfl,go_sem]
   simp [hy]
  | cons y ds =>
   have hlen:decide ((((List.map dx ds).length + 1:Nat):Int) = 0) = false:=by simp;omega
   have h1:=fun n=>acy (F:=F) (n:=n) M 5 y (hd y (by rw [hy];simp))
   cases hz:nm 5 y with
   | nil =>
    rw [Ko h5 hy hz]
    rw [hz] at h1
    simp only [Se.v,mY,hy,alD,alE,dx] at h1 ⊢
    dsimp only [Yx,av,dB,bE,bM,aW,bZ,dS,eu,dH,aH,dn,dh,bU,bn];simp only [h5',hlen,h1,List.getElem?_cons_zero,Int.toNat_zero,List.length_nil,show decide (((0:Nat):Int) = 0) = true from rfl,go_sem]
    exact ⟨amb _,by simp [hy,dx]⟩
   | cons z zs =>
    rw [Kq h5 hy hz]
    rw [hz] at h1
    have Pp:decide ((((List.map dx zs).length + 1:Nat):Int) = 0) = false:=by simp;omega
    simp only [Se.v,mY,hy,alD,dx] at h1 ⊢
    dsimp only [Yx,av,dB,bE,bM,aW,bZ,dS,eu,dH,aH,dn,dh,bU,bn];simp only [h5',hlen,Pp,h1,List.getElem?_cons_zero,Int.toNat_zero,go_sem]
    exact ⟨amb _,amb _,by simp [hy,dx]⟩
 ·have h5':decide (s.t = 5) = false:=alB h5
  rw [Kn h5]
  dsimp only [Yx,av,dB,bE,bM,aW,bZ,dS,eu,dH,aH,dn,dh,bU,bn];simp only [h5',go_sem]
theorem LV (c:Ch) (hl:c.hits.length ≤ 1000000) (hF:200000000000001 ≤ F):G ext F (n + 1) 20 [c.v] = some ([vl ((c.hits.map jB.k).map rQ)],[c.v]):=by
 refine cZ (cf:=c20) rfl ?_
 dsimp only [c20,av,dB,bE,bM,aW,bZ,dS,eu,dH,aH,dn,dh,bU,bn];simp only [go_sem]
 refine gZ c.hits.length (fun i=>⟨[(1,PV.c (CV.one (PL.ptr 40000 0))),(3,PV.c (CV.one (PL.own 80000 (((c.hits.take i).map jB.k).map rQ).length))),(4,PV.c (CV.one (PL.f (FV.int .i64 i))))],[(40000,Ob.gM [PL.f (FV.sl (c.hits.map rH)),PL.f (FV.int .i64 c.e),PL.f (FV.str c.nm),PL.f (FV.str c.iI.s.q),PL.f (FV.int .i64 c.iI.s.t),PL.f (FV.int .i64 c.iI.s.c),PL.f (FV.sl (c.iI.s.d.map dx)),PL.f (FV.int .i64 c.iI.s.ttl),PL.f (FV.int .i64 c.iI.left)]),(80000,Ob.row 3 (((c.hits.take i).map jB.k).map rQ))]⟩) (fun i=>True) (by omega) rfl trivial (fun i hi hP=>?_) (fun hP=>?_)
 ·obtain ⟨x,hx,hd,ht,h0⟩:=at_ hi
  have hn:=nx hi (by omega)
  have hw:(c.hits.take i).length = i:=by simp;omega
  have hs:((c.hits.take (i + 1)).map jB.k).map rQ = ((c.hits.take i).map jB.k).map rQ ++ [[.str x.s.q,.int .i64 x.s.t,.int .i64 x.s.c]]:=by rw [al7,hx];simp [rQ]
  simp only [alA,alG,hd,hx,ht,h0,rH,hw,hn,go_sem]
  rw [hs]
  exact ⟨by omega,by simp [hw];omega⟩
 ·have hd:=@end_ _ c.hits
  simp only [alA,hd,go_sem]
  rw [al3]
def ri (x:Int):List FV:=[.int .i64 x]
theorem Gs (c:Ch) (hl:c.hits.length ≤ 1000000) (hF:200000000000001 ≤ F):G ext F (n + 1) 21 [c.v] = some ([vi (yG (lefts c))],[c.v]):=by
 refine cZ (cf:=c21) rfl ?_
 dsimp only [c21,av,dB,bE,bM,aW,bZ,dS,eu,dH,aH,dn,dh,bU,bn];simp only [go_sem]
 refine gZ c.hits.length (fun i=>⟨[(1,PV.c (CV.one (PL.ptr 40000 0))),(3,PV.c (CV.one (PL.own 80000 (((c.hits.take i).map jB.left).map ri).length))),(10,PV.c (CV.one (PL.f (FV.sl (c.hits.map rH))))),(11,PV.c (CV.one (PL.f (FV.int .i64 ((c.hits.map rH).length:Nat))))),(12,PV.c (CV.one (PL.f (FV.int .i64 i))))],[(40000,Ob.gM [PL.f (FV.sl (c.hits.map rH)),PL.f (FV.int .i64 c.e),PL.f (FV.str c.nm),PL.f (FV.str c.iI.s.q),PL.f (FV.int .i64 c.iI.s.t),PL.f (FV.int .i64 c.iI.s.c),PL.f (FV.sl (c.iI.s.d.map dx)),PL.f (FV.int .i64 c.iI.s.ttl),PL.f (FV.int .i64 c.iI.left)]),(80000,Ob.row 1 (((c.hits.take i).map jB.left).map ri))]⟩) (fun i=>True) (by omega) rfl trivial (fun i hi hP=>?_) (fun hP=>?_)
 ·obtain ⟨x,hx,hd,ht,h0⟩:=at_ hi
  have hn:=nx hi (by omega)
  have hw:(c.hits.take i).length = i:=by simp;omega
  have hs:((c.hits.take (i + 1)).map jB.left).map ri = ((c.hits.take i).map jB.left).map ri ++ [[.int .i64 x.left]]:=by rw [al7,hx];simp [ri]
  simp only [alA,alG,hd,hx,ht,h0,rH,hw,hn,go_sem]
  rw [hs]
  exact ⟨by omega,by simp [hw];omega⟩
 ·have hd:=@end_ _ c.hits
  rw [al3]
  by_cases e1:c.e = 1
  ·
   have LW:decide (c.e = 1) = true:=alz e1
   have hL:lefts c = c.hits.map jB.left ++ [c.iI.left]:=by unfold lefts;rw [alx (.inl e1)]
   obtain ⟨a,l,hal⟩:∃ a l,lefts c = a :: l:=anq (by rw [hL];simp)
   have hr:(c.hits.map jB.left).map ri ++ [[FV.int .i64 c.iI.left]] = ri a :: List.map ri l:=by rw [← alD,← hal,hL];simp [ri]
   have hlen:(a :: l).length = c.hits.length + 1:=by rw [← hal,hL];simp
   have hz:decide (((c.hits.length + 1:Nat):Int) = 0) = false:=by simp only [List.length_cons] at hlen;exact alB (by omega)
   have hz0:(ri a :: List.map ri l)[0]? = some [FV.int .i64 a]:=rfl
   have hst:yG (lefts c) = (a :: l).foldl min a:=by rw [hal];show l.foldl min a = l.foldl min (min a a);rw [show min a a = a from by omega]
   have hlp:0 < (c.hits.length + 1:Nat):=by rw [← hlen];simp
   rw [hst]
   simp only [alA,hd,LW,hr,hz,hz0,Int.toNat_zero,go_sem]
   refine ⟨by omega,by omega,⟨by omega,by simp only [List.length_cons] at hlen;omega⟩,?_⟩
   refine gZ (c.hits.length + 1) (fun i=>⟨[(6,PV.c (CV.one (PL.f (FV.int .i64 (((a :: l).take i).foldl min a))))),(42,PV.c (CV.one (PL.own 80000 (c.hits.length + 1)))),(43,PV.c (CV.one (PL.f (FV.int .i64 ((c.hits.length + 1:Nat):Int))))),(44,PV.c (CV.one (PL.f (FV.int .i64 i))))],[(80000,Ob.row 1 (ri a :: List.map ri l))]⟩) (fun i=>True) (by omega) rfl trivial (fun i hi hP=>?_) (fun hP=>?_)
   ·obtain ⟨x,hx,hd',ht,h0⟩:=at_ (l:=a :: l) (i:=i) (by omega)
    rw [hlen] at hd'
    have hn:=nx hi (by omega)
    have Gt:(ri a :: List.map ri l)[i]? = some [FV.int .i64 x]:=by show ((a :: l).map ri)[i]? = _;rw [alG,hx];rfl
    have hf:((a :: l).take (i + 1)).foldl min a = if x < ((a :: l).take i).foldl min a then x else ((a :: l).take i).foldl min a:=by rw [al7,hx,anb];show min _ x = _;split <;> omega
    rw [hf]
    simp only [hd',Gt,ht,h0,hn,go_sem]
    try simp only [List.length_cons] at hlen
    exact ⟨by omega,by simp only [alA] <;> omega⟩
   ·have hd':=@end_ _ (a :: l)
    rw [hlen] at hd'
    rw [← hlen,al3]
    rw [hlen]
    simp only [hd',go_sem]
  by_cases e2:c.e = 2
  ·
   have LW:decide (c.e = 1) = false:=alB e1
   have e2':decide (c.e = 2) = true:=alz e2
   have hL:lefts c = c.hits.map jB.left ++ [c.iI.left]:=by unfold lefts;rw [alx (.inr e2)]
   obtain ⟨a,l,hal⟩:∃ a l,lefts c = a :: l:=anq (by rw [hL];simp)
   have hr:(c.hits.map jB.left).map ri ++ [[FV.int .i64 c.iI.left]] = ri a :: List.map ri l:=by rw [← alD,← hal,hL];simp [ri]
   have hlen:(a :: l).length = c.hits.length + 1:=by rw [← hal,hL];simp
   have hz:decide (((c.hits.length + 1:Nat):Int) = 0) = false:=by simp only [List.length_cons] at hlen;exact alB (by omega)
   have hz0:(ri a :: List.map ri l)[0]? = some [FV.int .i64 a]:=rfl
   have hst:yG (lefts c) = (a :: l).foldl min a:=by rw [hal];show l.foldl min a = l.foldl min (min a a);rw [show min a a = a from by omega]
   have hlp:0 < (c.hits.length + 1:Nat):=by rw [← hlen];simp
   rw [hst]
   simp only [alA,hd,LW,e2',hr,hz,hz0,Int.toNat_zero,go_sem]
   refine ⟨by omega,by omega,⟨by omega,by simp only [List.length_cons] at hlen;omega⟩,?_⟩
   refine gZ (c.hits.length + 1) (fun i=>⟨[(6,PV.c (CV.one (PL.f (FV.int .i64 (((a :: l).take i).foldl min a))))),(42,PV.c (CV.one (PL.own 80000 (c.hits.length + 1)))),(43,PV.c (CV.one (PL.f (FV.int .i64 ((c.hits.length + 1:Nat):Int))))),(44,PV.c (CV.one (PL.f (FV.int .i64 i))))],[(80000,Ob.row 1 (ri a :: List.map ri l))]⟩) (fun i=>True) (by omega) rfl trivial (fun i hi hP=>?_) (fun hP=>?_)
   ·obtain ⟨x,hx,hd',ht,h0⟩:=at_ (l:=a :: l) (i:=i) (by omega)
    rw [hlen] at hd'
    have hn:=nx hi (by omega)
    have Gt:(ri a :: List.map ri l)[i]? = some [FV.int .i64 x]:=by show ((a :: l).map ri)[i]? = _;rw [alG,hx];rfl
    have hf:((a :: l).take (i + 1)).foldl min a = if x < ((a :: l).take i).foldl min a then x else ((a :: l).take i).foldl min a:=by rw [al7,hx,anb];show min _ x = _;split <;> omega
    rw [hf]
    simp only [hd',Gt,ht,h0,hn,go_sem]
    try simp only [List.length_cons] at hlen
    exact ⟨by omega,by simp only [alA] <;> omega⟩
   ·have hd':=@end_ _ (a :: l)
    rw [hlen] at hd'
    rw [← hlen,al3]
    rw [hlen]
    simp only [hd',go_sem]
  ·
   have LW:decide (c.e = 1) = false:=alB e1
   have e2':decide (c.e = 2) = false:=alB e2
   have hL:lefts c = c.hits.map jB.left:=by unfold lefts;rw [aly (fun h=>h.elim e1 e2)];simp
   rcases lJ c.hits with hh | hh
   ·
    rw [show lefts c = [] by rw [hL,hh];rfl]
    have hz0:decide (((c.hits.length:Nat):Int) = 0) = true:=by rw [hh];rfl
    have hz1:decide ((0:Int) < (c.hits.length:Int)) = false:=by rw [hh];rfl
    simp only [alA,hd,LW,e2',hz0,go_sem]
    rfl
   ·
    obtain ⟨a,l,hal⟩:∃ a l,lefts c = a :: l:=anq (by rw [hL];simpa using hh)
    have hr:(c.hits.map jB.left).map ri = ri a :: List.map ri l:=by rw [← alD,← hal,hL]
    have hlen:(a :: l).length = l.length + 1:=rfl
    have acA:l.length + 1 = c.hits.length:=by rw [← List.length_cons (a:=a),← hal,hL];simp
    have hz:decide (((l.length + 1:Nat):Int) = 0) = false:=by simp only [List.length_cons] at hlen;exact alB (by omega)
    have hz0:(ri a :: List.map ri l)[0]? = some [FV.int .i64 a]:=rfl
    have hst:yG (lefts c) = (a :: l).foldl min a:=by rw [hal];show l.foldl min a = l.foldl min (min a a);rw [show min a a = a from by omega]
    have hlp:0 < (l.length + 1:Nat):=by rw [← hlen];simp
    rw [hst]
    simp only [alA,hd,LW,e2',hr,hz,hz0,Int.toNat_zero,go_sem]
    refine ⟨by omega,by omega,?_⟩
    refine gZ (l.length + 1) (fun i=>⟨[(6,PV.c (CV.one (PL.f (FV.int .i64 (((a :: l).take i).foldl min a))))),(42,PV.c (CV.one (PL.own 80000 (l.length + 1)))),(43,PV.c (CV.one (PL.f (FV.int .i64 ((l.length + 1:Nat):Int))))),(44,PV.c (CV.one (PL.f (FV.int .i64 i))))],[(80000,Ob.row 1 (ri a :: List.map ri l))]⟩) (fun i=>True) (by omega) rfl trivial (fun i hi hP=>?_) (fun hP=>?_)
    ·obtain ⟨x,hx,hd',ht,h0⟩:=at_ (l:=a :: l) (i:=i) (by omega)
     rw [hlen] at hd'
     have hn:=nx hi (by omega)
     have Gt:(ri a :: List.map ri l)[i]? = some [FV.int .i64 x]:=by show ((a :: l).map ri)[i]? = _;rw [alG,hx];rfl
     have hf:((a :: l).take (i + 1)).foldl min a = if x < ((a :: l).take i).foldl min a then x else ((a :: l).take i).foldl min a:=by rw [al7,hx,anb];show min _ x = _;split <;> omega
     rw [hf]
     simp only [hd',Gt,ht,h0,hn,go_sem]
     try simp only [List.length_cons] at hlen
     exact ⟨by omega,by simp only [alA] <;> omega⟩
    ·have hd':=@end_ _ (a :: l)
     rw [hlen] at hd'
     rw [← hlen,al3]
     rw [hlen]
     simp only [hd',go_sem]
theorem LX (c:Ch) (hl:c.hits.length ≤ 1000000) (hF:200000000000001 ≤ F):G ext F (n + 1) 22 [c.v] = some ([vi (yG (lefts c))],[c.v]):=by
 refine cZ (cf:=EP) rfl ?_
 dsimp only [EP,av,dB,bE,bM,aW,bZ,dS,eu,dH,aH,dn,dh,bU,bn];simp only [go_sem]
 refine gZ c.hits.length (fun i=>⟨[(1,PV.c (CV.one (PL.ptr 40000 0))),(3,PV.c (CV.one (PL.own 80000 (((c.hits.take i).map jB.left).map ri).length))),(4,PV.c (CV.one (PL.f (FV.int .i64 i))))],[(40000,Ob.gM [PL.f (FV.sl (c.hits.map rH)),PL.f (FV.int .i64 c.e),PL.f (FV.str c.nm),PL.f (FV.str c.iI.s.q),PL.f (FV.int .i64 c.iI.s.t),PL.f (FV.int .i64 c.iI.s.c),PL.f (FV.sl (c.iI.s.d.map dx)),PL.f (FV.int .i64 c.iI.s.ttl),PL.f (FV.int .i64 c.iI.left)]),(80000,Ob.row 1 (((c.hits.take i).map jB.left).map ri))]⟩) (fun i=>True) (by omega) rfl trivial (fun i hi hP=>?_) (fun hP=>?_)
 ·obtain ⟨x,hx,hd,ht,h0⟩:=at_ hi
  have hn:=nx hi (by omega)
  have hw:(c.hits.take i).length = i:=by simp;omega
  have hs:((c.hits.take (i + 1)).map jB.left).map ri = ((c.hits.take i).map jB.left).map ri ++ [[.int .i64 x.left]]:=by rw [al7,hx];simp [ri]
  simp only [alA,alG,hd,hx,ht,h0,rH,hw,hn,go_sem]
  rw [hs]
  exact ⟨by omega,by simp [hw];omega⟩
 ·have hd:=@end_ _ c.hits
  rw [al3]
  by_cases e1:c.e = 1
  ·
   have LW:decide (c.e = 1) = true:=alz e1
   have hL:lefts c = c.hits.map jB.left ++ [c.iI.left]:=by unfold lefts;rw [alx (.inl e1)]
   obtain ⟨a,l,hal⟩:∃ a l,lefts c = a :: l:=anq (by rw [hL];simp)
   have hr:(c.hits.map jB.left).map ri ++ [[FV.int .i64 c.iI.left]] = ri a :: List.map ri l:=by rw [← alD,← hal,hL];simp [ri]
   have hlen:(a :: l).length = c.hits.length + 1:=by rw [← hal,hL];simp
   have hz:decide (((c.hits.length + 1:Nat):Int) = 0) = false:=by simp only [List.length_cons] at hlen;exact alB (by omega)
   have hz0:(ri a :: List.map ri l)[0]? = some [FV.int .i64 a]:=rfl
   have hst:yG (lefts c) = (a :: l).foldl min a:=by rw [hal];show l.foldl min a = l.foldl min (min a a);rw [show min a a = a from by omega]
   have hlp:0 < (c.hits.length + 1:Nat):=by rw [← hlen];simp
   rw [hst]
   simp only [alA,hd,LW,hr,hz,hz0,Int.toNat_zero,go_sem]
   refine ⟨by omega,?_⟩
   refine gZ (c.hits.length + 1) (fun i=>⟨[(3,PV.c (CV.one (PL.own 80000 (c.hits.length + 1)))),(5,PV.c (CV.one (PL.f (FV.int .i64 (yG ((a :: l).take i)))))),(6,PV.c (CV.one (PL.f (FV.int .i64 i))))],[(80000,Ob.row 1 (ri a :: List.map ri l))]⟩) (fun i=>True) (by omega) rfl trivial (fun i hi hP=>?_) (fun hP=>?_)
   ·obtain ⟨x,hx,hd',ht,h0⟩:=at_ (l:=a :: l) (i:=i) (by omega)
    rw [hlen] at hd'
    have hn:=nx hi (by omega)
    have Gt:(ri a :: List.map ri l)[i]? = some [FV.int .i64 x]:=by show ((a :: l).map ri)[i]? = _;rw [alG,hx];rfl
    have hta:(a :: l).take (i + 1) = (a :: l).take i ++ [x]:=by rw [al7,hx];rfl
    rw [hta]
    by_cases hi0:i = 0
    ·subst hi0
     simp only [show ((0:Nat):Int) = 0 from rfl] at hd' ht h0 hn
     simp only [hd',Gt,hz0,ht,h0,hn,anc,Int.toNat_zero,show ((0:Nat):Int) = 0 from rfl,go_sem]
     try simp only [List.length_cons] at hlen
     first | exact ⟨⟨by omega,by simp only [alA] <;> omega⟩,rfl⟩ | exact ⟨by omega,by simp only [alA] <;> omega⟩ | done
    ·have hne:(a :: l).take i ≠ []:=by intro h;have:=al2 List.length h;simp at this;omega
     have Bt:decide ((i:Int) = 0) = false:=alB (by omega)
     rw [Ei hne]
     by_cases hlt:x < yG ((a :: l).take i)
     ·have hlt':decide (x < yG ((a :: l).take i)) = true:=alz hlt
      rw [alx hlt]
      simp only [hd',Gt,ht,h0,hn,Bt,hlt',go_sem]
      try simp only [List.length_cons] at hlen
      first | exact ⟨⟨by omega,by simp only [alA] <;> omega⟩,rfl⟩ | exact ⟨by omega,by simp only [alA] <;> omega⟩ | done
     ·have hlt':decide (x < yG ((a :: l).take i)) = false:=alB hlt
      rw [aly hlt]
      simp only [hd',Gt,ht,h0,hn,Bt,hlt',go_sem]
      try simp only [List.length_cons] at hlen
      first | exact ⟨⟨by omega,by simp only [alA] <;> omega⟩,rfl⟩ | exact ⟨by omega,by simp only [alA] <;> omega⟩ | done
   ·have hd':=@end_ _ (a :: l)
    rw [hlen] at hd'
    rw [← hst,hal,← hlen,al3]
    rw [hlen]
    simp only [hd',go_sem]
  by_cases e2:c.e = 2
  ·
   have LW:decide (c.e = 1) = false:=alB e1
   have e2':decide (c.e = 2) = true:=alz e2
   have hL:lefts c = c.hits.map jB.left ++ [c.iI.left]:=by unfold lefts;rw [alx (.inr e2)]
   obtain ⟨a,l,hal⟩:∃ a l,lefts c = a :: l:=anq (by rw [hL];simp)
   have hr:(c.hits.map jB.left).map ri ++ [[FV.int .i64 c.iI.left]] = ri a :: List.map ri l:=by rw [← alD,← hal,hL];simp [ri]
   have hlen:(a :: l).length = c.hits.length + 1:=by rw [← hal,hL];simp
   have hz:decide (((c.hits.length + 1:Nat):Int) = 0) = false:=by simp only [List.length_cons] at hlen;exact alB (by omega)
   have hz0:(ri a :: List.map ri l)[0]? = some [FV.int .i64 a]:=rfl
   have hst:yG (lefts c) = (a :: l).foldl min a:=by rw [hal];show l.foldl min a = l.foldl min (min a a);rw [show min a a = a from by omega]
   have hlp:0 < (c.hits.length + 1:Nat):=by rw [← hlen];simp
   rw [hst]
   simp only [alA,hd,LW,e2',hr,hz,hz0,Int.toNat_zero,go_sem]
   refine ⟨by omega,?_⟩
   refine gZ (c.hits.length + 1) (fun i=>⟨[(3,PV.c (CV.one (PL.own 80000 (c.hits.length + 1)))),(5,PV.c (CV.one (PL.f (FV.int .i64 (yG ((a :: l).take i)))))),(6,PV.c (CV.one (PL.f (FV.int .i64 i))))],[(80000,Ob.row 1 (ri a :: List.map ri l))]⟩) (fun i=>True) (by omega) rfl trivial (fun i hi hP=>?_) (fun hP=>?_)
   ·obtain ⟨x,hx,hd',ht,h0⟩:=at_ (l:=a :: l) (i:=i) (by omega)
    rw [hlen] at hd'
    have hn:=nx hi (by omega)
    have Gt:(ri a :: List.map ri l)[i]? = some [FV.int .i64 x]:=by show ((a :: l).map ri)[i]? = _;rw [alG,hx];rfl
    have hta:(a :: l).take (i + 1) = (a :: l).take i ++ [x]:=by rw [al7,hx];rfl
    rw [hta]
    by_cases hi0:i = 0
    ·subst hi0
     simp only [show ((0:Nat):Int) = 0 from rfl] at hd' ht h0 hn
     simp only [hd',Gt,hz0,ht,h0,hn,anc,Int.toNat_zero,show ((0:Nat):Int) = 0 from rfl,go_sem]
     try simp only [List.length_cons] at hlen
     first | exact ⟨⟨by omega,by simp only [alA] <;> omega⟩,rfl⟩ | exact ⟨by omega,by simp only [alA] <;> omega⟩ | done
    ·have hne:(a :: l).take i ≠ []:=by intro h;have:=al2 List.length h;simp at this;omega
     have Bt:decide ((i:Int) = 0) = false:=alB (by omega)
     rw [Ei hne]
     by_cases hlt:x < yG ((a :: l).take i)
     ·have hlt':decide (x < yG ((a :: l).take i)) = true:=alz hlt
      rw [alx hlt]
      simp only [hd',Gt,ht,h0,hn,Bt,hlt',go_sem]
      try simp only [List.length_cons] at hlen
      first | exact ⟨⟨by omega,by simp only [alA] <;> omega⟩,rfl⟩ | exact ⟨by omega,by simp only [alA] <;> omega⟩ | done
     ·have hlt':decide (x < yG ((a :: l).take i)) = false:=alB hlt
      rw [aly hlt]
      simp only [hd',Gt,ht,h0,hn,Bt,hlt',go_sem]
      try simp only [List.length_cons] at hlen
      first | exact ⟨⟨by omega,by simp only [alA] <;> omega⟩,rfl⟩ | exact ⟨by omega,by simp only [alA] <;> omega⟩ | done
   ·have hd':=@end_ _ (a :: l)
    rw [hlen] at hd'
    rw [← hst,hal,← hlen,al3]
    rw [hlen]
    simp only [hd',go_sem]
  ·
   have LW:decide (c.e = 1) = false:=alB e1
   have e2':decide (c.e = 2) = false:=alB e2
   have hL:lefts c = c.hits.map jB.left:=by unfold lefts;rw [aly (fun h=>h.elim e1 e2)];simp
   rcases lJ c.hits with hh | hh
   ·
    rw [show lefts c = [] by rw [hL,hh];rfl]
    have hz0:decide (((c.hits.length:Nat):Int) = 0) = true:=by rw [hh];rfl
    have hz1:decide ((0:Int) < (c.hits.length:Int)) = false:=by rw [hh];rfl
    simp only [alA,hd,LW,e2',hz0,go_sem]
    refine gZ 0 (fun i=>⟨[(3,PV.c (CV.one (PL.own 80000 c.hits.length))),(5,PV.c (CV.one (PL.f (FV.int .i64 0)))),(6,PV.c (CV.one (PL.f (FV.int .i64 i))))],[(80000,Ob.row 1 (List.map ri (List.map jB.left c.hits)))]⟩) (fun i=>True) (by omega) rfl trivial (fun i hi hP=>absurd hi (by omega)) (fun hP=>?_)
    simp only [hz1,show ((0:Nat):Int) = 0 from rfl,go_sem]
    rfl
   ·
    obtain ⟨a,l,hal⟩:∃ a l,lefts c = a :: l:=anq (by rw [hL];simpa using hh)
    have hr:(c.hits.map jB.left).map ri = ri a :: List.map ri l:=by rw [← alD,← hal,hL]
    have hlen:(a :: l).length = l.length + 1:=rfl
    have acA:l.length + 1 = c.hits.length:=by rw [← List.length_cons (a:=a),← hal,hL];simp
    have hz:decide (((l.length + 1:Nat):Int) = 0) = false:=by simp only [List.length_cons] at hlen;exact alB (by omega)
    have hz0:(ri a :: List.map ri l)[0]? = some [FV.int .i64 a]:=rfl
    have hst:yG (lefts c) = (a :: l).foldl min a:=by rw [hal];show l.foldl min a = l.foldl min (min a a);rw [show min a a = a from by omega]
    have hlp:0 < (l.length + 1:Nat):=by rw [← hlen];simp
    rw [hst]
    simp only [alA,hd,LW,e2',hr,hz,hz0,Int.toNat_zero,go_sem]
    refine gZ (l.length + 1) (fun i=>⟨[(3,PV.c (CV.one (PL.own 80000 (l.length + 1)))),(5,PV.c (CV.one (PL.f (FV.int .i64 (yG ((a :: l).take i)))))),(6,PV.c (CV.one (PL.f (FV.int .i64 i))))],[(80000,Ob.row 1 (ri a :: List.map ri l))]⟩) (fun i=>True) (by omega) rfl trivial (fun i hi hP=>?_) (fun hP=>?_)
    ·obtain ⟨x,hx,hd',ht,h0⟩:=at_ (l:=a :: l) (i:=i) (by omega)
     rw [hlen] at hd'
     have hn:=nx hi (by omega)
     have Gt:(ri a :: List.map ri l)[i]? = some [FV.int .i64 x]:=by show ((a :: l).map ri)[i]? = _;rw [alG,hx];rfl
     have hta:(a :: l).take (i + 1) = (a :: l).take i ++ [x]:=by rw [al7,hx];rfl
     rw [hta]
     by_cases hi0:i = 0
     ·subst hi0
      simp only [show ((0:Nat):Int) = 0 from rfl] at hd' ht h0 hn
      simp only [hd',Gt,hz0,ht,h0,hn,anc,Int.toNat_zero,show ((0:Nat):Int) = 0 from rfl,go_sem]
      try simp only [List.length_cons] at hlen
      first | exact ⟨⟨by omega,by simp only [alA] <;> omega⟩,rfl⟩ | exact ⟨by omega,by simp only [alA] <;> omega⟩ | done
     ·have hne:(a :: l).take i ≠ []:=by intro h;have:=al2 List.length h;simp at this;omega
      have Bt:decide ((i:Int) = 0) = false:=alB (by omega)
      rw [Ei hne]
      by_cases hlt:x < yG ((a :: l).take i)
      ·have hlt':decide (x < yG ((a :: l).take i)) = true:=alz hlt
       rw [alx hlt]
       simp only [hd',Gt,ht,h0,hn,Bt,hlt',go_sem]
       try simp only [List.length_cons] at hlen
       first | exact ⟨⟨by omega,by simp only [alA] <;> omega⟩,rfl⟩ | exact ⟨by omega,by simp only [alA] <;> omega⟩ | done
      ·have hlt':decide (x < yG ((a :: l).take i)) = false:=alB hlt
       rw [aly hlt]
       simp only [hd',Gt,ht,h0,hn,Bt,hlt',go_sem]
       try simp only [List.length_cons] at hlen
       first | exact ⟨⟨by omega,by simp only [alA] <;> omega⟩,rfl⟩ | exact ⟨by omega,by simp only [alA] <;> omega⟩ | done
    ·have hd':=@end_ _ (a :: l)
     rw [hlen] at hd'
     rw [← hst,hal,← hlen,al3]
     rw [hlen]
     simp only [hd',go_sem]
theorem I5 (l:List Pt) (m:Int) (hl:l.length ≤ 200000000000000) (hd:∀ x ∈ l,x.s.d.length ≤ 200000000000000) (hF:200000000000001 ≤ F):G ext F (n + 2) 10 [vl (l.map rP),vi m] = some ([vi (if wZ l = true ∧ (l.length:Int) ≤ m then 1 else 0)],[vl (l.map rP),vi m]):=by
 refine cZ (cf:=c10) rfl ?_
 dsimp only [c10,av,dB,bE,bM,aW,bZ,dS,eu,dH,aH,dn,dh,bU,bn];simp only [go_sem]
 refine gZ l.length (fun i=>⟨[(0,PV.c (CV.one (PL.f (FV.sl (l.map rP))))),(1,PV.c (CV.one (PL.f (FV.int .i64 m)))),(5,PV.c (CV.one (PL.f (FV.int .i64 i))))],[]⟩) (fun i=>wZ (l.take i) = true) (by omega) rfl (by simp [wZ]) (fun i hi hP=>?_) (fun hP=>?_)
 ·obtain ⟨x,hx,hlt,ht,h0⟩:=at_ hi
  have hn:=nx hi (alU hl (by decide))
  have hs:=fun n=>OD (ext:=ext) (F:=F) (n:=n) x.s.q x.s.t x.s.c x.s.d x.s.ttl (hd x (amH hx)) hF
  cases h1:oZ x.s.q x.s.d with
  | false =>
   simp only [alA,alG,hlt,hx,ht,h0,rP,hs,h1,go_sem]
   rw [Ku hx (by rw [h1];rfl)];rfl
  | true =>
   by_cases h3:x.k.q.size ≤ 300
   ·have h3':decide ((300:Int) < (x.k.q.size:Int)) = false:=alB (by omega)
    simp only [alA,alG,hlt,hx,ht,h0,hn,rP,hs,h1,h3',go_sem]
    rw [LQ hx,hP,h1,alz h3];rfl
   ·have h3':decide ((300:Int) < (x.k.q.size:Int)) = true:=alz (by omega)
    simp only [alA,alG,hlt,hx,ht,h0,hn,rP,hs,h1,h3',go_sem]
    rw [Ku hx (by rw [h1,alB h3];rfl)];rfl
 ·have hd:=@end_ _ l
  rw [al3] at hP
  by_cases hm:(l.length:Int) ≤ m
  ·have hm':decide (m < (l.length:Int)) = false:=alB (by omega)
   simp only [alA,hd,hm',go_sem]
   rw [alx ⟨hP,hm⟩]
  ·have hm':decide (m < (l.length:Int)) = true:=alz (by omega)
   simp only [alA,hd,hm',go_sem]
   rw [aly (fun h=>hm h.2)]
theorem YN (a b:ByteArray):G ext F (n + 1) 46 [vs a,vs b] = some ([(Se.v ⟨a,5,1,[b],7⟩)],[vs a,vs b]):=by
 refine cZ (cf:=c46) rfl ?_
 dsimp only [c46,av,dB,bE,bM,aW,bZ,dS,eu,dH,aH,dn,dh,bU,bn];simp only [go_sem]
 rfl
theorem nG (T:θ.Ok ext) (O:Ne.zV gt ext) (C:pO ext) (Q:Gb θ ext) (hF:200000000000001 ≤ F) (l:List Pt) (hl:l.length ≤ 1000) (hf:wZ l = true):G ext F (n + 7) 12 [vl (l.map rP)] = some ([(lK θ gt l).1.v,(lK θ gt l).2.v],[vl (l.map rP)]):=by
 refine cZ (cf:=c12) rfl ?_
 have hn:=fun n=>YG (ext:=ext) (F:=F) (n:=n) 50
 have hm:=fun n=>Ne.Tk (ext:=ext) (F:=F) (n:=n) 50
 rw [aly (by decide),OW] at hn
 rw [aly (by decide),Ne.OZ] at hm
 dsimp only [c12,av,dB,bE,bM,aW,bZ,dS,eu,dH,aH,dn,dh,bU,bn];simp only [hn,hm,go_sem]
 refine gZ l.length (fun i=>⟨[(0,PV.c (CV.one (PL.f (FV.sl (List.map rP l))))),(4,PV.c (CV.one (PL.ptr 160200 0))),(5,PV.c (CV.one (PL.ptr 180200 0))),(6,PV.c (CV.one (PL.f (FV.int IntKind.i64 i))))],[(160200,Ob.gM [PL.f (FV.int IntKind.i64 (lK θ gt (l.take i)).1.room),PL.mp 160204,PL.f (FV.sl ((lK θ gt (l.take i)).1.o.map rQ)),PL.f (FV.int IntKind.i64 (lK θ gt (l.take i)).1.ch)]),(160204,Ob.map ER ((lK θ gt (l.take i)).1.m.map ent)),(180200,Ob.gM [PL.f (FV.int IntKind.i64 (lK θ gt (l.take i)).2.room),PL.mp 180204,PL.f (FV.sl ((lK θ gt (l.take i)).2.o.map rQ)),PL.f (FV.int IntKind.i64 (lK θ gt (l.take i)).2.ch)]),(180204,Ob.map Ne.ER ((lK θ gt (l.take i)).2.m.map Ne.ent))]⟩) (fun i=>True) (by omega) rfl trivial (fun i hi hP=>?_) (fun hP=>?_)
 ·obtain ⟨x,hx,hlt,ht,h0⟩:=at_ hi
  have hn:=nx hi (alU hl (by decide))
  have hI:=fi (θ:=θ) (gt:=gt) l i (by omega)
  rw [z8 hx]
  generalize lK θ gt (l.take i) = a at hI ⊢
  obtain ⟨s,m⟩:=a
  have hz:=vJ hf (amH hx)
  have hsr:=hI.s.r
  have hsc:=hI.s.c
  have hso:=hI.s.o
  have hsm:=hI.s.m
  have hnr:=hI.n.r
  have hnc:=hI.n.c
  have hno:=hI.n.o
  simp only at hsr hsc hso hsm hnr hnc hno
  unfold Px
  by_cases hr:0 < x.r
  ·rw [alx hr]
   have hr':decide (0 < x.r) = true:=alz hr
   have p1:=fun n=>YI (F:=F) (n:=n) Q s x.now x.s x.r (by omega) (by omega) (by omega) (by omega) hz.2.1 hz.2.2.1 hz.2.2.2
   simp only [Sv.v,Se.v,mY] at p1
   simp only [alA,alG,hlt,hx,ht,h0,hn,rP,hr',p1,go_sem]
   done
  ·rw [aly hr]
   have hr':decide (0 < x.r) = false:=alB hr
   have p1:=fun n=>Ne.Tm (F:=F) (n:=n) T O C m x.now x.k (decide (x.r < 0)) x.s hF (by omega) (by omega) (by omega) hz.1 hz.2.1 hz.2.2.1 hz.2.2.2
   simp only [Ne.Nv.v,Se.v,mY] at p1
   simp only [alA,alG,hlt,hx,ht,h0,hn,rP,hr',p1,go_sem]
   done
 ·have hd:=@end_ _ l
  rw [al3]
  simp only [alA,hd,go_sem]
  done
end
section
attribute [local go_sem_proc] Nat.reduceAdd Nat.reduceMul Nat.reduceEqDiff Nat.reduceBEq Nat.reduceMod Nat.reduceDiv reduceCtorEq
attribute [local go_sem_proc ↓] reduceIte
open Go Ev
variable {ext : Env} {F n:Nat} {θ:Th} {nm:Int → ByteArray → List ByteArray} {gt:ByteArray → Int → Int → Int × Bool}
abbrev LY (now:Int):AV:=.agg [.iW,.iW,.f (.int .i64 now)]
theorem Gu (now:Int) (q:Qn):G ext F (n + 4) 56 [LY now,q.v] = some ([kZ.v,vb false],[LY now,q.v]):=by
 refine cZ (cf:=V5) rfl ?_
 have h1:=fun n=>LM (ext:=ext) (F:=F) (n:=n) now q
 dsimp only [V5,av,dB,bE,bM,aW,bZ,dS,eu,dH,aH,dn,dh,bU,bn];simp only [h1,go_sem]
 try rfl
theorem LZ (M:yF nm ext) (now:Int) (q:Qn):G ext F (n + 5) 57 [LY now,q.v] = some ([kZ.v,vs ⟨#[]⟩,vb false],[LY now,q.v]):=by
 refine cZ (cf:=V6) rfl ?_
 have h1:=fun n=>Gu (ext:=ext) (F:=F) (n:=n) now ⟨q.q,5,q.c⟩
 have h2:=fun n=>wW (F:=F) (n:=n) M kZ.s (by intro y h;cases h)
 rw [show uL nm kZ.s = (⟨#[]⟩,false) from Kn (by decide)] at h2
 simp only [kZ,Bw,Se.v,mY,alE] at h1 h2
 by_cases h5:q.t = 5
 ·have h5':decide (q.t = 5) = true:=alz h5
  dsimp only [V6,av,dB,bE,bM,aW,bZ,dS,eu,dH,aH,dn,dh,bU,bn];simp only [h5',go_sem]
  try rfl
 ·have h5':decide (q.t = 5) = false:=alB h5
  dsimp only [V6,av,dB,bE,bM,aW,bZ,dS,eu,dH,aH,dn,dh,bU,bn];simp only [h5',h1,h2,go_sem]
  try rfl
theorem Tz (now:Int) (c:Ch) (q:Qn):G ext F (n + 4) 58 [LY now,c.v,q.v] = some ([(Ch.v ⟨c.hits,3,c.nm,c.iI⟩)],[LY now,c.v,q.v]):=by
 refine cZ (cf:=Yw) rfl ?_
 have h1:=fun n=>Ne.IV (ext:=ext) (F:=F) (n:=n) now q
 dsimp only [Yw,av,dB,bE,bM,aW,bZ,dS,eu,dH,aH,dn,dh,bU,bn];simp only [h1,go_sem]
 try rfl
theorem I6 (O:yF nm ext) (hF:200000000000001 ≤ F) (now:Int) (q:Qn):G ext F (n + 6) 14 [.one .iW,.one .iW,vi now,q.v] = some ([(Ch.v ⟨[],3,q.q,kZ⟩)],[.one .iW,.one .iW,vi now,q.v]):=by
 refine cZ (cf:=c14) rfl ?_
 have hw1:IntKind.i64.wrap (0 + 1) = 1:=by decide
 have t1:=fun n=>Gu (ext:=ext) (F:=F) (n:=n) now q
 have a1:=fun n=>LZ (F:=F) (n:=n) O now q
 have e1:=fun n=>Tz (ext:=ext) (F:=F) (n:=n) now ⟨[],0,q.q,kZ⟩ q
 simp only [Ch.v,jB.v,kZ,Bw,alE] at t1 a1 e1 ⊢
 dsimp only [c14,av,dB,bE,bM,aW,bZ,dS,eu,dH,aH,dn,dh,bU,bn];simp only [go_sem]
 refine J8 1 (fun _:Unit=>⟨[(7,PV.c (CV.one (PL.ptr 160000 0))),(8,PV.c (CV.one (PL.ptr 180000 0))),(9,PV.c (CV.one (PL.ptr 200000 0))),(10,PV.c (CV.one (PL.ptr 220000 0))),(11,PV.c (CV.one (PL.mp 440000)))],[(160000,Ob.gM [PL.f (FV.str q.q),PL.f (FV.int IntKind.i64 q.t),PL.f (FV.int IntKind.i64 q.c)]),(180000,Ob.gM [PL.dz,PL.f (FV.int IntKind.i64 0),PL.f (FV.str ⟨#[]⟩),PL.f (FV.str ⟨#[]⟩),PL.f (FV.int IntKind.i64 0),PL.f (FV.int IntKind.i64 0),PL.dz,PL.f (FV.int IntKind.i64 0),PL.f (FV.int IntKind.i64 0)]),(200000,Ob.gM [PL.iW,PL.iW,PL.f (FV.int IntKind.i64 now)]),(220000,Ob.gM [PL.dz,PL.f (FV.int IntKind.i64 0),PL.f (FV.str ⟨#[]⟩),PL.f (FV.str ⟨#[]⟩),PL.f (FV.int IntKind.i64 0),PL.f (FV.int IntKind.i64 0),PL.dz,PL.f (FV.int IntKind.i64 0),PL.f (FV.int IntKind.i64 0)]),(440000,Ob.map (KS.one SK.str) [])]⟩) (fun i _=>i = 0) (by omega) () rfl rfl (fun i x hi hP=>?_) (fun x hP=>absurd hP (by decide))
 simp only [hw1,t1,a1,e1,ug,yB,yA,alE,List.findIdx?_nil,Option.getD_none,Option.bind_none,Option.map_none,go_sem]
abbrev nd_ : ByteArray:=⟨#[1,100,0]⟩
abbrev YO : ByteArray:=⟨#[1,101,0]⟩
abbrev k00 : Qn:=⟨⟨#[]⟩,0,0⟩
abbrev L5 : List Pt:=[⟨0,⟨na,5,1,[nb],7⟩,5,k00⟩,⟨0,⟨nb,1,1,[dd],5⟩,3,k00⟩,⟨0,⟨Tf,5,1,[nd_],7⟩,5,k00⟩,⟨0,⟨nd_,5,1,[Tf],7⟩,5,k00⟩,⟨0,⟨YO,5,1,[na],7⟩,2,k00⟩]
abbrev CX (θ:Th) (nm:Int → ByteArray → List ByteArray) (gt:ByteArray → Int → Int → Int × Bool) (q:ByteArray):Ch:=Bz nm (eH (lK θ gt L5).1 2) (Ne.gF (lK θ gt L5).2 2) 2 ⟨q,1,1⟩
structure PD (θ:Th) (nm:Int → ByteArray → List ByteArray) (gt:ByteArray → Int → Int → Int × Bool):Prop where
 a1:(CX θ nm gt na).hits.length = 2
 a2:(CX θ nm gt na).e = 0
 a3:(CX θ nm gt na).nm = nb
 a4:yG (lefts (CX θ nm gt na)) = 3
 c1:(CX θ nm gt Tf).e = 4
 c2:(CX θ nm gt Tf).hits.length = 2
 e1:(CX θ nm gt YO).e = 3
 e2:(CX θ nm gt YO).hits.length = 0
 t1:uL nm ⟨na,5,1,[nb],7⟩ = (nb,true)
theorem L6 (T:θ.Ok ext) (O:Ne.zV gt ext) (C:pO ext) (Q:Gb θ ext) (M:yF nm ext) (L:PD θ nm gt) (hF:200000000000001 ≤ F):G ext F (n + 8) 11 [] = some ([vb true],[]):=by
 refine cZ (cf:=c11) rfl ?_
 have f:=fun n=>nG (F:=F) (n:=n) T O C Q hF L5 (by decide) (by decide)
 have W:=(fiA (θ:=θ) (gt:=gt) L5).w (by decide)
 have g1:=fun n=>sG (F:=F) (n:=n) M C hF (lK θ gt L5).1 (lK θ gt L5).2 2 ⟨na,1,1⟩ W.hd W.hu W.hy W.hd2 W.hu2
 have g2:=fun n=>sG (F:=F) (n:=n) M C hF (lK θ gt L5).1 (lK θ gt L5).2 2 ⟨Tf,1,1⟩ W.hd W.hu W.hy W.hd2 W.hu2
 have g3:=fun n=>sG (F:=F) (n:=n) M C hF (lK θ gt L5).1 (lK θ gt L5).2 2 ⟨YO,1,1⟩ W.hd W.hu W.hy W.hd2 W.hu2
 have a1:(Bz nm (eH (lK θ gt L5).1 2) (Ne.gF (lK θ gt L5).2 2) 2 ⟨na,1,1⟩).hits.length = 2:=L.a1
 have a2:(Bz nm (eH (lK θ gt L5).1 2) (Ne.gF (lK θ gt L5).2 2) 2 ⟨na,1,1⟩).e = 0:=L.a2
 have a3:(Bz nm (eH (lK θ gt L5).1 2) (Ne.gF (lK θ gt L5).2 2) 2 ⟨na,1,1⟩).nm = nb:=L.a3
 have a4:yG (lefts (Bz nm (eH (lK θ gt L5).1 2) (Ne.gF (lK θ gt L5).2 2) 2 ⟨na,1,1⟩)) = 3:=L.a4
 have c1:(Bz nm (eH (lK θ gt L5).1 2) (Ne.gF (lK θ gt L5).2 2) 2 ⟨Tf,1,1⟩).e = 4:=L.c1
 have c2:(Bz nm (eH (lK θ gt L5).1 2) (Ne.gF (lK θ gt L5).2 2) 2 ⟨Tf,1,1⟩).hits.length = 2:=L.c2
 have e1:(Bz nm (eH (lK θ gt L5).1 2) (Ne.gF (lK θ gt L5).2 2) 2 ⟨YO,1,1⟩).e = 3:=L.e1
 have e2:(Bz nm (eH (lK θ gt L5).1 2) (Ne.gF (lK θ gt L5).2 2) 2 ⟨YO,1,1⟩).hits.length = 0:=L.e2
 generalize Bz nm (eH (lK θ gt L5).1 2) (Ne.gF (lK θ gt L5).2 2) 2 ⟨na,1,1⟩ = A at g1 a1 a2 a3 a4
 generalize Bz nm (eH (lK θ gt L5).1 2) (Ne.gF (lK θ gt L5).2 2) 2 ⟨Tf,1,1⟩ = B at g2 c1 c2
 generalize Bz nm (eH (lK θ gt L5).1 2) (Ne.gF (lK θ gt L5).2 2) 2 ⟨YO,1,1⟩ = D at g3 e1 e2
 have l1:=fun n=>Gs (ext:=ext) (F:=F) (n:=n) A (by omega) hF
 have k1:=fun n=>Gq (ext:=ext) (F:=F) (n:=n) A (by omega) hF
 rw [a4] at l1
 have t1:=fun n=>wW (F:=F) (n:=n) M ⟨na,5,1,[nb],7⟩ (by intro y hy;rw [amA] at hy;subst hy;decide)
 rw [L.t1] at t1
 have n1:=fun n=>I6 (F:=F) (n:=n) M hF 0 k00
 have s:=fun n a b=>YN (ext:=ext) (F:=F) (n:=n) a b
 generalize (lK θ gt L5).1 = S at f g1 g2 g3
 generalize (lK θ gt L5).2 = N at f g1 g2 g3
 simp only [Se.v,mY,Ch.v,jB.v,alD,alE,rP,dx,kZ,Bw] at f t1 n1 s
 simp only [Ch.v,a2,a3] at l1 k1
 have i2:((A.hits.length:Nat):Int) = 2:=by omega
 have i3:((B.hits.length:Nat):Int) = 2:=by omega
 have i4:((D.hits.length:Nat):Int) = 0:=by omega
 dsimp only [c11,av,dB,bE,bM,aW,bZ,dS,eu,dH,aH,dn,dh,bU,bn];simp only [f,s,g1,g2,g3,l1,k1,t1,n1,a2,a3,c1,e1,alA,i2,i3,i4,anc,go_sem]
 done
end
section
attribute [local go_sem_proc] Nat.reduceAdd Nat.reduceMul Nat.reduceEqDiff Nat.reduceBEq Nat.reduceMod Nat.reduceDiv reduceCtorEq
attribute [local go_sem_proc ↓] reduceIte
open Go Ev
variable {ext : Env} {F n:Nat} {θ:Th} {nm:Int → ByteArray → List ByteArray} {gt:ByteArray → Int → Int → Int × Bool}
theorem Kv (x:jB) (hl:x.s.d.length ≤ 1000000000000) (hF:200000000000001 ≤ F):G ext F (n + 3) 63 [x.v,x.v] = some ([vb true],[x.v,x.v]):=by
 refine cZ (cf:=c63) rfl ?_
 have h1:=fun n=>SX (ext:=ext) (F:=F) (n:=n) x.s.q x.s.t x.s.c x.s.d x.s.ttl x.s.q x.s.t x.s.c x.s.d x.s.ttl hl hF
 rw [show OE x.s.q x.s.t x.s.c x.s.d x.s.ttl x.s.q x.s.t x.s.c x.s.d x.s.ttl = true from alz ⟨rfl,rfl,rfl,rfl,rfl⟩] at h1
 dsimp only [c63,av,dB,bE,bM,aW,bZ,dS,eu,dH,aH,dn,dh,bU,bn];simp only [h1,anc,go_sem]
theorem PE (c:Ch) (hl:c.hits.length ≤ 1000000) (hd:∀ h ∈ c.hits,h.s.d.length ≤ 1000000000000) (hs:c.iI.s.d.length ≤ 1000000000000) (hF:200000000000001 ≤ F):G ext F (n + 4) 16 [c.v,c.v] = some ([vb true],[c.v,c.v]):=by
 refine cZ (cf:=c16) rfl ?_
 have h1:=fun n=>Kv (ext:=ext) (F:=F) (n:=n) c.iI hs hF
 dsimp only [c16,av,dB,bE,bM,aW,bZ,dS,eu,dH,aH,dn,dh,bU,bn];simp only [h1,alA,anc,go_sem]
 refine gZ c.hits.length (fun i=>⟨[(2,PV.c (CV.one (PL.ptr 60000 0))),(3,PV.c (CV.one (PL.ptr 80000 0))),(5,PV.c (CV.one (PL.f (FV.int .i64 i))))],[(60000,Ob.gM [PL.f (FV.sl (c.hits.map rH)),PL.f (FV.int .i64 c.e),PL.f (FV.str c.nm),PL.f (FV.str c.iI.s.q),PL.f (FV.int .i64 c.iI.s.t),PL.f (FV.int .i64 c.iI.s.c),PL.f (FV.sl (c.iI.s.d.map dx)),PL.f (FV.int .i64 c.iI.s.ttl),PL.f (FV.int .i64 c.iI.left)]),(80000,Ob.gM [PL.f (FV.sl (c.hits.map rH)),PL.f (FV.int .i64 c.e),PL.f (FV.str c.nm),PL.f (FV.str c.iI.s.q),PL.f (FV.int .i64 c.iI.s.t),PL.f (FV.int .i64 c.iI.s.c),PL.f (FV.sl (c.iI.s.d.map dx)),PL.f (FV.int .i64 c.iI.s.ttl),PL.f (FV.int .i64 c.iI.left)])]⟩) (fun i=>True) (by omega) rfl trivial (fun i hi hP=>?_) (fun hP=>?_)
 ·obtain ⟨x,hx,hlt,ht,h0⟩:=at_ hi
  have hn:=nx hi (by omega)
  have h2:=fun n=>Kv (ext:=ext) (F:=F) (n:=n) x (hd x (amH hx)) hF
  simp only [alA,alG,hlt,hx,ht,h0,hn,rH,h2,go_sem]
  try rfl
 ·have hde:=@end_ _ c.hits
  simp only [alA,hde,go_sem]
def tdT (c:Ch) (i:Nat) (hs:List jB):St:=match hs with
 | []=>⟨[(1,PV.c (CV.one (PL.ptr 40000 0))),(2,PV.c (CV.one (PL.ptr 60000 0))),(3,PV.c (CV.one (PL.ptr 80000 0))),(4,PV.c (CV.one (PL.f (FV.int IntKind.i64 i))))],[(40000,Ob.gM [PL.f (FV.sl (c.hits.map rH)),PL.f (FV.int .i64 c.e),PL.f (FV.str c.nm),PL.f (FV.str c.iI.s.q),PL.f (FV.int .i64 c.iI.s.t),PL.f (FV.int .i64 c.iI.s.c),PL.f (FV.sl (c.iI.s.d.map dx)),PL.f (FV.int .i64 c.iI.s.ttl),PL.f (FV.int .i64 c.iI.left)]),(60000,Ob.gM [PL.dz,PL.f (FV.int .i64 0),PL.f (FV.str ⟨#[]⟩),PL.f (FV.str ⟨#[]⟩),PL.f (FV.int .i64 0),PL.f (FV.int .i64 0),PL.dz,PL.f (FV.int .i64 0),PL.f (FV.int .i64 0)]),(80000,Ob.gM [PL.dz,PL.f (FV.int .i64 c.e),PL.f (FV.str c.nm),PL.f (FV.str c.iI.s.q),PL.f (FV.int .i64 c.iI.s.t),PL.f (FV.int .i64 c.iI.s.c),PL.f (FV.sl (c.iI.s.d.map dx)),PL.f (FV.int .i64 c.iI.s.ttl),PL.f (FV.int .i64 c.iI.left)])]⟩
 | _=>⟨[(1,PV.c (CV.one (PL.ptr 40000 0))),(2,PV.c (CV.one (PL.ptr 60000 0))),(3,PV.c (CV.one (PL.ptr 80000 0))),(4,PV.c (CV.one (PL.f (FV.int IntKind.i64 i))))],[(40000,Ob.gM [PL.f (FV.sl (c.hits.map rH)),PL.f (FV.int .i64 c.e),PL.f (FV.str c.nm),PL.f (FV.str c.iI.s.q),PL.f (FV.int .i64 c.iI.s.t),PL.f (FV.int .i64 c.iI.s.c),PL.f (FV.sl (c.iI.s.d.map dx)),PL.f (FV.int .i64 c.iI.s.ttl),PL.f (FV.int .i64 c.iI.left)]),(60000,Ob.gM [PL.dz,PL.f (FV.int .i64 0),PL.f (FV.str ⟨#[]⟩),PL.f (FV.str ⟨#[]⟩),PL.f (FV.int .i64 0),PL.f (FV.int .i64 0),PL.dz,PL.f (FV.int .i64 0),PL.f (FV.int .i64 0)]),(80000,Ob.gM [PL.own 560000 (hs.map rH).length,PL.f (FV.int .i64 c.e),PL.f (FV.str c.nm),PL.f (FV.str c.iI.s.q),PL.f (FV.int .i64 c.iI.s.t),PL.f (FV.int .i64 c.iI.s.c),PL.f (FV.sl (c.iI.s.d.map dx)),PL.f (FV.int .i64 c.iI.s.ttl),PL.f (FV.int .i64 c.iI.left)]),(560000,Ob.row 6 (hs.map rH))]⟩
theorem PG (c:Ch) (i:Nat):tdT c i [] = ⟨[(1,PV.c (CV.one (PL.ptr 40000 0))),(2,PV.c (CV.one (PL.ptr 60000 0))),(3,PV.c (CV.one (PL.ptr 80000 0))),(4,PV.c (CV.one (PL.f (FV.int IntKind.i64 i))))],[(40000,Ob.gM [PL.f (FV.sl (c.hits.map rH)),PL.f (FV.int .i64 c.e),PL.f (FV.str c.nm),PL.f (FV.str c.iI.s.q),PL.f (FV.int .i64 c.iI.s.t),PL.f (FV.int .i64 c.iI.s.c),PL.f (FV.sl (c.iI.s.d.map dx)),PL.f (FV.int .i64 c.iI.s.ttl),PL.f (FV.int .i64 c.iI.left)]),(60000,Ob.gM [PL.dz,PL.f (FV.int .i64 0),PL.f (FV.str ⟨#[]⟩),PL.f (FV.str ⟨#[]⟩),PL.f (FV.int .i64 0),PL.f (FV.int .i64 0),PL.dz,PL.f (FV.int .i64 0),PL.f (FV.int .i64 0)]),(80000,Ob.gM [PL.dz,PL.f (FV.int .i64 c.e),PL.f (FV.str c.nm),PL.f (FV.str c.iI.s.q),PL.f (FV.int .i64 c.iI.s.t),PL.f (FV.int .i64 c.iI.s.c),PL.f (FV.sl (c.iI.s.d.map dx)),PL.f (FV.int .i64 c.iI.s.ttl),PL.f (FV.int .i64 c.iI.left)])]⟩:=rfl
theorem Ej (c:Ch) (i:Nat) (hs:List jB) (h:hs ≠ []):tdT c i hs = ⟨[(1,PV.c (CV.one (PL.ptr 40000 0))),(2,PV.c (CV.one (PL.ptr 60000 0))),(3,PV.c (CV.one (PL.ptr 80000 0))),(4,PV.c (CV.one (PL.f (FV.int IntKind.i64 i))))],[(40000,Ob.gM [PL.f (FV.sl (c.hits.map rH)),PL.f (FV.int .i64 c.e),PL.f (FV.str c.nm),PL.f (FV.str c.iI.s.q),PL.f (FV.int .i64 c.iI.s.t),PL.f (FV.int .i64 c.iI.s.c),PL.f (FV.sl (c.iI.s.d.map dx)),PL.f (FV.int .i64 c.iI.s.ttl),PL.f (FV.int .i64 c.iI.left)]),(60000,Ob.gM [PL.dz,PL.f (FV.int .i64 0),PL.f (FV.str ⟨#[]⟩),PL.f (FV.str ⟨#[]⟩),PL.f (FV.int .i64 0),PL.f (FV.int .i64 0),PL.dz,PL.f (FV.int .i64 0),PL.f (FV.int .i64 0)]),(80000,Ob.gM [PL.own 560000 (hs.map rH).length,PL.f (FV.int .i64 c.e),PL.f (FV.str c.nm),PL.f (FV.str c.iI.s.q),PL.f (FV.int .i64 c.iI.s.t),PL.f (FV.int .i64 c.iI.s.c),PL.f (FV.sl (c.iI.s.d.map dx)),PL.f (FV.int .i64 c.iI.s.ttl),PL.f (FV.int .i64 c.iI.left)]),(560000,Ob.row 6 (hs.map rH))]⟩:=by
 cases hs with
 | nil=>exact absurd rfl h
 | cons a l=>rfl
theorem L8 (k:Ch) (hl:k.hits.length ≤ 1000000) (hF:200000000000001 ≤ F):G ext F (n + 1) 17 [k.v] = some ([k.v],[k.v]):=by
 refine cZ (cf:=c17) rfl ?_
 dsimp only [c17,av,dB,bE,bM,aW,bZ,dS,eu,dH,aH,dn,dh,bU,bn];simp only [go_sem]
 refine gZ k.hits.length (fun i=>tdT k i (k.hits.take i)) (fun i=>True) (by omega) rfl trivial (fun i hi hP=>?_) (fun hP=>?_)
 ·obtain ⟨x,hx,hlt,ht,h0⟩:=at_ hi
  have hn:=nx hi (by omega)
  have hsx:(k.hits.take (i + 1)).map rH = (k.hits.take i).map rH ++ [[.str x.s.q,.int .i64 x.s.t,.int .i64 x.s.c,.sl (x.s.d.map dx),.int .i64 x.s.ttl,.int .i64 x.left]]:=by rw [al7,hx];simp [rH]
  have hg:k.hits.take (i + 1) ≠ []:=by
   intro e
   have hle:(k.hits.take (i + 1)).length = i + 1:=by rw [alP];omega
   rw [e] at hle
   cases hle
  have hszz:(((k.hits.take i).map rH).length + 1) * 72 ≤ 140737488355328:=by simp;omega
  rw [Ej _ _ _ hg]
  rcases lJ (k.hits.take i) with hz0 | hz0
  ·rw [hsx,hz0,PG]
   simp only [alA,alG,hlt,hx,ht,h0,rH,hn,go_sem]
   try decide
  ·rw [hsx,Ej _ _ _ hz0]
   simp only [alG,hlt,hx,ht,h0,rH,hn,hszz,alA,go_sem]
   simp
   omega
 ·have hde:=@end_ _ k.hits
  rw [al3]
  rcases lJ k.hits with hz0 | hz0
  ·obtain ⟨hits,e,nm',iI⟩:=k
   obtain rfl:hits = []:=hz0
   rw [PG]
   simp only [Ch.v,alE,List.length_nil] at hde ⊢
   simp only [hde,List.length_nil,go_sem]
   done
  ·rw [Ej _ _ _ hz0]
   simp only [hde,alA,go_sem]
   done
theorem Kw (s:Sr) (now:Int) (q:Qn) (hl:s.l.length ≤ 1000000000) (hF:200000000000001 ≤ F):G ext F (n + 4) 59 [s.v,vi now,q.v] = some ([(dW s now q).1.v,vb ((dW s now q).2 && zY (dW s now q).1.r)],[s.v,vi now,q.v]):=by
 refine cZ (cf:=c59) rfl ?_
 have h1:=fun n=>OM (ext:=ext) (F:=F) (n:=n) s now q (by omega) hF
 cases hv:(dW s now q).2 with
 | false =>
  rw [hv] at h1
  dsimp only [c59,av,dB,bE,bM,aW,bZ,dS,eu,dH,aH,dn,dh,bU,bn];simp only [h1,go_sem]
  done
 | true =>
  rw [hv] at h1
  dsimp only [c59,av,dB,bE,bM,aW,bZ,dS,eu,dH,aH,dn,dh,bU,bn];simp only [h1,LP,go_sem]
  done
end
section
attribute [local go_sem_proc] Nat.reduceAdd Nat.reduceMul Nat.reduceEqDiff Nat.reduceBEq Nat.reduceMod Nat.reduceDiv reduceCtorEq
attribute [local go_sem_proc ↓] reduceIte
open Go Ev
variable {ext : Env} {F n:Nat} {θ:Th} {nm:Int → ByteArray → List ByteArray} {gt:ByteArray → Int → Int → Int × Bool}
abbrev It.st (x:It):Se:=⟨x.q,x.t,x.c,x.d,x.ttl⟩
theorem acB {pk:Qn → It × Bool} {now:Int} {q:Qn} (h:((pk q).2 && zY (pk q).1.r) = true):tl pk now q = some ⟨(pk q).1.st,jK now (pk q).1.u⟩:=by
 unfold tl
 rw [alN] at h
 rw [alx h]
theorem acC {pk:Qn → It × Bool} {now:Int} {q:Qn} (h:((pk q).2 && zY (pk q).1.r) = false):tl pk now q = none:=by
 unfold tl
 rw [aly (by rw [← alN,h];decide)]
def gT (s:Sr) (m:Ne.Rn) (now:Int) (M:List ByteArray) (hits:List jB) (pn:ByteArray) (q:Qn) (ig:ByteArray):St:=match hits with
 | []=>⟨[(2,PV.c (CV.one (PL.f (FV.int .i64 now)))),(4,PV.c (CV.one (PL.ptr 100000 0))),(5,PV.c (CV.one (PL.ptr 120000 0))),(7,PV.c (CV.one (PL.ptr 160000 0))),(8,PV.c (CV.one (PL.ptr 180000 0))),(9,PV.c (CV.one (PL.ptr 200000 0))),(10,PV.c (CV.one (PL.own 520000 (M.map dx).length))),(11,PV.c (CV.one (PL.f (FV.str ig))))],[(100000,Ob.gM [PL.f (FV.int .i64 s.room),PL.f (FV.sl (s.l.map rI)),PL.f (FV.int .i64 s.ch)]),(120000,Ob.gM [PL.f (FV.int .i64 m.room),PL.f (FV.sl (m.l.map Ne.rN)),PL.f (FV.int .i64 m.ch)]),(160000,Ob.gM [PL.f (FV.str q.q),PL.f (FV.int .i64 q.t),PL.f (FV.int .i64 q.c)]),(180000,Ob.gM [PL.dz,PL.f (FV.int .i64 0),PL.f (FV.str ⟨#[]⟩),PL.f (FV.str ⟨#[]⟩),PL.f (FV.int .i64 0),PL.f (FV.int .i64 0),PL.dz,PL.f (FV.int .i64 0),PL.f (FV.int .i64 0)]),(200000,Ob.gM [PL.dz,PL.f (FV.int .i64 0),PL.f (FV.str pn),PL.f (FV.str ⟨#[]⟩),PL.f (FV.int .i64 0),PL.f (FV.int .i64 0),PL.dz,PL.f (FV.int .i64 0),PL.f (FV.int .i64 0)]),(520000,Ob.row 1 (M.map dx))]⟩
 | _=>⟨[(2,PV.c (CV.one (PL.f (FV.int .i64 now)))),(4,PV.c (CV.one (PL.ptr 100000 0))),(5,PV.c (CV.one (PL.ptr 120000 0))),(7,PV.c (CV.one (PL.ptr 160000 0))),(8,PV.c (CV.one (PL.ptr 180000 0))),(9,PV.c (CV.one (PL.ptr 200000 0))),(10,PV.c (CV.one (PL.own 520000 (M.map dx).length))),(11,PV.c (CV.one (PL.f (FV.str ig))))],[(100000,Ob.gM [PL.f (FV.int .i64 s.room),PL.f (FV.sl (s.l.map rI)),PL.f (FV.int .i64 s.ch)]),(120000,Ob.gM [PL.f (FV.int .i64 m.room),PL.f (FV.sl (m.l.map Ne.rN)),PL.f (FV.int .i64 m.ch)]),(160000,Ob.gM [PL.f (FV.str q.q),PL.f (FV.int .i64 q.t),PL.f (FV.int .i64 q.c)]),(180000,Ob.gM [PL.dz,PL.f (FV.int .i64 0),PL.f (FV.str ⟨#[]⟩),PL.f (FV.str ⟨#[]⟩),PL.f (FV.int .i64 0),PL.f (FV.int .i64 0),PL.dz,PL.f (FV.int .i64 0),PL.f (FV.int .i64 0)]),(200000,Ob.gM [PL.own 1960000 (hits.map rH).length,PL.f (FV.int .i64 0),PL.f (FV.str pn),PL.f (FV.str ⟨#[]⟩),PL.f (FV.int .i64 0),PL.f (FV.int .i64 0),PL.dz,PL.f (FV.int .i64 0),PL.f (FV.int .i64 0)]),(520000,Ob.row 1 (M.map dx)),(1960000,Ob.row 6 (hits.map rH))]⟩
theorem qx (s:Sr) (m:Ne.Rn) (now:Int) (M:List ByteArray) (pn:ByteArray) (q:Qn) (ig:ByteArray):gT s m now M [] pn q ig = ⟨[(2,PV.c (CV.one (PL.f (FV.int .i64 now)))),(4,PV.c (CV.one (PL.ptr 100000 0))),(5,PV.c (CV.one (PL.ptr 120000 0))),(7,PV.c (CV.one (PL.ptr 160000 0))),(8,PV.c (CV.one (PL.ptr 180000 0))),(9,PV.c (CV.one (PL.ptr 200000 0))),(10,PV.c (CV.one (PL.own 520000 (M.map dx).length))),(11,PV.c (CV.one (PL.f (FV.str ig))))],[(100000,Ob.gM [PL.f (FV.int .i64 s.room),PL.f (FV.sl (s.l.map rI)),PL.f (FV.int .i64 s.ch)]),(120000,Ob.gM [PL.f (FV.int .i64 m.room),PL.f (FV.sl (m.l.map Ne.rN)),PL.f (FV.int .i64 m.ch)]),(160000,Ob.gM [PL.f (FV.str q.q),PL.f (FV.int .i64 q.t),PL.f (FV.int .i64 q.c)]),(180000,Ob.gM [PL.dz,PL.f (FV.int .i64 0),PL.f (FV.str ⟨#[]⟩),PL.f (FV.str ⟨#[]⟩),PL.f (FV.int .i64 0),PL.f (FV.int .i64 0),PL.dz,PL.f (FV.int .i64 0),PL.f (FV.int .i64 0)]),(200000,Ob.gM [PL.dz,PL.f (FV.int .i64 0),PL.f (FV.str pn),PL.f (FV.str ⟨#[]⟩),PL.f (FV.int .i64 0),PL.f (FV.int .i64 0),PL.dz,PL.f (FV.int .i64 0),PL.f (FV.int .i64 0)]),(520000,Ob.row 1 (M.map dx))]⟩:=rfl
theorem lM (s:Sr) (m:Ne.Rn) (now:Int) (M:List ByteArray) (hits:List jB) (pn:ByteArray) (q:Qn) (ig:ByteArray) (h:hits ≠ []):gT s m now M hits pn q ig = ⟨[(2,PV.c (CV.one (PL.f (FV.int .i64 now)))),(4,PV.c (CV.one (PL.ptr 100000 0))),(5,PV.c (CV.one (PL.ptr 120000 0))),(7,PV.c (CV.one (PL.ptr 160000 0))),(8,PV.c (CV.one (PL.ptr 180000 0))),(9,PV.c (CV.one (PL.ptr 200000 0))),(10,PV.c (CV.one (PL.own 520000 (M.map dx).length))),(11,PV.c (CV.one (PL.f (FV.str ig))))],[(100000,Ob.gM [PL.f (FV.int .i64 s.room),PL.f (FV.sl (s.l.map rI)),PL.f (FV.int .i64 s.ch)]),(120000,Ob.gM [PL.f (FV.int .i64 m.room),PL.f (FV.sl (m.l.map Ne.rN)),PL.f (FV.int .i64 m.ch)]),(160000,Ob.gM [PL.f (FV.str q.q),PL.f (FV.int .i64 q.t),PL.f (FV.int .i64 q.c)]),(180000,Ob.gM [PL.dz,PL.f (FV.int .i64 0),PL.f (FV.str ⟨#[]⟩),PL.f (FV.str ⟨#[]⟩),PL.f (FV.int .i64 0),PL.f (FV.int .i64 0),PL.dz,PL.f (FV.int .i64 0),PL.f (FV.int .i64 0)]),(200000,Ob.gM [PL.own 1960000 (hits.map rH).length,PL.f (FV.int .i64 0),PL.f (FV.str pn),PL.f (FV.str ⟨#[]⟩),PL.f (FV.int .i64 0),PL.f (FV.int .i64 0),PL.dz,PL.f (FV.int .i64 0),PL.f (FV.int .i64 0)]),(520000,Ob.row 1 (M.map dx)),(1960000,Ob.row 6 (hits.map rH))]⟩:=by
 cases hits with
 | nil=>exact absurd rfl h
 | cons a l=>rfl
theorem I7 (O:yF nm ext) (hF:200000000000001 ≤ F) (s:Sr) (m:Ne.Rn) (now:Int) (q:Qn) (hl:s.l.length ≤ 1000000) (hu:∀ x ∈ s.l,x.u ≤ 4611686018427387904) (hy:∀ x ∈ s.l,∀ y ∈ x.d,y.size ≤ 1000000) (hl2:m.l.length ≤ 1000000) (hu2:∀ x ∈ m.l,x.u ≤ 4611686018427387904) :
  G ext F (n + 5) 15 [s.v,m.v,vi now,q.v] = some ([(Bz nm (dW s now) (Ne.iE m now) now q).v],[s.v,m.v,vi now,q.v]):=by
 refine cZ (cf:=c15) rfl ?_
 generalize hres:Bz nm (dW s now) (Ne.iE m now) now q = R
 dsimp only [c15,av,dB,bE,bM,aW,bZ,dS,eu,dH,aH,dn,dh,bU,bn];simp only [go_sem]
 refine J8 9 (fun x:List ByteArray × List jB × ByteArray × ByteArray=>gT s m now x.1 x.2.1 x.2.2.1 q x.2.2.2) (fun i x=>x.2.1.length = i ∧ i < 9 ∧ x.1.length ≤ i + 1 ∧ Km nm (dW s now) (Ne.iE m now) now (9 - i) x.1 x.2.1 ⟨x.2.2.2,q.t,q.c⟩ = R) (by omega) ([q.q],[],⟨#[]⟩,q.q) rfl ⟨rfl,by omega,by simp,hres⟩ (fun i x hi hP=>?_) (fun x hP=>absurd hP.2.1 (by omega))
 obtain ⟨M,hits,pn,ig⟩:=x
 obtain ⟨hlen, -,hM,hf⟩:=hP
 simp only at hlen hM hf ⊢
 obtain ⟨f,hf9⟩:∃ f,9 - i = f + 1:=⟨8 - i,by omega⟩
 rw [hf9] at hf
 have pd:∀ k,(∀ y ∈ (dW s now k).1.d,y.size ≤ 1000000) ∧ (dW s now k).1.u ≤ 4611686018427387904:=fun k=>by
  unfold dW
  split
  ·rename_i x ho
   split
   ·exact ⟨hy x (ku ho).2,hu x (ku ho).2⟩
   ·exact ⟨(by intro y h;cases h),(by decide)⟩
  ·exact ⟨(by intro y h;cases h),(by decide)⟩
 have r1:=fun n=>Kw (ext:=ext) (F:=F) (n:=n) s now ⟨ig,q.t,q.c⟩ (by omega) hF
 have r2:=fun n=>Kw (ext:=ext) (F:=F) (n:=n) s now ⟨ig,5,q.c⟩ (by omega) hF
 have g1:=fun n=>I4 (F:=F) (n:=n) O (dW s now ⟨ig,5,q.c⟩).1.st (pd _).1
 have l1:=fun n=>zZ (ext:=ext) (F:=F) (n:=n) now (dW s now ⟨ig,q.t,q.c⟩).1.u (pd _).2
 have l2:=fun n=>zZ (ext:=ext) (F:=F) (n:=n) now (dW s now ⟨ig,5,q.c⟩).1.u (pd _).2
 have fd:=fun n=>Ne.O8 (ext:=ext) (F:=F) (n:=n) m now ⟨ig,q.t,q.c⟩ (by omega) hF
 have fu:(Ne.iE m now ⟨ig,q.t,q.c⟩).1.u ≤ 4611686018427387904:=by
  have h9:∀ b y,Ne.Na m.l now b = some y → y.u ≤ 4611686018427387904:=fun b y hy=>hu2 _ (anH hy)
  unfold Ne.iE
  split
  ·rename_i y hy;exact h9 _ _ hy
  ·unfold Ne.Ro
   split
   ·rename_i y hy;exact h9 _ _ hy
   ·show (0:Int) ≤ _;omega
 have l3:=fun n=>zZ (ext:=ext) (F:=F) (n:=n) now (Ne.iE m now ⟨ig,q.t,q.c⟩).1.u fu
 unfold Km at hf
 have hsz:(((hits.map rH).length:Nat) + 1) * 72 ≤ 140737488355328:=by rw [alA];omega
 have hsz2:(((M.map dx).length:Nat) + 1) * 16 ≤ 140737488355328:=by rw [alA];omega
 cases h1:(dW s now ⟨ig,q.t,q.c⟩).2 && zY (dW s now ⟨ig,q.t,q.c⟩).1.r with
 | true =>
  rw [h1] at r1
  rw [acB h1] at hf
  subst hf
  rcases lJ hits with rfl | z1
  ·rw [qx]
   simp only [r1,l1,go_sem]
   exact ⟨by decide,rfl⟩
  ·rw [lM _ _ _ _ _ _ _ _ z1]
   simp only [r1,l1,hsz,go_sem]
   simp [rH,kZ,Bw]
 | false =>
  rw [h1] at r1
  rw [acC h1] at hf
  simp only at hf
  by_cases h5:q.t = 5
  ·have h5':decide (q.t = 5) = true:=alz h5
   have hal:al nm (dW s now) now ⟨ig,q.t,q.c⟩ = none:=by unfold al;rw [alx h5]
   rw [hal] at hf
   simp only at hf
   cases hv:(Ne.iE m now ⟨ig,q.t,q.c⟩).2 with
   | false =>
    have hfin:fin (Ne.iE m now) now hits ⟨ig,q.t,q.c⟩ = ⟨hits,3,ig,kZ⟩:=by unfold fin;rw [aly (by rw [hv];decide)]
    rw [hfin] at hf
    subst hf
    rw [hv] at fd
    rcases lJ hits with rfl | z1
    ·rw [qx]
     simp only [r1,r2,g1,h5',fd,go_sem]
     try rfl
    ·rw [lM _ _ _ _ _ _ _ _ z1]
     simp only [r1,r2,g1,h5',fd,go_sem]
     try rfl
   | true =>
    rw [hv] at fd
    cases hx:(Ne.iE m now ⟨ig,q.t,q.c⟩).1.nx
    all_goals
     have hfin:fin (Ne.iE m now) now hits ⟨ig,q.t,q.c⟩ = ⟨hits,if (Ne.iE m now ⟨ig,q.t,q.c⟩).1.nx = true then 2 else 1,ig,⟨(Ne.iE m now ⟨ig,q.t,q.c⟩).1.s,jK now (Ne.iE m now ⟨ig,q.t,q.c⟩).1.u⟩⟩:=by unfold fin;rw [alx hv]
     rw [hfin,hx] at hf
     subst hf
     rcases lJ hits with rfl | z1
     ·rw [qx]
      simp only [r1,r2,g1,h5',fd,hx,l3,go_sem]
      try rfl
     ·rw [lM _ _ _ _ _ _ _ _ z1]
      simp only [r1,r2,g1,h5',fd,hx,l3,go_sem]
      try rfl
  ·have h5':decide (q.t = 5) = false:=alB h5
   cases h2:(dW s now ⟨ig,5,q.c⟩).2 && zY (dW s now ⟨ig,5,q.c⟩).1.r with
   | false =>
    rw [h2] at r2
    have hal:al nm (dW s now) now ⟨ig,q.t,q.c⟩ = none:=by
     unfold al
     rw [aly h5,show tl (dW s now) now ⟨(⟨ig,q.t,q.c⟩:Qn).q,5,(⟨ig,q.t,q.c⟩:Qn).c⟩ = none from acC (q:=⟨ig,5,q.c⟩) h2]
     rfl
    rw [hal] at hf
    simp only at hf
    cases hv:(Ne.iE m now ⟨ig,q.t,q.c⟩).2 with
    | false =>
     have hfin:fin (Ne.iE m now) now hits ⟨ig,q.t,q.c⟩ = ⟨hits,3,ig,kZ⟩:=by unfold fin;rw [aly (by rw [hv];decide)]
     rw [hfin] at hf
     subst hf
     rw [hv] at fd
     rcases lJ hits with rfl | z1
     ·rw [qx]
      simp only [r1,r2,g1,h5',fd,go_sem]
      try rfl
     ·rw [lM _ _ _ _ _ _ _ _ z1]
      simp only [r1,r2,g1,h5',fd,go_sem]
      try rfl
    | true =>
     rw [hv] at fd
     cases hx:(Ne.iE m now ⟨ig,q.t,q.c⟩).1.nx
     all_goals
      have hfin:fin (Ne.iE m now) now hits ⟨ig,q.t,q.c⟩ = ⟨hits,if (Ne.iE m now ⟨ig,q.t,q.c⟩).1.nx = true then 2 else 1,ig,⟨(Ne.iE m now ⟨ig,q.t,q.c⟩).1.s,jK now (Ne.iE m now ⟨ig,q.t,q.c⟩).1.u⟩⟩:=by unfold fin;rw [alx hv]
      rw [hfin,hx] at hf
      subst hf
      rcases lJ hits with rfl | z1
      ·rw [qx]
       simp only [r1,r2,g1,h5',fd,hx,l3,go_sem]
       try rfl
      ·rw [lM _ _ _ _ _ _ _ _ z1]
       simp only [r1,r2,g1,h5',fd,hx,l3,go_sem]
       try rfl
   | true =>
    rw [h2] at r2
    have ht2:tl (dW s now) now ⟨(⟨ig,q.t,q.c⟩:Qn).q,5,(⟨ig,q.t,q.c⟩:Qn).c⟩ = some ⟨(dW s now ⟨ig,5,q.c⟩).1.st,jK now (dW s now ⟨ig,5,q.c⟩).1.u⟩:=acB (q:=⟨ig,5,q.c⟩) h2
    cases hg:tg nm (dW s now ⟨ig,5,q.c⟩).1.st with
    | none =>
     have hal:al nm (dW s now) now ⟨ig,q.t,q.c⟩ = none:=by
      unfold al
      rw [aly h5,ht2,Option.bind_some,hg]
      rfl
     have hgR:uL nm (dW s now ⟨ig,5,q.c⟩).1.st = (⟨#[]⟩,false):=by unfold uL;rw [hg]
     rw [hgR] at g1
     rw [hal] at hf
     simp only at hf
     cases hv:(Ne.iE m now ⟨ig,q.t,q.c⟩).2 with
     | false =>
      have hfin:fin (Ne.iE m now) now hits ⟨ig,q.t,q.c⟩ = ⟨hits,3,ig,kZ⟩:=by unfold fin;rw [aly (by rw [hv];decide)]
      rw [hfin] at hf
      subst hf
      rw [hv] at fd
      rcases lJ hits with rfl | z1
      ·rw [qx]
       simp only [r1,r2,g1,h5',fd,go_sem]
       try rfl
      ·rw [lM _ _ _ _ _ _ _ _ z1]
       simp only [r1,r2,g1,h5',fd,go_sem]
       try rfl
     | true =>
      rw [hv] at fd
      cases hx:(Ne.iE m now ⟨ig,q.t,q.c⟩).1.nx
      all_goals
       have hfin:fin (Ne.iE m now) now hits ⟨ig,q.t,q.c⟩ = ⟨hits,if (Ne.iE m now ⟨ig,q.t,q.c⟩).1.nx = true then 2 else 1,ig,⟨(Ne.iE m now ⟨ig,q.t,q.c⟩).1.s,jK now (Ne.iE m now ⟨ig,q.t,q.c⟩).1.u⟩⟩:=by unfold fin;rw [alx hv]
       rw [hfin,hx] at hf
       subst hf
       rcases lJ hits with rfl | z1
       ·rw [qx]
        simp only [r1,r2,g1,h5',fd,hx,l3,go_sem]
        try rfl
       ·rw [lM _ _ _ _ _ _ _ _ z1]
        simp only [r1,r2,g1,h5',fd,hx,l3,go_sem]
        try rfl
    | some ZZ8 =>
     have hal:al nm (dW s now) now ⟨ig,q.t,q.c⟩ = some (⟨(dW s now ⟨ig,5,q.c⟩).1.st,jK now (dW s now ⟨ig,5,q.c⟩).1.u⟩,ZZ8):=by
      unfold al
      rw [aly h5,ht2,Option.bind_some,hg]
      rfl
     have hgR:uL nm (dW s now ⟨ig,5,q.c⟩).1.st = (ZZ8,true):=by unfold uL;rw [hg]
     rw [hgR] at g1
     rw [hal] at hf
     simp only at hf
     generalize hH:(⟨(dW s now ⟨ig,5,q.c⟩).1.st,jK now (dW s now ⟨ig,5,q.c⟩).1.u⟩:jB) = h at hf
     have hin:=fun n=>V8 (ext:=ext) (F:=F) (n:=n) M ZZ8 (by omega) hF
     have hml:((hits ++ [h]).map rH) = hits.map rH ++ [[FV.str (dW s now ⟨ig,5,q.c⟩).1.q,FV.int IntKind.i64 (dW s now ⟨ig,5,q.c⟩).1.t,FV.int IntKind.i64 (dW s now ⟨ig,5,q.c⟩).1.c,FV.sl (List.map dx (dW s now ⟨ig,5,q.c⟩).1.d),FV.int IntKind.i64 (dW s now ⟨ig,5,q.c⟩).1.ttl,FV.int IntKind.i64 (jK now (dW s now ⟨ig,5,q.c⟩).1.u)]]:=by rw [← hH];simp [rH]
     have hmM:((M ++ [ZZ8]).map dx) = M.map dx ++ [[FV.str ZZ8]]:=by simp [dx]
     have hll:(hits.map rH).length = hits.length:=alA _
     by_cases h8:8 ≤ hits.length
     ·rw [alx (.inl h8)] at hf
      subst hf
      have c8:decide ((8:Int) ≤ (((hits.map rH).length:Nat):Int)) = true:=alz (by omega)
      rcases lJ hits with rfl | z1
      ·simp at h8
      ·rw [lM _ _ _ _ _ _ _ _ z1]
       rw [show Ch.v ⟨hits ++ [h],4,ig,kZ⟩ = .agg [.f (.sl (hits.map rH ++ [[FV.str (dW s now ⟨ig,5,q.c⟩).1.q,FV.int IntKind.i64 (dW s now ⟨ig,5,q.c⟩).1.t,FV.int IntKind.i64 (dW s now ⟨ig,5,q.c⟩).1.c,FV.sl (List.map dx (dW s now ⟨ig,5,q.c⟩).1.d),FV.int IntKind.i64 (dW s now ⟨ig,5,q.c⟩).1.ttl,FV.int IntKind.i64 (jK now (dW s now ⟨ig,5,q.c⟩).1.u)]])),.f (.int .i64 4),.f (.str ig),.f (.str ⟨#[]⟩),.f (.int .i64 0),.f (.int .i64 0),.f (.sl []),.f (.int .i64 0),.f (.int .i64 0)] from by simp only [Ch.v,hml];rfl]
       simp only [r1,r2,g1,h5',l2,hsz,c8,go_sem]
       try rfl
     ·have c8:decide ((8:Int) ≤ (((hits.map rH).length:Nat):Int)) = false:=alB (by omega)
      have c8':decide ((8:Int) ≤ ((0:Nat):Int)) = false:=by decide
      have acD:decide ((8:Int) ≤ 0) = false:=by decide
      cases hi':xQ M ZZ8 with
      | true =>
       rw [alx (.inr hi')] at hf
       subst hf
       rw [hi'] at hin
       rw [show Ch.v ⟨hits ++ [h],4,ig,kZ⟩ = .agg [.f (.sl (hits.map rH ++ [[FV.str (dW s now ⟨ig,5,q.c⟩).1.q,FV.int IntKind.i64 (dW s now ⟨ig,5,q.c⟩).1.t,FV.int IntKind.i64 (dW s now ⟨ig,5,q.c⟩).1.c,FV.sl (List.map dx (dW s now ⟨ig,5,q.c⟩).1.d),FV.int IntKind.i64 (dW s now ⟨ig,5,q.c⟩).1.ttl,FV.int IntKind.i64 (jK now (dW s now ⟨ig,5,q.c⟩).1.u)]])),.f (.int .i64 4),.f (.str ig),.f (.str ⟨#[]⟩),.f (.int .i64 0),.f (.int .i64 0),.f (.sl []),.f (.int .i64 0),.f (.int .i64 0)] from by simp only [Ch.v,hml];rfl]
       rcases lJ hits with rfl | z1
       ·rw [qx]
        simp only [r1,r2,g1,h5',l2,c8',acD,hin,List.length_nil,alE,List.nil_append,go_sem]
        first | exact ⟨by decide,rfl⟩ | decide
       ·rw [lM _ _ _ _ _ _ _ _ z1]
        simp only [r1,r2,g1,h5',l2,hsz,c8,hin,go_sem]
        try rfl
      | false =>
       rw [aly (by rw [hi'];simp;omega)] at hf
       rw [hi'] at hin
       have hnext:(hits ++ [h]).length = i + 1 ∧ i + 1 < 9 ∧ (M ++ [ZZ8]).length ≤ i + 1 + 1 ∧ Km nm (dW s now) (Ne.iE m now) now (9 - (i + 1)) (M ++ [ZZ8]) (hits ++ [h]) ⟨ZZ8,q.t,q.c⟩ = R:=⟨by simp;omega,by omega,by simp;omega,by rw [show 9 - (i + 1) = f from by omega];exact hf⟩
       have g3:=fun pn'=>lM s m now (M ++ [ZZ8]) (hits ++ [h]) pn' q ZZ8 (by simp)
       rcases lJ hits with rfl | z1
       ·rw [qx]
        simp only [r1,r2,g1,h5',l2,c8',acD,hin,hsz2,List.length_nil,alE,List.nil_append,go_sem]
        exact ⟨by decide,(M ++ [ZZ8],[] ++ [h],ig,ZZ8),by rw [g3,hml,hmM];simp,hnext⟩
       ·rw [lM _ _ _ _ _ _ _ _ z1]
        simp only [r1,r2,g1,h5',l2,hsz,c8,hin,hsz2,go_sem]
        exact ⟨(M ++ [ZZ8],hits ++ [h],ig,ZZ8),by rw [g3,hml,hmM];simp,hnext⟩
end
section
open Go Ev
variable {nm : Int → ByteArray → List ByteArray} {pk:Qn → It × Bool} {fd:Qn → Ne.Nt × Bool} {now:Int}
inductive Path (nm:Int → ByteArray → List ByteArray) (c:Int) (a:ByteArray):List jB → ByteArray → Prop
 | nil:Path nm c a [] a
 | snoc {hits:List jB} {b ZZ8:ByteArray} {h:jB}:Path nm c a hits b → h.s.q = b → h.s.t = 5 → h.s.c = c → 1 ≤ h.left → tg nm h.s = some ZZ8 → Path nm c a (hits ++ [h]) ZZ8
structure PI (pk:Qn → It × Bool) (now:Int):Prop where
 key:∀ q,(pk q).2 = true → (pk q).1.q = q.q ∧ (pk q).1.t = q.t ∧ (pk q).1.c = q.c
 live:∀ q,(pk q).2 = true → eY now (pk q).1.u = true
theorem PK {now u:Int} (h:eY now u = true):1 ≤ jK now u:=by
 unfold jK
 rw [alx h]
 unfold eY at h
 rw [alN,alL] at h
 split <;> omega
theorem Wp (hp:PI pk now) {q:Qn} {h:jB} (ht:tl pk now q = some h):h.s.q = q.q ∧ h.s.t = q.t ∧ h.s.c = q.c ∧ 1 ≤ h.left:=by
 unfold tl at ht
 split at ht
 ·rename_i hc
  cases ht
  obtain ⟨k1,k2,k3⟩:=hp.key q hc.1
  exact ⟨k1,k2,k3,PK (hp.live q hc.1)⟩
 ·cases ht
theorem acE (hp:PI pk now) {q:Qn} {h:jB} {ZZ8:ByteArray} (ht:al nm pk now q = some (h,ZZ8)):q.t ≠ 5 ∧ h.s.q = q.q ∧ h.s.t = 5 ∧ h.s.c = q.c ∧ 1 ≤ h.left ∧ tg nm h.s = some ZZ8:=by
 unfold al at ht
 split at ht
 ·cases ht
 rename_i h5
 obtain ⟨h',h1,h2⟩:=zbm ht
 obtain ⟨to',h3,h4⟩:=zmm h2
 cases h4
 obtain ⟨k1,k2,k3,k4⟩:=Wp hp h1
 exact ⟨h5,k1,k2,k3,k4,h3⟩
structure Lnk (nm:Int → ByteArray → List ByteArray) (q:Qn) (c:Ch):Prop where
 len:c.hits.length ≤ 9
 e:0 ≤ c.e ∧ c.e ≤ 4
 found:c.e = 0 → ∃ hits h,c.hits = hits ++ [h] ∧ Path nm q.c q.q hits c.nm ∧ h.s.q = c.nm ∧ h.s.t = q.t ∧ h.s.c = q.c ∧ 1 ≤ h.left ∧ (hits ≠ [] → q.t ≠ 5)
 long:c.e = 4 → q.t ≠ 5 ∧ c.hits ≠ [] ∧ ∃ ZZ8,Path nm q.c q.q c.hits ZZ8
 rest:c.e ≠ 0 → c.e ≠ 4 → Path nm q.c q.q c.hits c.nm ∧ (c.hits ≠ [] → q.t ≠ 5)
theorem Ky (hp:PI pk now) (q0:Qn):∀ (f:Nat) (met:List ByteArray) (hits:List jB) (q:Qn),hits.length + f = 9 → 1 ≤ f → q.t = q0.t → q.c = q0.c → Path nm q0.c q0.q hits q.q → (hits ≠ [] → q0.t ≠ 5) → Lnk nm q0 (Km nm pk fd now f met hits q)
 | 0,_,_,_,_,h,_,_,_,_=>by omega
 | f + 1,met,hits,q,hl,_,ht,hc,hP,hn=>by
  unfold Km
  cases h1:tl pk now q with
  | some h =>
   obtain ⟨k1,k2,k3,k4⟩:=Wp hp h1
   refine ⟨by show (hits ++ [h]).length ≤ 9;simp;omega,by show (0:Int) ≤ 0 ∧ (0:Int) ≤ 4;omega,fun _=>⟨hits,h,rfl,hP,k1,by rw [k2,ht],by rw [k3,hc],k4,hn⟩,fun e=>(by cases e),fun e=>absurd rfl e⟩
  | none =>
   cases h2:al nm pk now q with
   | none =>
    dsimp only
    unfold fin
    split
    ·refine ⟨by show hits.length ≤ 9;omega,?_,fun e=>?_,fun e=>?_,fun _ _=>⟨hP,hn⟩⟩
     ·show 0 ≤ (if _ then (2:Int) else 1) ∧ (if _ then (2:Int) else 1) ≤ 4
      split <;> omega
     ·exfalso
      have e':(if (fd q).1.nx = true then (2:Int) else 1) = 0:=e
      split at e' <;> omega
     ·exfalso
      have e':(if (fd q).1.nx = true then (2:Int) else 1) = 4:=e
      split at e' <;> omega
    ·exact ⟨by show hits.length ≤ 9;omega,by show (0:Int) ≤ 3 ∧ (3:Int) ≤ 4;omega,fun e=>absurd (show (3:Int) = 0 from e) (by decide),fun e=>absurd (show (3:Int) = 4 from e) (by decide),fun _ _=>⟨hP,hn⟩⟩
   | some p =>
    obtain ⟨h,ZZ8⟩:=p
    obtain ⟨k0,k1,k2,k3,k4,k5⟩:=acE hp h2
    have hP':Path nm q0.c q0.q (hits ++ [h]) ZZ8:=.snoc hP k1 k2 (by rw [k3,hc]) k4 k5
    have hn':q0.t ≠ 5:=by rw [← ht];exact k0
    dsimp only
    split
    ·exact ⟨by show (hits ++ [h]).length ≤ 9;simp;omega,by show (0:Int) ≤ 4 ∧ (4:Int) ≤ 4;omega,fun e=>absurd (show (4:Int) = 0 from e) (by decide),fun _=>⟨hn',by simp,ZZ8,hP'⟩,fun _ e=>absurd rfl e⟩
    ·rename_i hm
     have h8:hits.length < 8:=by
      have:¬ 8 ≤ hits.length:=fun h=>hm (.inl h)
      omega
     exact Ky hp q0 f (met ++ [ZZ8]) (hits ++ [h]) ⟨ZZ8,q.t,q.c⟩ (by simp;omega) (by omega) ht hc hP' (fun _=>hn')
theorem TA (hp:PI pk now) (q:Qn):Lnk nm q (Bz nm pk fd now q):=Ky hp q 9 [q.q] [] q rfl (by omega) rfl rfl .nil (fun h=>absurd rfl h)
end
end Go.Proofs.YtfokaoeinpnagaaGreat.Kc

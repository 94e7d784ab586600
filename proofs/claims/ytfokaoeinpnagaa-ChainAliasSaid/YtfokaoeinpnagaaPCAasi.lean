/- A part of the proof of ChainAlias: cut, joined and given short names by a program of this session (wip/tools/pack.py); Lean checks it. No condition. -/
import Derived.Test.YtfokaoeinpnagaaPCAash
import Derived.Test.YtfokaoeinpnagaaPCAasf
import Derived.Below
import Derived.Defers
import Derived.Maps.RangeRun
import Derived.Test.YtfokaoeinpnagaaPCAasd
import Derived.Laws.StructEq
import Derived.Test.YtfokaoeinpnagaaProg
import Derived.WalkKit
set_option linter.unusedSectionVars false
set_option linter.unusedSimpArgs false
set_option linter.unusedVariables false
set_option maxRecDepth 4000
namespace Go.Proofs.Ytfokaoeinpnagaa.Kc
open Go Ev
variable {ext : Env} {F n:Nat} {θ:Th}
abbrev Dr : KS:=.agg [.str,.int .i64,.int .i64]
abbrev kq (k:Qn):KV:=.agg [.str k.q,.int .i64 k.t,.int .i64 k.c]
def ent (x:It):KV × FC:=(kq x.k,.agg (rI x))
structure Sv where
 room:Int
 m:List It
 o:List Qn
 ch:Int
abbrev Sv.v (s:Sv):AV:=.one (.ptr [.f (.int .i64 s.room),.mp Dr (s.m.map ent),.f (.sl (s.o.map rQ)),.f (.int .i64 s.ch)])
def svo : Option Sv → AV
 | some s=>s.v
 | none=>.one .iw
theorem Mv (s:Sv):svo (some s) = s.v:=rfl
theorem Gi {a b:Qn}:kq a = kq b ↔ a = b:=by
 constructor
 ·intro h;simp only [kq,KV.agg.injEq,List.cons.injEq,SV.str.injEq,SV.int.injEq] at h
  cases a;cases b;simp_all
 ·rintro rfl;rfl
theorem mI (l:List It) (k:Qn):wL (l.map ent) (kq k) = l.findIdx? fun x=>decide (x.k = k):=by
 unfold wL
 rw [List.map_map,List.findIdx?_map]
 refine congrArg (fun p=>List.findIdx? p l) (funext fun x=>?_)
 simp only [Function.comp,ent]
 by_cases h:x.k = k
 ·simp [h]
 ·have:¬ kq x.k = kq k:=fun e=>h (Gi.mp e)
  simp only [this,h,decide_false]
theorem pY (l:List It) (k:Qn):rO (l.map ent) (kq k) = (old l k).map fun x=>.agg (rI x):=by
 have hf:old l k = (l.findIdx? fun x=>decide (x.k = k)).bind fun i=>l[i]?:=List.find?_eq_bind_findIdx?_getElem? ..
 unfold rO
 rw [mI,hf]
 cases l.findIdx? fun x=>decide (x.k = k) with
 | none=>rfl
 | some i=>simp only [Option.bind_some,List.getElem?_map];cases l[i]? <;> rfl
theorem yM (l:List It) (k:Qn):Bv (l.map ent) (kq k) = (rid l k).map ent:=by
 unfold Bv rid
 rw [mI,List.eraseP_eq_eraseIdx]
 cases l.findIdx? fun x=>decide (x.k = k) with
 | none=>rfl
 | some i=>simp [List.eraseIdx_eq_take_drop_succ,List.map_take,List.map_drop]
def upd (l:List It) (x:It):List It:=match l.findIdx? fun y=>decide (y.k = x.k) with
 | some i=>l.set i x
 | none=>l ++ [x]
theorem yN (l:List It) (x:It):wM (l.map ent) (kq x.k) (.agg (rI x)) = (upd l x).map ent:=by
 unfold wM upd
 rw [mI]
 cases l.findIdx? fun y=>decide (y.k = x.k) with
 | none=>simp [ent]
 | some i=>simp [List.map_set,ent]
theorem VZ (room:Int):G ext F (n + 1) 31 [vi room] = some ([svo (if room < 1 ∨ 1000 < room then none else some ⟨room,[],[],0⟩)],[vi room]):=by
 refine eF (cf:=c31) rfl ?_
 simp only [c31,go_sem,Nat.reduceAdd,Nat.reduceMul,Nat.reduceEqDiff,Nat.reduceBEq,Nat.reduceMod,Nat.reduceDiv,↓reduceIte,reduceCtorEq]
 repeat' (refine dY (fun h=>?_) (fun h=>?_) <;> simp only [h,go_sem,Nat.reduceAdd,Nat.reduceMul,Nat.reduceEqDiff,Nat.reduceBEq,Nat.reduceMod,Nat.reduceDiv,↓reduceIte,reduceCtorEq])
 all_goals (simp only [decide_eq_true_eq,decide_eq_false_iff_not] at *)
 all_goals first | rw [if_pos (by omega)] | rw [if_neg (by omega)]
 all_goals rfl
theorem Ei (C:nS ext) (x:It) (hx:x.d.length ≤ 1000000):G ext F (n + 2) 42 [x.v] = some ([x.v],[x.v]):=by
 refine eF (cf:=c42) rfl ?_
 have h1:=fun n=>TI (F:=F) (n:=n) C x.d hx
 simp only [c42,h1,go_sem,Nat.reduceAdd,Nat.reduceMul,Nat.reduceEqDiff,Nat.reduceBEq,Nat.reduceMod,Nat.reduceDiv,↓reduceIte,reduceCtorEq]
def dJ (s:Sv) (now:Int) (k:Qn):It × Bool:=match old s.m k with
 | some x=>if jL now x.u then (x,true) else (it0,false)
 | none=>(it0,false)
theorem JL (now:Int) (k:Qn):G ext F (n + 3) 60 [.one .iw,vi now,vq k.q k.t k.c] = some ([it0.v,vb false],[.one .iw,vi now,vq k.q k.t k.c]):=by
 refine eF (cf:=VR) rfl ?_
 simp only [VR,go_sem,Nat.reduceAdd,Nat.reduceMul,Nat.reduceEqDiff,Nat.reduceBEq,Nat.reduceMod,Nat.reduceDiv,↓reduceIte,reduceCtorEq]
 rfl
theorem PX (C:nS ext) (s:Sv) (now:Int) (k:Qn) (hd:∀ x ∈ s.m,x.d.length ≤ 1000000):G ext F (n + 3) 60 [s.v,vi now,vq k.q k.t k.c] = some ([(dJ s now k).1.v,vb (dJ s now k).2],[s.v,vi now,vq k.q k.t k.c]):=by
 refine eF (cf:=VR) rfl ?_
 have hk:=pY s.m k
 unfold dJ
 cases ho:old s.m k with
 | none =>
  rw [ho] at hk
  simp only [VR,hk,Option.map_none,Option.isSome_none,go_sem,Nat.reduceAdd,Nat.reduceMul,Nat.reduceEqDiff,Nat.reduceBEq,Nat.reduceMod,Nat.reduceDiv,↓reduceIte,reduceCtorEq]
  rfl
 | some x =>
  rw [ho] at hk
  have h1:=fun n=>Ei (F:=F) (n:=n) C x (hd x (List.mem_of_find?_eq_some ho))
  cases hv:jL now x.u
  all_goals
   simp only [VR,hk,Option.map_some,Option.isSome_some,rI,jH,hv,h1,go_sem,Nat.reduceAdd,Nat.reduceMul,Nat.reduceEqDiff,Nat.reduceBEq,Nat.reduceMod,Nat.reduceDiv,↓reduceIte,reduceCtorEq]
  rfl
def Ej (θ:Th) (s:Sv) (now:Int) (x:It):Int :=
 if x.u < 0 ∨ θ.set x.q x.t x.c x.d x.ttl = false ∨ x.r < 1 ∨ 5 < x.r then 1
 else if jL now x.u = false then 14
 else match old s.m x.k with
  | some o=>if Md o.r (jL now o.u) x.r = false then 10 else 0
  | none=>0
theorem Mw (now:Int) (x:It):G ext F (n + 4) 41 [.one .iw,vi now,x.v] = some ([vi 1],[.one .iw,vi now,x.v]):=by
 refine eF (cf:=JI) rfl ?_
 simp only [JI,go_sem,Nat.reduceAdd,Nat.reduceMul,Nat.reduceEqDiff,Nat.reduceBEq,Nat.reduceMod,Nat.reduceDiv,↓reduceIte,reduceCtorEq]
theorem V3 (T:θ.Ok ext) (s:Sv) (now:Int) (x:It) (hF:200000000000001 ≤ F) (hq:x.q.size ≤ 1000000) (hn:x.d.length ≤ 1000000) (hd:∀ y ∈ x.d,y.size ≤ 1000000):G ext F (n + 4) 41 [s.v,vi now,x.v] = some ([vi (Ej θ s now x)],[s.v,vi now,x.v]):=by
 refine eF (cf:=JI) rfl ?_
 have hk:=pY s.m x.k
 have h1:=fun n=>AB (ext:=ext) (F:=F) (n:=n) T x.q x.t x.c x.d x.ttl (by omega) hF hq hd
 unfold Ej
 cases hold:old s.m x.k with
 | none =>
  rw [hold] at hk
  simp only [JI,h1,hk,jH,Option.map_none,Option.isSome_none,go_sem,Nat.reduceAdd,Nat.reduceMul,Nat.reduceEqDiff,Nat.reduceBEq,Nat.reduceMod,Nat.reduceDiv,↓reduceIte,reduceCtorEq]
  repeat' (refine dY (fun h=>?_) (fun h=>?_) <;> simp only [h,h1,hk,jH,Option.map_none,Option.isSome_none,go_sem,Nat.reduceAdd,Nat.reduceMul,Nat.reduceEqDiff,Nat.reduceBEq,Nat.reduceMod,Nat.reduceDiv,↓reduceIte,reduceCtorEq])
  all_goals clear h1 hk
  all_goals simp only [decide_eq_true_eq,decide_eq_false_iff_not] at *
  all_goals simp [*]
 | some o =>
  rw [hold] at hk
  simp only [JI,h1,hk,jH,Ig,Option.map_some,Option.isSome_some,rI,go_sem,Nat.reduceAdd,Nat.reduceMul,Nat.reduceEqDiff,Nat.reduceBEq,Nat.reduceMod,Nat.reduceDiv,↓reduceIte,reduceCtorEq]
  repeat' (refine dY (fun h=>?_) (fun h=>?_) <;> simp only [h,h1,hk,jH,Ig,Option.map_some,Option.isSome_some,rI,go_sem,Nat.reduceAdd,Nat.reduceMul,Nat.reduceEqDiff,Nat.reduceBEq,Nat.reduceMod,Nat.reduceDiv,↓reduceIte,reduceCtorEq])
  all_goals clear h1 hk
  all_goals simp only [decide_eq_true_eq,decide_eq_false_iff_not] at *
  all_goals simp [*]
end Go.Proofs.Ytfokaoeinpnagaa.Kc
set_option maxRecDepth 4000
namespace Go.Proofs.Ytfokaoeinpnagaa.Kc
open Go Ev
variable {ext : Env} {F n:Nat} {θ:Th}
abbrev Se.it (x:Se) (u r:Int):It:=⟨x.q,x.t,x.c,x.d,x.ttl,u,r⟩
def rZ (θ:Th) (s:Sv) (now:Int) (x:Se) (r:Int):Sv × Int :=
 let it:=x.it (eO now x.ttl) r
 if Ej θ s now it ≠ 0 then (s,Ej θ s now it)
 else
  let t:=zV s.o x.k ++ [x.k]
  (⟨s.room,(t.take (t.length - s.room.toNat)).foldl rid (upd s.m it),t.drop (t.length - s.room.toNat),s.ch + 1⟩,0)
structure El (θ:Th) (ext:Env):Prop where
 p0:∀ now x r,ext 21 [.one .iw,vi now,Se.v x,vi r] = some ([vi 1],[.one .iw,vi now,x.v,vi r])
 p1:∀ (s:Sv) now (x:Se) r,0 ≤ s.room ∧ s.room ≤ 1000000 → 0 ≤ s.ch ∧ s.ch ≤ 1000000000000 → s.o.length ≤ 100000 → s.m.length ≤ 100000 → x.q.size ≤ 1000000 → x.d.length ≤ 1000000 → (∀ y ∈ x.d,y.size ≤ 1000000) →
  ext 21 [s.v,vi now,x.v,vi r] = some ([vi (rZ θ s now x r).2],[(rZ θ s now x r).1.v,vi now,x.v,vi r])
theorem Mx (Q:El θ ext) (s:Sv) (now:Int) (x:Se) (r:Int) (h1:0 ≤ s.room ∧ s.room ≤ 1000000) (h2:0 ≤ s.ch ∧ s.ch ≤ 1000000000000) (h3:s.o.length ≤ 100000) (h3':s.m.length ≤ 100000) (h4:x.q.size ≤ 1000000) (h5:x.d.length ≤ 1000000) (h6:∀ y ∈ x.d,y.size ≤ 1000000):G ext F (n + 1) 21 [s.v,vi now,x.v,vi r] = some ([vi (rZ θ s now x r).2],[(rZ θ s now x r).1.v,vi now,x.v,vi r]):=(congrFun (mH rfl) _).trans (Q.p1 s now x r h1 h2 h3 h3' h4 h5 h6)
abbrev na : ByteArray:=⟨#[1,97,0]⟩
abbrev nb : ByteArray:=⟨#[1,98,0]⟩
abbrev PY : ByteArray:=⟨#[1,99,0]⟩
abbrev dd : ByteArray:=⟨#[49,49,49,49]⟩
abbrev sa : Se:=⟨na,1,1,[dd],5⟩
abbrev sb : Se:=⟨nb,1,1,[dd],5⟩
abbrev sc : Se:=⟨PY,1,1,[dd],5⟩
abbrev sz : Se:=⟨na,1,1,[dd],0⟩
abbrev t0 : Sv:=⟨2,[],[],0⟩
abbrev t1 : Sv:=⟨2,[sa.it 6 5],[sa.k],1⟩
abbrev t2 : Sv:=⟨2,[sa.it 6 5,sb.it 6 3],[sa.k,sb.k],2⟩
abbrev t3 : Sv:=⟨2,[sa.it 6 5,sb.it 6 3],[sb.k,sa.k],2⟩
abbrev t4 : Sv:=⟨2,[sa.it 6 5,sc.it 7 1],[sa.k,sc.k],3⟩
abbrev t5 : Sv:=⟨2,[sc.it 7 1],[sc.k],4⟩
end Go.Proofs.Ytfokaoeinpnagaa.Kc
namespace Go.Proofs.Ytfokaoeinpnagaa.Kc
open Go Ev
variable {θ : Th}
abbrev ks (l:List It):List Qn:=l.map It.k
theorem u6 {l:List It} {b:Qn} (h:b ∉ ks l):old l b = none:=by
 unfold old;rw [List.find?_eq_none]
 intro x hx;simp only [decide_eq_true_eq];rintro rfl;exact h (List.mem_map_of_mem hx)
theorem nA {l:List It} {b:Qn} {x:It} (h:old l b = some x):x.k = b ∧ x ∈ l:=⟨by simpa using List.find?_some h,List.mem_of_find?_eq_some h⟩
theorem tO {l:List It} {a:Qn}:(rid l a).Sublist l:=List.eraseP_sublist ..
theorem u7 {l:List It} {a:Qn} (h:(ks l).Nodup):(ks (rid l a)).Nodup:=(tO.map _).nodup h
theorem Ck {l:List It} {x:It} {b:Qn} (h:x.k ∉ ks l):old (l ++ [x]) b = if b = x.k then some x else old l b:=by
 unfold old;rw [List.find?_append]
 by_cases hb:b = x.k
 ·subst hb
  have:=u6 h;unfold old at this
  rw [this];simp
 ·have:¬ x.k = b:=fun e=>hb e.symm
  simp [hb,this]
theorem oI (l:List It) (x:It):(x.k ∉ ks l ∧ upd l x = l ++ [x]) ∨ ∃ a y b,l = a ++ y :: b ∧ y.k = x.k ∧ x.k ∉ ks a ∧ upd l x = a ++ x :: b:=by
 unfold upd
 cases h:l.findIdx? fun y=>decide (y.k = x.k) with
 | none =>
  refine .inl ⟨fun hm=>?_,rfl⟩
  obtain ⟨y,hy,hk⟩:=List.mem_map.mp hm
  have:=List.findIdx?_eq_none_iff.mp h y hy
  simp [hk] at this
 | some i =>
  obtain ⟨hi,hx,hb⟩:=List.findIdx?_eq_some_iff_getElem.mp h
  refine .inr ⟨l.take i,l[i],l.drop (i + 1),?_,by simpa using hx,fun hm=>?_,?_⟩
  ·rw [List.getElem_cons_drop,List.take_append_drop]
  ·obtain ⟨y,hy,hk⟩:=List.mem_map.mp hm
   obtain ⟨j,hj,rfl⟩:=List.mem_take_iff_getElem.mp hy
   have:=hb j (by omega)
   simp [hk] at this
  ·simp only [List.set_eq_take_append_cons_drop,hi,if_true]
theorem Cm {l:List It} {x:It} {b:Qn}:old (upd l x) b = if b = x.k then some x else old l b:=by
 rcases oI l x with ⟨h,hu⟩ | ⟨a,y,c,rfl,hy,ha,hu⟩
 ·rw [hu,Ck h]
 ·rw [hu]
  have hno:=u6 ha
  unfold old at hno ⊢
  rw [List.find?_append,List.find?_append,List.find?_cons,List.find?_cons]
  by_cases hb:b = x.k
  ·subst hb;rw [hno];simp
  ·have h1:¬ x.k = b:=fun e=>hb e.symm
   have h2:¬ y.k = b:=fun e=>hb (by rw [← hy,e])
   simp [hb,h1,h2]
theorem vk {l:List It} {x:It} (h:(ks l).Nodup):(ks (upd l x)).Nodup:=by
 rcases oI l x with ⟨hn,hu⟩ | ⟨a,y,c,rfl,hy,ha,hu⟩
 ·rw [hu]
  simp only [ks,List.map_append,List.map_cons,List.map_nil]
  refine List.nodup_append.mpr ⟨h,List.pairwise_singleton _ _,fun p hp q hq=>?_⟩
  rw [List.mem_singleton] at hq;subst hq;rintro rfl;exact hn hp
 ·rw [hu]
  have:ks (a ++ x :: c) = ks (a ++ y :: c):=by simp [ks,hy]
  rw [this];exact h
end Go.Proofs.Ytfokaoeinpnagaa.Kc
set_option maxRecDepth 4000
namespace Go.Proofs.Ytfokaoeinpnagaa.Kc.Ne
open Go Ev
variable {ext : Env} {F n:Nat} {θ:Th}
structure Nt where
 k:Qn
 nx:Bool
 s:Se
 u:Int
 deriving DecidableEq
def rN (x:Nt):List FV:=[.str x.k.q,.int .i64 x.k.t,.int .i64 x.k.c,.bool x.nx,.str x.s.q,.int .i64 x.s.t,.int .i64 x.s.c,.sl (x.s.d.map fD),.int .i64 x.s.ttl,.int .i64 x.u]
abbrev Nt.v (x:Nt):AV:=.agg [.f (.str x.k.q),.f (.int .i64 x.k.t),.f (.int .i64 x.k.c),.f (.bool x.nx),.f (.str x.s.q),.f (.int .i64 x.s.t),.f (.int .i64 x.s.c),.f (.sl (x.s.d.map fD)),.f (.int .i64 x.s.ttl),.f (.int .i64 x.u)]
abbrev _root_.Go.Proofs.Ytfokaoeinpnagaa.Kc.Qn.v (k:Qn):AV:=vq k.q k.t k.c
def nt0 : Nt:=⟨⟨⟨#[]⟩,0,0⟩,false,⟨⟨#[]⟩,0,0,[],0⟩,0⟩
structure On where
 o:Int
 now:Int
 k:Qn
 nx:Bool
 s:Se
abbrev On.v (x:On):AV:=.agg [.f (.int .i64 x.o),.f (.int .i64 x.now),.f (.str x.k.q),.f (.int .i64 x.k.t),.f (.int .i64 x.k.c),.f (.bool x.nx),.f (.str x.s.q),.f (.int .i64 x.s.t),.f (.int .i64 x.s.c),.f (.sl (x.s.d.map fD)),.f (.int .i64 x.s.ttl)]
structure Nv where
 room:Int
 m:List Nt
 o:List Qn
 ch:Int
structure Rn where
 room:Int
 l:List Nt
 ch:Int
abbrev Dr : KS:=.agg [.str,.int .i64,.int .i64]
abbrev kq (k:Qn):KV:=.agg [.str k.q,.int .i64 k.t,.int .i64 k.c]
theorem Gi {a b:Qn}:kq a = kq b ↔ a = b:=by
 constructor
 ·intro h;simp only [kq,KV.agg.injEq,List.cons.injEq,SV.str.injEq,SV.int.injEq] at h
  cases a;cases b;simp_all
 ·rintro rfl;rfl
def old (l:List Nt) (k:Qn):Option Nt:=l.find? fun x=>decide (x.k = k)
def rid (l:List Nt) (k:Qn):List Nt:=l.eraseP fun x=>decide (x.k = k)
def ent (x:Nt):KV × FC:=(kq x.k,.agg (rN x))
theorem mI (l:List Nt) (k:Qn):wL (l.map ent) (kq k) = l.findIdx? fun x=>decide (x.k = k):=by
 unfold wL
 rw [List.map_map,List.findIdx?_map]
 refine congrArg (fun p=>List.findIdx? p l) (funext fun x=>?_)
 simp only [Function.comp,ent]
 by_cases h:x.k = k
 ·simp [h]
 ·have:¬ kq x.k = kq k:=fun e=>h (Gi.mp e)
  simp only [this,h,decide_false]
theorem pY (l:List Nt) (k:Qn):rO (l.map ent) (kq k) = (old l k).map fun x=>.agg (rN x):=by
 have hf:old l k = (l.findIdx? fun x=>decide (x.k = k)).bind fun i=>l[i]?:=List.find?_eq_bind_findIdx?_getElem? ..
 unfold rO
 rw [mI,hf]
 cases l.findIdx? fun x=>decide (x.k = k) with
 | none=>rfl
 | some i=>simp only [Option.bind_some,List.getElem?_map];cases l[i]? <;> rfl
theorem yM (l:List Nt) (k:Qn):Bv (l.map ent) (kq k) = (rid l k).map ent:=by
 unfold Bv rid
 rw [mI,List.eraseP_eq_eraseIdx]
 cases l.findIdx? fun x=>decide (x.k = k) with
 | none=>rfl
 | some i=>simp [List.eraseIdx_eq_take_drop_succ,List.map_take,List.map_drop]
def upd (l:List Nt) (x:Nt):List Nt:=match l.findIdx? fun y=>decide (y.k = x.k) with
 | some i=>l.set i x
 | none=>l ++ [x]
theorem yN (l:List Nt) (x:Nt):wM (l.map ent) (kq x.k) (.agg (rN x)) = (upd l x).map ent:=by
 unfold wM upd
 rw [mI]
 cases l.findIdx? fun y=>decide (y.k = x.k) with
 | none=>simp [ent]
 | some i=>simp [List.map_set,ent]
abbrev ks (l:List Nt):List Qn:=l.map Nt.k
theorem u6 {l:List Nt} {b:Qn} (h:b ∉ ks l):old l b = none:=by
 unfold old;rw [List.find?_eq_none]
 intro x hx;simp only [decide_eq_true_eq];rintro rfl;exact h (List.mem_map_of_mem hx)
theorem nA {l:List Nt} {b:Qn} {x:Nt} (h:old l b = some x):x.k = b ∧ x ∈ l:=⟨by simpa using List.find?_some h,List.mem_of_find?_eq_some h⟩
theorem tO {l:List Nt} {a:Qn}:(rid l a).Sublist l:=List.eraseP_sublist ..
theorem u7 {l:List Nt} {a:Qn} (h:(ks l).Nodup):(ks (rid l a)).Nodup:=(tO.map _).nodup h
theorem Ck {l:List Nt} {x:Nt} {b:Qn} (h:x.k ∉ ks l):old (l ++ [x]) b = if b = x.k then some x else old l b:=by
 unfold old;rw [List.find?_append]
 by_cases hb:b = x.k
 ·subst hb
  have:=u6 h;unfold old at this
  rw [this];simp
 ·have:¬ x.k = b:=fun e=>hb e.symm
  simp [hb,this]
theorem oI (l:List Nt) (x:Nt):(x.k ∉ ks l ∧ upd l x = l ++ [x]) ∨ ∃ a y b,l = a ++ y :: b ∧ y.k = x.k ∧ x.k ∉ ks a ∧ upd l x = a ++ x :: b:=by
 unfold upd
 cases h:l.findIdx? fun y=>decide (y.k = x.k) with
 | none =>
  refine .inl ⟨fun hm=>?_,rfl⟩
  obtain ⟨y,hy,hk⟩:=List.mem_map.mp hm
  have:=List.findIdx?_eq_none_iff.mp h y hy
  simp [hk] at this
 | some i =>
  obtain ⟨hi,hx,hb⟩:=List.findIdx?_eq_some_iff_getElem.mp h
  refine .inr ⟨l.take i,l[i],l.drop (i + 1),?_,by simpa using hx,fun hm=>?_,?_⟩
  ·rw [List.getElem_cons_drop,List.take_append_drop]
  ·obtain ⟨y,hy,hk⟩:=List.mem_map.mp hm
   obtain ⟨j,hj,rfl⟩:=List.mem_take_iff_getElem.mp hy
   have:=hb j (by omega)
   simp [hk] at this
  ·simp only [List.set_eq_take_append_cons_drop,hi,if_true]
theorem Cm {l:List Nt} {x:Nt} {b:Qn}:old (upd l x) b = if b = x.k then some x else old l b:=by
 rcases oI l x with ⟨h,hu⟩ | ⟨a,y,c,rfl,hy,ha,hu⟩
 ·rw [hu,Ck h]
 ·rw [hu]
  have hno:=u6 ha
  unfold old at hno ⊢
  rw [List.find?_append,List.find?_append,List.find?_cons,List.find?_cons]
  by_cases hb:b = x.k
  ·subst hb;rw [hno];simp
  ·have h1:¬ x.k = b:=fun e=>hb e.symm
   have h2:¬ y.k = b:=fun e=>hb (by rw [← hy,e])
   simp [hb,h1,h2]
theorem vk {l:List Nt} {x:Nt} (h:(ks l).Nodup):(ks (upd l x)).Nodup:=by
 rcases oI l x with ⟨hn,hu⟩ | ⟨a,y,c,rfl,hy,ha,hu⟩
 ·rw [hu]
  simp only [ks,List.map_append,List.map_cons,List.map_nil]
  refine List.nodup_append.mpr ⟨h,List.pairwise_singleton _ _,fun p hp q hq=>?_⟩
  rw [List.mem_singleton] at hq;subst hq;rintro rfl;exact hn hp
 ·rw [hu]
  have:ks (a ++ x :: c) = ks (a ++ y :: c):=by simp [ks,hy]
  rw [this];exact h
theorem PZ {l:List Nt} {x:Nt}:(upd l x).length ≤ l.length + 1:=by
 rcases oI l x with ⟨-,hu⟩ | ⟨a,y,c,rfl, -, -,hu⟩ <;> rw [hu] <;> simp
theorem P5 {l:List Nt} {x y:Nt} (h:y ∈ upd l x):y = x ∨ y ∈ l:=by
 rcases oI l x with ⟨-,hu⟩ | ⟨a,z,c,rfl, -, -,hu⟩ <;> rw [hu] at h <;> simp at h ⊢
 ·rcases h with h | h <;> simp [h]
 ·rcases h with h | h | h <;> simp [h]
theorem yO : ∀ {g:List Qn} {l:List Nt},(g.foldl rid l).Sublist l
 | [],l=>List.Sublist.refl _
 | a :: g,l=>(yO (g:=g)).trans tO
abbrev Nv.v (s:Nv):AV:=.one (.ptr [.f (.int .i64 s.room),.mp Dr (s.m.map ent),.f (.sl (s.o.map rQ)),.f (.int .i64 s.ch)])
abbrev Rn.v (s:Rn):AV:=.agg [.f (.int .i64 s.room),.f (.sl (s.l.map rN)),.f (.int .i64 s.ch)]
def nvo : Option Nv → AV
 | some s=>s.v
 | none=>.one .iw
theorem MB (s:Nv):nvo (some s) = s.v:=rfl
end Go.Proofs.Ytfokaoeinpnagaa.Kc.Ne
set_option maxRecDepth 4000
namespace Go.Proofs.Ytfokaoeinpnagaa.Kc.Ne
open Go Ev
variable {ext : Env} {F n:Nat} {θ:Th} {gt:ByteArray → Int → Int → Int × Bool}
structure Gj (gt:ByteArray → Int → Int → Int × Bool) (ext:Env):Prop where
 og:∀ s a z,s.size ≤ 1000000 → ext 80 [vs s,vi a,vi z] = some ([vi (gt s a z).1,vb (gt s a z).2],[vs s,vi a,vi z])
 rg:∀ s a z,s.size ≤ 1000000 → ext 77 [vs s,vi a,vi z] = some ([vi (gt s a z).1,vb (gt s a z).2],[vs s,vi a,vi z])
 nn:∀ s a z,0 ≤ (gt s a z).1
theorem aak (O:Gj gt ext) (s:ByteArray) (a z:Int) (h:s.size ≤ 1000000):G ext F (n + 1) 80 [vs s,vi a,vi z] = some ([vi (gt s a z).1,vb (gt s a z).2],[vs s,vi a,vi z]):=(congrFun (mH rfl) _).trans (O.og s a z h)
theorem P6 (room:Int):G ext F (n + 1) 32 [vi room] = some ([nvo (if room < 1 ∨ 1000 < room then none else some ⟨room,[],[],0⟩)],[vi room]):=by
 refine eF (cf:=c32) rfl ?_
 simp only [c32,go_sem,Nat.reduceAdd,Nat.reduceMul,Nat.reduceEqDiff,Nat.reduceBEq,Nat.reduceMod,Nat.reduceDiv,↓reduceIte,reduceCtorEq]
 repeat' (refine dY (fun h=>?_) (fun h=>?_) <;> simp only [h,go_sem,Nat.reduceAdd,Nat.reduceMul,Nat.reduceEqDiff,Nat.reduceBEq,Nat.reduceMod,Nat.reduceDiv,↓reduceIte,reduceCtorEq])
 all_goals (simp only [decide_eq_true_eq,decide_eq_false_iff_not] at *)
 all_goals first | rw [if_pos (by omega)] | rw [if_neg (by omega)]
 all_goals rfl
theorem nT (C:nS ext) (x:Nt) (hx:x.s.d.length ≤ 1000000):G ext F (n + 2) 59 [x.v] = some ([x.v],[x.v]):=by
 refine eF (cf:=c59) rfl ?_
 have h1:=fun n=>TI (F:=F) (n:=n) C x.s.d hx
 simp only [c59,h1,go_sem,Nat.reduceAdd,Nat.reduceMul,Nat.reduceEqDiff,Nat.reduceBEq,Nat.reduceMod,Nat.reduceDiv,↓reduceIte,reduceCtorEq]
theorem Em (k:Qn):G ext F (n + 1) 58 [k.v] = some ([vq k.q 0 k.c],[k.v]):=by
 refine eF (cf:=c58) rfl ?_
 simp only [c58,go_sem,Nat.reduceAdd,Nat.reduceMul,Nat.reduceEqDiff,Nat.reduceBEq,Nat.reduceMod,Nat.reduceDiv,↓reduceIte,reduceCtorEq]
abbrev _root_.Go.Proofs.Ytfokaoeinpnagaa.Kc.Qn.w (k:Qn):Qn:=⟨k.q,0,k.c⟩
def _root_.Go.Proofs.Ytfokaoeinpnagaa.Kc.Th.ask (θ:Th) (k:Qn):Bool:=θ.key k.q k.t k.c && !decide (k.t = 0)
theorem MC (T:θ.Ok ext) (k:Qn) (hq:k.q.size ≤ 1000000):G ext F (n + 2) 56 [k.v] = some ([vb (θ.ask k)],[k.v]):=by
 refine eF (cf:=c56) rfl ?_
 have h1:=fun n=>TF (F:=F) (n:=n) T k.q hq
 have h2:=fun n=>TG (F:=F) (n:=n) T k.q hq
 simp only [c56,h1,h2,go_sem,Nat.reduceAdd,Nat.reduceMul,Nat.reduceEqDiff,Nat.reduceBEq,Nat.reduceMod,Nat.reduceDiv,↓reduceIte,reduceCtorEq]
 repeat' (refine dY (fun h=>?_) (fun h=>?_) <;> simp only [h,h1,h2,go_sem,Nat.reduceAdd,Nat.reduceMul,Nat.reduceEqDiff,Nat.reduceBEq,Nat.reduceMod,Nat.reduceDiv,↓reduceIte,reduceCtorEq])
 all_goals clear h1 h2
 all_goals simp only [decide_eq_true_eq,decide_eq_false_iff_not] at *
 all_goals (simp [Th.ask,Th.key, *])
 all_goals (try omega)
 all_goals (have a1:0 ≤ k.t:=by omega);(have a2:¬ k.t = 0:=by omega);simp [a1,a2]
def wP (θ:Th) (gt:ByteArray → Int → Int → Int × Bool) (x:Se):Int × Bool :=
 if θ.set x.q x.t x.c x.d x.ttl = true ∧ x.t = 6 then (if x.ttl < (gt (x.d.headD ⟨#[]⟩) ((x.d.headD ⟨#[]⟩).size - 4) 4).1 then x.ttl else (gt (x.d.headD ⟨#[]⟩) ((x.d.headD ⟨#[]⟩).size - 4) 4).1,true) else (0,false)
theorem ME {x:Se} (h:θ.set x.q x.t x.c x.d x.ttl = true):∃ y d,x.d = y :: d:=by
 unfold Th.set at h
 rw [decide_eq_true_eq] at h
 exact List.exists_cons_of_ne_nil h.2.2.2
theorem Gl (T:θ.Ok ext) (O:Gj gt ext) (x:Se) (hF:200000000000001 ≤ F) (hq:x.q.size ≤ 1000000) (hn:x.d.length ≤ 1000000) (hd:∀ y ∈ x.d,y.size ≤ 1000000):G ext F (n + 4) 55 [x.v] = some ([vi (wP θ gt x).1,vb (wP θ gt x).2],[x.v]):=by
 refine eF (cf:=Yc) rfl ?_
 have h1:=fun n=>AB (F:=F) (n:=n) T x.q x.t x.c x.d x.ttl (by omega) hF hq hd
 by_cases h6:x.t = 6
 ·have h6':decide (x.t = 6) = true:=decide_eq_true h6
  cases hs:θ.set x.q x.t x.c x.d x.ttl with
  | false =>
   rw [hs] at h1
   have e:wP θ gt x = (0,false):=by unfold wP;rw [hs];rfl
   rw [e]
   simp only [Yc,h1,h6',go_sem,Nat.reduceAdd,Nat.reduceMul,Nat.reduceEqDiff,Nat.reduceBEq,Nat.reduceMod,Nat.reduceDiv,↓reduceIte,reduceCtorEq]
  | true =>
   rw [hs] at h1
   obtain ⟨y,ds,hy⟩:=ME hs
   have e:wP θ gt x = (if x.ttl < (gt y (y.size - 4) 4).1 then x.ttl else (gt y (y.size - 4) 4).1,true):=by unfold wP;rw [if_pos ⟨hs,h6⟩,hy];rfl
   rw [e]
   have hys:=hd y (by rw [hy];simp)
   have hw:IntKind.i64.wrap ((y.size:Int) - 4) = y.size - 4:=zT (by omega) (by omega)
   have hg:=fun n=>aak (F:=F) (n:=n) O y (y.size - 4) 4 hys
   simp only [Se.v,tL,hy,List.map_cons,fD] at h1 ⊢
   simp only [Yc,h1,h6',List.map_cons,List.getElem?_cons_zero,fD,hw,hg,Int.toNat_zero,go_sem,Nat.reduceAdd,Nat.reduceMul,Nat.reduceEqDiff,Nat.reduceBEq,Nat.reduceMod,Nat.reduceDiv,↓reduceIte,reduceCtorEq]
   exact ⟨Int.le_refl _,by rw [hy];rfl⟩
 ·have h6':decide (x.t = 6) = false:=decide_eq_false h6
  have e:wP θ gt x = (0,false):=by unfold wP;rw [if_neg (fun h=>h6 h.2)]
  rw [e]
  simp only [Yc,h6',go_sem,Nat.reduceAdd,Nat.reduceMul,Nat.reduceEqDiff,Nat.reduceBEq,Nat.reduceMod,Nat.reduceDiv,↓reduceIte,reduceCtorEq]
end Go.Proofs.Ytfokaoeinpnagaa.Kc.Ne
set_option maxRecDepth 4000
namespace Go.Proofs.Ytfokaoeinpnagaa.Kc.Ne
open Go Ev
variable {ext : Env} {F n:Nat} {θ:Th} {gt:ByteArray → Int → Int → Int × Bool}
def ofR (o:Option Nt):Nt × Bool:=match o with
 | some x=>(x,true)
 | none=>(nt0,false)
abbrev kn (nx:Bool) (k:Qn):Qn:=if nx then k.w else k
def _root_.Go.Proofs.Ytfokaoeinpnagaa.Kc.Th.narg (θ:Th) (gt:ByteArray → Int → Int → Int × Bool) (s:Rn) (now:Int) (k:Qn) (x:Se):Prop:=s.room = 0 ∨ Mc now = false ∨ (wP θ gt x).2 = false ∨ θ.key k.q k.t k.c = false ∨ k.t = 0
instance {s : Rn} {now:Int} {k:Qn} {x:Se}:Decidable (θ.narg gt s now k x):=by unfold Th.narg;infer_instance
end Go.Proofs.Ytfokaoeinpnagaa.Kc.Ne
set_option maxRecDepth 4000
namespace Go.Proofs.Ytfokaoeinpnagaa.Kc.Ne
open Go Ev
variable {ext : Env} {F n:Nat} {θ:Th} {gt:ByteArray → Int → Int → Int × Bool}
def nof (m:List Nt) (now:Int) (k:Qn):Option Nt:=match old m k with
 | some x=>if jL now x.u then some x else none
 | none=>none
def gG (s:Nv) (now:Int) (k:Qn):Nt × Bool:=match nof s.m now k.w with
 | some x=>(x,true)
 | none=>ofR (nof s.m now k)
theorem Gn (now:Int) (k:Qn):G ext F (n + 3) 63 [.one .iw,vi now,k.v] = some ([nt0.v,vb false],[.one .iw,vi now,k.v]):=by
 refine eF (cf:=Yd) rfl ?_
 simp only [Yd,go_sem,Nat.reduceAdd,Nat.reduceMul,Nat.reduceEqDiff,Nat.reduceBEq,Nat.reduceMod,Nat.reduceDiv,↓reduceIte,reduceCtorEq]
 rfl
theorem MF (C:nS ext) (s:Nv) (now:Int) (k:Qn) (hF:200000000000001 ≤ F) (hd:∀ x ∈ s.m,x.s.d.length ≤ 1000000):G ext F (n + 3) 63 [s.v,vi now,k.v] = some ([(gG s now k).1.v,vb (gG s now k).2],[s.v,vi now,k.v]):=by
 refine eF (cf:=Yd) rfl ?_
 have hw:=fun n=>Em (ext:=ext) (F:=F) (n:=n) k
 simp only [Yd,hw,go_sem,Nat.reduceAdd,Nat.reduceMul,Nat.reduceEqDiff,Nat.reduceBEq,Nat.reduceMod,Nat.reduceDiv,↓reduceIte,reduceCtorEq]
 refine jZ 2 (fun i=>⟨[(0,PV.c (CV.one (PL.ptr 20201 0))),(1,PV.c (CV.one (PL.f (FV.int IntKind.i64 now)))),(6,PV.c (CV.one (PL.ptr 140000 0))),(18,PV.c (CV.one (PL.own 380000 2))),(19,PV.c (CV.one (PL.f (FV.int IntKind.i64 ((2:Nat):Int))))),(20,PV.c (CV.one (PL.f (FV.int IntKind.i64 (i:Int)))))],[(20201,Ob.iV [PL.f (FV.int IntKind.i64 s.room),PL.mp 20205,PL.f (FV.sl (List.map rQ s.o)),PL.f (FV.int IntKind.i64 s.ch)]),(20205,Ob.map Dr (List.map ent s.m)),(140000,Ob.iV [PL.f (FV.str ⟨#[]⟩),PL.f (FV.int IntKind.i64 0),PL.f (FV.int IntKind.i64 0),PL.f (FV.bool false),PL.f (FV.str ⟨#[]⟩),PL.f (FV.int IntKind.i64 0),PL.f (FV.int IntKind.i64 0),PL.dN,PL.f (FV.int IntKind.i64 0),PL.f (FV.int IntKind.i64 0)]),(380000,Ob.row 3 [[FV.str k.q,FV.int IntKind.i64 0,FV.int IntKind.i64 k.c],[FV.str k.q,FV.int IntKind.i64 k.t,FV.int IntKind.i64 k.c]])]⟩) (fun i=>(1 ≤ i → nof s.m now k.w = none) ∧ (2 ≤ i → nof s.m now k = none)) (by omega) rfl ⟨by omega,by omega⟩ (fun i hi hP=>?_) (fun hP=>?_)
 ·rcases (show i = 0 ∨ i = 1 by omega) with rfl | rfl
  ·skip
   have hlt:decide (((0:Nat):Int) < ((2:Nat):Int)) = true:=by decide
   have ht:((0:Nat):Int).toNat = 0:=rfl
   have h0:(0:Int) ≤ ((0:Nat):Int):=by decide
   have hn':IntKind.i64.wrap (((0:Nat):Int) + 1) = ((0 + 1:Nat):Int):=by rw [zT (by omega) (by omega)];rfl
   have hk1:=pY s.m k.w
   simp only [kq] at hk1
   have hcl:=fun n x hx=>nT (F:=F) (n:=n) C x hx
   cases hold:old s.m k.w with
   | none =>
    rw [hold] at hk1
    simp only [hlt,ht,h0,hn',List.getElem?_cons_zero,List.getElem?_cons_succ,hk1,Option.map_none,Option.isSome_none,go_sem,Nat.reduceAdd,Nat.reduceMul,Nat.reduceEqDiff,Nat.reduceBEq,Nat.reduceMod,Nat.reduceDiv,↓reduceIte,reduceCtorEq]
    first | exact ⟨by decide,fun _=>by unfold nof;simp [hold, *],by omega⟩ | exact ⟨by decide,rfl,fun _=>by unfold nof;simp [hold, *],by omega⟩
   | some x =>
    rw [hold] at hk1
    have hcl:=fun n=>nT (F:=F) (n:=n) C x (hd x (nA hold).2)
    cases hv:jL now x.u with
    | false =>
     simp only [hlt,ht,h0,hn',List.getElem?_cons_zero,List.getElem?_cons_succ,hk1,Option.map_some,Option.isSome_some,rN,jH,hv,go_sem,Nat.reduceAdd,Nat.reduceMul,Nat.reduceEqDiff,Nat.reduceBEq,Nat.reduceMod,Nat.reduceDiv,↓reduceIte,reduceCtorEq]
     first | exact ⟨by decide,fun _=>by unfold nof;simp [hold, *],by omega⟩ | exact ⟨by decide,rfl,fun _=>by unfold nof;simp [hold, *],by omega⟩
    | true =>
     simp only [hlt,ht,h0,hn',List.getElem?_cons_zero,List.getElem?_cons_succ,hk1,Option.map_some,Option.isSome_some,rN,jH,hv,hcl,go_sem,Nat.reduceAdd,Nat.reduceMul,Nat.reduceEqDiff,Nat.reduceBEq,Nat.reduceMod,Nat.reduceDiv,↓reduceIte,reduceCtorEq]
     have e:gG s now k = (x,true):=by unfold gG nof;rw [hold];simp [hv]
     rw [e]
     exact ⟨by decide,rfl⟩
  ·have hp:=hP.1 (by decide)
   have hlt:decide (((1:Nat):Int) < ((2:Nat):Int)) = true:=by decide
   have ht:((1:Nat):Int).toNat = 1:=rfl
   have h0:(0:Int) ≤ ((1:Nat):Int):=by decide
   have hn':IntKind.i64.wrap (((1:Nat):Int) + 1) = ((1 + 1:Nat):Int):=by rw [zT (by omega) (by omega)];rfl
   have hk1:=pY s.m k
   simp only [kq] at hk1
   have hcl:=fun n x hx=>nT (F:=F) (n:=n) C x hx
   cases hold:old s.m k with
   | none =>
    rw [hold] at hk1
    simp only [hlt,ht,h0,hn',List.getElem?_cons_zero,List.getElem?_cons_succ,hk1,Option.map_none,Option.isSome_none,go_sem,Nat.reduceAdd,Nat.reduceMul,Nat.reduceEqDiff,Nat.reduceBEq,Nat.reduceMod,Nat.reduceDiv,↓reduceIte,reduceCtorEq]
    first | exact ⟨by decide,fun _=>hp,fun _=>by unfold nof;simp [hold, *]⟩ | exact ⟨by decide,rfl,fun _=>hp,fun _=>by unfold nof;simp [hold, *]⟩
   | some x =>
    rw [hold] at hk1
    have hcl:=fun n=>nT (F:=F) (n:=n) C x (hd x (nA hold).2)
    cases hv:jL now x.u with
    | false =>
     simp only [hlt,ht,h0,hn',List.getElem?_cons_zero,List.getElem?_cons_succ,hk1,Option.map_some,Option.isSome_some,rN,jH,hv,go_sem,Nat.reduceAdd,Nat.reduceMul,Nat.reduceEqDiff,Nat.reduceBEq,Nat.reduceMod,Nat.reduceDiv,↓reduceIte,reduceCtorEq]
     first | exact ⟨by decide,fun _=>hp,fun _=>by unfold nof;simp [hold, *]⟩ | exact ⟨by decide,rfl,fun _=>hp,fun _=>by unfold nof;simp [hold, *]⟩
    | true =>
     simp only [hlt,ht,h0,hn',List.getElem?_cons_zero,List.getElem?_cons_succ,hk1,Option.map_some,Option.isSome_some,rN,jH,hv,hcl,go_sem,Nat.reduceAdd,Nat.reduceMul,Nat.reduceEqDiff,Nat.reduceBEq,Nat.reduceMod,Nat.reduceDiv,↓reduceIte,reduceCtorEq]
     have e:gG s now k = (x,true):=by unfold gG;rw [hp];unfold nof;rw [hold];simp [hv,ofR]
     rw [e]
     exact ⟨by decide,rfl⟩
 ·have hp1:=hP.1 (by decide)
  have hp2:=hP.2 (by decide)
  have hlt:decide (((2:Nat):Int) < ((2:Nat):Int)) = false:=by decide
  have e:gG s now k = (nt0,false):=by unfold gG;rw [hp1,hp2];rfl
  rw [e]
  simp only [hlt,go_sem,Nat.reduceAdd,Nat.reduceMul,Nat.reduceEqDiff,Nat.reduceBEq,Nat.reduceMod,Nat.reduceDiv,↓reduceIte,reduceCtorEq]
  rfl
def r9 (θ:Th) (gt:ByteArray → Int → Int → Int × Bool) (s:Nv) (now:Int) (k:Qn) (nx:Bool) (x:Se):Nv × Int :=
 if (wP θ gt x).2 = false ∨ eO now (wP θ gt x).1 = -1 ∨ θ.ask k = false then (s,1)
 else if jL now (eO now (wP θ gt x).1) = false then (s,14)
 else
  let t:=zV s.o (kn nx k) ++ [kn nx k]
  (⟨s.room,(t.take (t.length - s.room.toNat)).foldl rid (upd s.m ⟨kn nx k,nx,x,eO now (wP θ gt x).1⟩),t.drop (t.length - s.room.toNat),s.ch + 1⟩,0)
theorem P7 (T:θ.Ok ext) (O:Gj gt ext) (C:nS ext) (s:Nv) (now:Int) (k:Qn) (rC:Bool) (x:Se) (hF:200000000000001 ≤ F) (hr1:0 ≤ s.room ∧ s.room ≤ 1000000) (hc:0 ≤ s.ch ∧ s.ch ≤ 1000000000000) (ho:s.o.length ≤ 100000) (hk:k.q.size ≤ 1000000) (hq:x.q.size ≤ 1000000) (hn:x.d.length ≤ 1000000) (hd:∀ y ∈ x.d,y.size ≤ 1000000):G ext F (n + 6) 33 [s.v,vi now,k.v,vb rC,x.v] = some ([vi (r9 θ gt s now k rC x).2],[(r9 θ gt s now k rC x).1.v,vi now,k.v,vb rC,x.v]):=by
 refine eF (cf:=Gf) rfl ?_
 have h1:=fun n=>Gl (F:=F) (n:=n) T O x hF hq hn hd
 have h2:=fun n=>MC (F:=F) (n:=n) T k hk
 have hu:=fun n t=>yL (ext:=ext) (F:=F) (n:=n) now t
 cases hm2:(wP θ gt x).2 with
 | false =>
  rw [hm2] at h1
  have e:r9 θ gt s now k rC x = (s,1):=by unfold r9;exact if_pos (.inl hm2)
  rw [e]
  simp only [Gf,h1,hu,go_sem,Nat.reduceAdd,Nat.reduceMul,Nat.reduceEqDiff,Nat.reduceBEq,Nat.reduceMod,Nat.reduceDiv,↓reduceIte,reduceCtorEq]
 | true =>
 rw [hm2] at h1
 by_cases hun:eO now (wP θ gt x).1 = -1
 ·have e:r9 θ gt s now k rC x = (s,1):=by unfold r9;exact if_pos (.inr (.inl hun))
  rw [e]
  have hun':decide (eO now (wP θ gt x).1 = -1) = true:=decide_eq_true hun
  simp only [Gf,h1,hu,hun',go_sem,Nat.reduceAdd,Nat.reduceMul,Nat.reduceEqDiff,Nat.reduceBEq,Nat.reduceMod,Nat.reduceDiv,↓reduceIte,reduceCtorEq]
 have hun':decide (eO now (wP θ gt x).1 = -1) = false:=decide_eq_false hun
 cases ha:θ.ask k with
 | false =>
  have e:r9 θ gt s now k rC x = (s,1):=by unfold r9;exact if_pos (.inr (.inr ha))
  rw [e]
  rw [ha] at h2
  simp only [Gf,h1,h2,hu,hun',go_sem,Nat.reduceAdd,Nat.reduceMul,Nat.reduceEqDiff,Nat.reduceBEq,Nat.reduceMod,Nat.reduceDiv,↓reduceIte,reduceCtorEq]
 | true =>
 rw [ha] at h2
 have hno:¬ ((wP θ gt x).2 = false ∨ eO now (wP θ gt x).1 = -1 ∨ θ.ask k = false):=by rw [hm2,ha];simp [hun]
 cases hl:jL now (eO now (wP θ gt x).1) with
 | false =>
  have e:r9 θ gt s now k rC x = (s,14):=by unfold r9;rw [if_neg hno,if_pos hl]
  rw [e]
  simp only [Gf,h1,h2,hu,hun',jH,hl,go_sem,Nat.reduceAdd,Nat.reduceMul,Nat.reduceEqDiff,Nat.reduceBEq,Nat.reduceMod,Nat.reduceDiv,↓reduceIte,reduceCtorEq]
 | true =>
 have e:r9 θ gt s now k rC x = (⟨s.room,((zV s.o (kn rC k) ++ [kn rC k]).take ((zV s.o (kn rC k) ++ [kn rC k]).length - s.room.toNat)).foldl rid (upd s.m ⟨kn rC k,rC,x,eO now (wP θ gt x).1⟩),(zV s.o (kn rC k) ++ [kn rC k]).drop ((zV s.o (kn rC k) ++ [kn rC k]).length - s.room.toNat),s.ch + 1⟩,0):=by
  unfold r9;rw [if_neg hno,if_neg (by rw [hl];decide)]
 rw [e]
 have hu':=fun n=>hu n (wP θ gt x).1
 generalize eO now (wP θ gt x).1 = u at hu' hun' hl ⊢
 have hw:IntKind.i64.wrap (s.ch + 1) = s.ch + 1:=zT (by omega) (by omega)
 have hwh:=fun n=>Em (ext:=ext) (F:=F) (n:=n) k
 have hcl:=fun n=>nT (ext:=ext) (F:=F) (n:=n) C ⟨kn rC k,rC,x,u⟩ hn
 have hqq:=@qD s.o (kn rC k)
 have ht:=fun n=>Eh (ext:=ext) (F:=F) (n:=n) C s.o (kn rC k) (by omega) hF
 have hct:=fun n=>Mt (ext:=ext) (F:=F) (n:=n) C (zV s.o (kn rC k) ++ [kn rC k]) s.room (by simp;omega) (by omega) hF
 have hup:=yN s.m ⟨kn rC k,rC,x,u⟩
 simp only [kq,rN] at hup
 generalize YF:zV s.o (kn rC k) ++ [kn rC k] = t at ht hct ⊢
 generalize t.drop (t.length - s.room.toNat) = td at hct ⊢
 generalize htt:t.take (t.length - s.room.toNat) = tt at hct ⊢
 have htl:tt.length ≤ 1000000:=by rw [← htt,List.length_take,← YF,List.length_append,List.length_singleton];omega
 generalize hM:upd s.m ⟨kn rC k,rC,x,u⟩ = M at hup ⊢
 cases rC
 all_goals
  simp only [kn,if_true,if_false,Bool.false_eq_true] at hup ht hct hcl
  simp only [Gf,h1,h2,hu',hun',jH,hl,hwh,hcl,ht,hct,hup,hw,go_sem,Nat.reduceAdd,Nat.reduceMul,Nat.reduceEqDiff,Nat.reduceBEq,Nat.reduceMod,Nat.reduceDiv,↓reduceIte,reduceCtorEq]
  refine jZ tt.length (fun i=>⟨[(0,PV.c (CV.one (PL.ptr 20201 0))),(14,PV.c (CV.one (PL.f (FV.sl (List.map rQ td))))),(75,PV.c (CV.one (PL.f (FV.sl (List.map rQ tt))))),(76,PV.c (CV.one (PL.f (FV.int IntKind.i64 ↑(List.map rQ tt).length)))),(77,PV.c (CV.one (PL.f (FV.int IntKind.i64 i))))],[(20201,Ob.iV [PL.f (FV.int IntKind.i64 s.room),PL.mp 20205,PL.f (FV.sl (List.map rQ s.o)),PL.f (FV.int IntKind.i64 s.ch)]),(20205,Ob.map Dr (((tt.take i).foldl rid M).map ent))]⟩) (fun _=>True) (by omega) rfl trivial (fun i hi _=>?_) (fun _=>?_)
  ·obtain ⟨k',hx,hlt,hit,h00⟩:=at_ hi
   have hn':=nx hi (by omega)
   have hdl:=yM ((tt.take i).foldl rid M) k'
   have hfo:(tt.take (i + 1)).foldl rid M = rid ((tt.take i).foldl rid M) k':=by rw [List.take_add_one,hx,List.foldl_append];rfl
   simp only [List.length_map,List.getElem?_map,hlt,hx,hit,h00,hn',rQ,hdl,go_sem,Nat.reduceAdd,Nat.reduceMul,Nat.reduceEqDiff,Nat.reduceBEq,Nat.reduceMod,Nat.reduceDiv,↓reduceIte,reduceCtorEq]
   rw [hfo]
  ·have hd:=@end_ _ tt
   simp only [List.length_map,hd,hw,List.take_length,go_sem,Nat.reduceAdd,Nat.reduceMul,Nat.reduceEqDiff,Nat.reduceBEq,Nat.reduceMod,Nat.reduceDiv,↓reduceIte,reduceCtorEq]
end Go.Proofs.Ytfokaoeinpnagaa.Kc.Ne
namespace Go.Proofs.Ytfokaoeinpnagaa.Ev
open Go Go.RowKit
def V4 : SV → TV
 | .int k n=>.f (.int k n)
 | .bool b=>.f (.bool b)
 | .str s=>.f (.str s)
def Gp (l:List SV):List AV:=l.map fun x=>.one (V4 x)
section
variable {P : Program} {Fz:Nat → Prop} {w:World}
theorem Ij {x:SV} {v:Value} {bs:List Nat}:nQ Fz w (V4 x) v bs ↔ v = encS x ∧ bs = []:=by
 cases x <;> simp only [V4,nQ,fB,encS]
theorem yP : ∀ {l:List SV} {vs:List Value} {bs:List Nat},fP Fz w (Gp l) vs bs → vs = l.map encS ∧ bs = []
 | [],[],_,h=>⟨rfl,h⟩
 | [],_ :: _,_,h=>h.elim
 | _ :: _,[],_,h=>h.elim
 | x :: l,v :: vs,_,⟨b1,b2,h1,h2,e⟩=>by
  obtain ⟨e1,e2⟩:=Ij.mp h1
  obtain ⟨e3,e4⟩:=yP (l:=l) h2
  subst e1;subst e2;subst e3;subst e4
  exact ⟨rfl,by rw [e];rfl⟩
theorem tQ : ∀ {l:List SV},fP Fz w (Gp l) (l.map encS) []
 | []=>rfl
 | x :: l=>⟨[],[],Ij.mpr ⟨rfl,rfl⟩,tQ (l:=l),rfl⟩
theorem Sat.wK {f:FuncId} {g:List AV → Option (List AV × List AV)} (h:∀ fK r,g fK = some r → ∃ ZZ9 rs:List SV,fK = Gp ZZ9 ∧ r = (Gp rs,Gp ZZ9) ∧
  ∀ w:World,Calls P f (ZZ9.map encS).toArray w fun e w'=>e = .returned (ret (rs.map encS)) ∧ Below w.heap.size w w'):Sat P f g:=by
 intro fK rs rY hg Fz w vals bs ha hnd hap hfz
 obtain ⟨ZZ9,rs',rfl,e,hc⟩:=h fK _ hg
 cases e
 obtain ⟨rfl,rfl⟩:=yP ha
 refine (hc w).mono fun e w' ⟨h1,hb'⟩=>?_
 exact ⟨Fz,rs'.map encS,[],[],h1,fun _ h=>h,fun b hb=>⟨Nat.lt_of_lt_of_le (hfz b hb) hb'.size,.inl hb⟩,hb'.size,fun b hb _=>hb'.block b hb,⟨hb'.os,hb'.output⟩,tQ,tQ,by simp,fun b hb=>by simp at hb⟩
def nU : List (FuncId × (List AV → Option (List AV × List AV))) → Env
 | []=>fun _ _=>none
 | (k,g) :: l=>fun f fK=>if k = f then g fK else nU l f fK
theorem yQ : ∀ {l:List (FuncId × (List AV → Option (List AV × List AV)))},(∀ p ∈ l,Sat P p.1 p.2) → iN P (nU l)
 | [],_=>fun f fK rs rY h=>by cases h
 | (k,g) :: l,h=>fun f fK rs rY he=>by
  unfold nU at he
  split at he
  ·rename_i e;subst e;exact h (k,g) (by simp) fK rs rY he
  ·exact yQ (fun p hp=>h p (List.mem_cons_of_mem _ hp)) f fK rs rY he
theorem sj : ∀ {l:List (FuncId × (List AV → Option (List AV × List AV)))},(∀ p ∈ l,∃ fn,P.funcs[p.1]? = some fn ∧ (fn.name == "runtime.NumGoroutine") = false ∧ fn.body.isSome = true) → eD P (nU l)
 | [],_=>fun f fK r h=>by cases h
 | (k,g) :: l,h=>fun f fK r he=>by
  unfold nU at he
  split at he
  ·rename_i e;subst e;exact h (k,g) (by simp)
  ·exact sj (fun p hp=>h p (List.mem_cons_of_mem _ hp)) f fK r he
end
end Go.Proofs.Ytfokaoeinpnagaa.Ev
namespace Go.Proofs.Ytfokaoeinpnagaa.Ev
open Go
def TJ (n:Nat) (ks:List Nat):Nat → Bool:=fun d=>decide (d < n) && !ks.contains d
noncomputable def MG (Γ:Env) (F:Nat) (ca cb:CC) (s:Nat) (D:St → Option St) (cf:CF) (fK:List AV):Option (List AV × List AV) :=
 if fK.length ≠ cf.np then none else (enter cf.bo 0 [] ⟨[],[]⟩ fK).bind fun e=>(ev Γ F ca e.2).bind fun p=>match p.1 with
  | .jd=>(ev Γ F cb ⟨put p.2.tm s (.c (.one .any)),p.2.ob⟩).bind fun q=>match q.1 with
   | .ext _=>none
   | _=>(D q.2).bind fun t=>(jX t e.1 fK).bind fun b=>(slots b.2 cf.res).bind fun l=>(mF cf.ro b.2 l).map fun r=>(r.1,b.1)
  | _=>none
section
variable {P : Program} {Γ:Env} {bG Fz bJ:Nat → Prop} {w0 w w':World} {bF bs:List Nat} {N:Fr} {F:Nat} {κ jl:Nat → Value} {σ fH σ':St} {a:Act} {X:Hx}
theorem Ok.reN (h:Ok bG w0 bF N jl σ a w) (N':Fr) (hn:N'.n = N.n) (hfs:∀ d,N'.ok d = false → a.tmps.getD d undef = N'.vs d):Ok bG w0 bF N' jl σ { a with defers:=N'.ds } w:=by
 obtain ⟨Fz,κ,h,hk⟩:=h
 exact ⟨Fz,κ,⟨h.tm,h.sz.trans hn.symm,rfl,hfs,h.ob,h.uT,h.pos,h.fz,h.zH,h.big,h.ext,h.kp⟩,hk⟩
theorem Gq (hm:P.follows .mixedOrders = true) (heq:∀ t ∈ X.eqs,lK P t) (l5:iN P Γ) (hC:eD P Γ) {f g:FuncId} {fn gn:Func} {a1 a2 r:Code} {id s c1 c2 t1 t2:Nat} {p1 p2:String} {Gc Gd:Array Edge} (hf:P.funcs[f]? = some fn)
  (hb:fn.body = some (.seq a1 (.seq a2 (.seq (.region id #[{ dst:=some s,op:=.makeFunc (.func g) #[] #[.tmp c1,.tmp c2],type:=t1,pos:=p1,after:=Gc,guard:=none },{ dst:=none,op:=.defer { callee:=.value (.tmp s),args:=#[],argTypes:=#[] },type:=t2,pos:=p2,after:=Gd,guard:=none }] false) r))))
  (hg:P.funcs[g]? = some gn) (hgn:(gn.name == "runtime.NumGoroutine") = false) (hgb:gn.body.isSome = true) {cf:CF} {ca cb:CC} {ha hb' ra rb:List Hi}
  (hca:comp P X (Uw fn.ntmps) (.seq a1 a2) ha = some (ca,ra)) (hcb:comp P X (TJ fn.ntmps [c1,c2]) r hb' = some (cb,rb)) (hr:ny P fn.results.toList = some cf.res) (hnp:cf.np ≤ fn.ntmps) (hs:s < fn.ntmps) (hs1:c1 ≠ s) (hs2:c2 ≠ s) {D:St → Option St}
  (hD:∀ (bG:Nat → Prop) (w0:World) (bF:List Nat) (N:Fr) (jl:Nat → Value) (σ σ':St) (a:Act) (w:World),Ok bG w0 bF N jl σ a w → D σ = some σ' → CallsD P g #[a.tmps.getD c1 undef,a.tmps.getD c2 undef] .returning w fun e u w'=>u = .returning ∧ (∃ v,e = .returned v) ∧ Ok bG w0 bF N jl σ' a w')
  (F:Nat):Sat P f (MG Γ F ca cb s D cf):=by
 intro fK rs rY hE Fz w vals bs Xm hnd hap hfz
 unfold MG at hE
 split at hE
 ·cases hE
 rename_i hlen
 have hlen':fK.length = cf.np:=Decidable.not_not.mp hlen
 have hvl:vals.length = fK.length:=Xm.len
 obtain ⟨e,h1,hE⟩:=zbm hE
 obtain ⟨p,h2,hE⟩:=zbm hE
 refine calls_of_wp_defers hf hb ?_
 have hsz:(vals.toArray ++ Array.replicate (fn.ntmps - vals.toArray.size) undef).size = fn.ntmps:=by simp;omega
 obtain ⟨jl,hok,g2⟩:=entered (bo:=cf.bo) Xm hnd hap hfz hsz h1
 cases hp:p.1 with
 | ext i=>rw [hp] at hE;cases hE
 | ret=>rw [hp] at hE;cases hE
 | jd =>
 rw [hp] at hE
 obtain ⟨q,h3,hEq⟩:=zbm hE
 obtain ⟨x1,hx1,hx2⟩:=zbm hca
 obtain ⟨x2,hx3,hx4⟩:=zmm hx2
 cases hx4
 obtain ⟨y1,hy1,hy2⟩:=zbm h2
 have hyn:y1.1 = .jd ∧ ev Γ F x2.1 y1.2 = some p:=by
  cases hy:y1.1 with
  | jd=>rw [hy] at hy2;exact ⟨rfl,hy2⟩
  | ext i=>rw [hy] at hy2;cases hy2;cases hp
  | ret=>rw [hy] at hy2;cases hy2;cases hp
 obtain ⟨hy3,hy4⟩:=hyn
 refine wp_seq (DZ hm heq l5 hC a1 hx1 hok hy1 fun b1 u1 k1=>?_)
 rw [hy3]
 refine wp_seq (DZ hm heq l5 hC a2 hx3 k1 hy4 fun b2 u2 k2=>?_)
 rw [hp]
 refine wp_seq ?_
 have hmk:∀ v1 v2:Value,(Instr.makeFunc (.func g) #[] #[v1,v2]).run P u2 = .ok (.func (.func g) #[] #[v1,v2]) u2:=fun _ _=>rfl
 obtain ⟨v1,hv1⟩:∃ v,v = b2.tmps.getD c1 undef:=⟨_,rfl⟩
 obtain ⟨v2,hv2⟩:∃ v,v = b2.tmps.getD c2 undef:=⟨_,rfl⟩
 obtain ⟨b3,hb3⟩:∃ b,b = b2.put (some s) (.func (.func g) #[] #[v1,v2]):=⟨_,rfl⟩
 have hdef:b2.defers = []:=by obtain ⟨_,_,hr2,_⟩:=k2;exact hr2.mg
 have hsz2:b2.tmps.size = fn.ntmps:=by obtain ⟨_,_,hr2,_⟩:=k2;exact hr2.sz
 have hk3:Ok Fz w bs (Fr.of fn.ntmps) jl ⟨put p.2.tm s (.c (.one .any)),p.2.ob⟩ b3 u2:=by
  obtain ⟨F2,FU,hr2,hk2⟩:=k2
  rw [hb3]
  exact ⟨F2,FU,hr2.put (by simpa [Fr.of,Uw] using hs) (pv:=.c (.one .any)) trivial,hk2⟩
 have hts:∀ d,d ≠ s → b3.tmps.getD d undef = b2.tmps.getD d undef:=fun d hd=>by
  rw [hb3]
  simp only [Act.put,Array.getD_eq_getD_getElem?,Array.getElem?_setIfInBounds]
  rw [if_neg (fun e=>hd e.symm)]
 obtain ⟨N1,hN1⟩:∃ N:Fr,N = ⟨fn.ntmps,[{ target:=.fn (.func g) #[v1,v2],args:=#[] }],TJ fn.ntmps [c1,c2],fun d h=>by simp [TJ] at h;omega,fun d=>b3.tmps.getD d undef⟩:=⟨_,rfl⟩
 have hk4:=hk3.reN N1 (by rw [hN1];rfl) (fun d _=>by rw [hN1])
 refine wp_region_lit (l:=[_,_]) ?_
 unfold wpList
 rw [if_pos (show Region.wanted _ _ = true from rfl)]
 left
 have r1:(execOp b2.eval { dst:=some s,op:=.makeFunc (.func g) #[] #[.tmp c1,.tmp c2],type:=t1,pos:=p1,after:=Gc,guard:=none }).run P u2 = .ok (.value (.func (.func g) #[] #[v1,v2])) u2:=by
  unfold execOp
  simp [Act.eval,hmk,← hv1,← hv2]
 unfold Oper.wp
 rw [r1]
 show wpList P _ _ _ (b2.put (some s) _) u2
 rw [← hb3]
 unfold wpList
 rw [if_pos (show Region.wanted _ _ = true from rfl)]
 left
 have r2:(execOp b3.eval { dst:=none,op:=.defer { callee:=.value (.tmp s),args:=#[],argTypes:=#[] },type:=t2,pos:=p2,after:=Gd,guard:=none }).run P u2 = .ok (.defer { target:=.fn (.func g) #[v1,v2],args:=#[] }) u2:=by
  have hvs:b3.eval (.tmp s) = .func (.func g) #[] #[v1,v2]:=by
   rw [hb3]
   simp only [Act.eval,Act.put,Array.getD_eq_getD_getElem?,Array.getElem?_setIfInBounds]
   rw [if_pos trivial,if_pos (by rw [hsz2];exact hs)]
   rfl
  unfold execOp resolve
  simp only [hvs]
  simp [Deferred.ofValue]
 unfold Oper.wp
 rw [r2]
 show wpList P _ _ _ { b3 with defers:={ target:=.fn (.func g) #[v1,v2],args:=#[] } :: b3.defers } u2
 unfold wpList
 show r.wp P _ _ _
 have hd3:b3.defers = []:=by rw [hb3];exact hdef
 rw [hd3]
 rw [hN1] at hk4
 refine DZ hm heq l5 hC r hcb hk4 h3 fun b4 u4 k4=>?_
 have hkeep:∀ d,(d = c1 ∨ d = c2) → b4.tmps.getD d undef = b3.tmps.getD d undef:=fun d hd=>by
  obtain ⟨_,_,hr4,_⟩:=k4
  exact hr4.fs d (by simp [TJ];rcases hd with rfl | rfl <;> simp)
 have hds:b4.defers = [{ target:=.fn (.func g) #[v1,v2],args:=#[] }]:=by obtain ⟨_,_,hr4,_⟩:=k4;exact hr4.mg
 have fin:(∃ t,D q.2 = some t ∧ ((jX t e.1 fK).bind fun b=>(slots b.2 cf.res).bind fun l=>(mF cf.ro b.2 l).map fun r=>(r.1,b.1)) = some (rs,rY)) → Leaves P fn b4.tmps (fun e w'=>∃ bJ uX b1 b2,e = .returned (ret uX) ∧ Post Fz w vals bs rs rY bJ w' uX b1 b2) b4.defers .returning u4:=by
  rintro ⟨t,d1,d2⟩
  rw [hds]
  refine leaves_cons (f:=g) (args:=#[v1,v2]) (by simp) ?_ ?_
  ·show (callFunc g (#[] ++ #[v1,v2])).run P u4 = _
   rw [oU hg hgn hgb]
   simp
  ·have hcd:=hD Fz w bs _ jl q.2 t b4 u4 k4 d1
   rw [hkeep c1 (.inl rfl),hkeep c2 (.inr rfl),hts c1 hs1,hts c2 hs2,← hv1,← hv2] at hcd
   refine hcd.mono ?_
   rintro e' u' w' ⟨rfl,⟨v,rfl⟩,k5⟩
   show Leaves P fn b4.tmps _ [] (settle .returning) w'
   obtain ⟨_,v',g3,g4⟩:=LV hr Xm hap hfz g2 b4 w' k5 d2
   exact ⟨v',g3,g4⟩
 cases hq:q.1 with
 | ext i=>rw [hq] at hEq;cases hEq
 | jd =>
  rw [hq] at hEq
  obtain ⟨t,d1,d2⟩:=zbm hEq
  exact fin ⟨t,d1,d2⟩
 | ret =>
  rw [hq] at hEq
  obtain ⟨t,d1,d2⟩:=zbm hEq
  exact fin ⟨t,d1,d2⟩
noncomputable def Dcl (Γ:Env) (F:Nat) (cc:CC) (c1 c2:Nat) (σ:St):Option St:=match get σ.tm c1,get σ.tm c2 with
 | some x,some y=>(ev Γ F cc ⟨[(0,x),(1,y)],σ.ob⟩).bind fun p=>match p.1 with
  | .ext _=>none
  | _=>(get p.2.tm 0).map fun z=>⟨[(c1,z)],p.2.ob⟩
 | _,_=>none
theorem V5 (hm:P.follows .mixedOrders = true) (heq:∀ t ∈ X.eqs,lK P t) (l5:iN P Γ) (hC:eD P Γ) {g:FuncId} {gn:Func} {c:Code} {cc:CC} {h1 h2:List Hi} {c1 c2:Nat} (hg:P.funcs[g]? = some gn) (hb:gn.body = some c) (hc:comp P X (TJ gn.ntmps [0]) c h1 = some (cc,h2)) (hr:gn.results = #[]) (hn:2 ≤ gn.ntmps) (F:Nat)
  (bG:Nat → Prop) (w0:World) (bF:List Nat) (N:Fr) (jl:Nat → Value) (σ σ':St) (a:Act) (w:World) (hO:Ok bG w0 bF N jl σ a w) (hd:Dcl Γ F cc c1 c2 σ = some σ') :
  CallsD P g #[a.tmps.getD c1 undef,a.tmps.getD c2 undef] .returning w fun e u w'=>u = .returning ∧ (∃ v,e = .returned v) ∧ Ok bG w0 bF N jl σ' a w':=by
 unfold Dcl at hd
 split at hd
 ·rename_i x y hx hy
  obtain ⟨p,h3,hd⟩:=zbm hd
  obtain ⟨b0,hb0⟩:∃ b:Act,b = { tmps:=#[a.tmps.getD c1 undef,a.tmps.getD c2 undef] ++ Array.replicate (gn.ntmps - 2) undef,defers:=[] }:=⟨_,rfl⟩
  have e0:b0.tmps.getD 0 undef = a.tmps.getD c1 undef:=by rw [hb0];simp [Array.getD_eq_getD_getElem?,Array.getElem?_append]
  have e1:b0.tmps.getD 1 undef = a.tmps.getD c2 undef:=by rw [hb0];simp [Array.getD_eq_getD_getElem?,Array.getElem?_append]
  obtain ⟨N',hN'⟩:∃ N:Fr,N = ⟨gn.ntmps,[],TJ gn.ntmps [0],fun d h=>by simp [TJ] at h;omega,fun d=>b0.tmps.getD d undef⟩:=⟨_,rfl⟩
  have DY:Ok bG w0 bF N' jl ⟨[(0,x),(1,y)],σ.ob⟩ b0 w:=by
   obtain ⟨Fz,κ,hr,hk⟩:=hO
   refine ⟨Fz,κ,⟨fun p hp=>?_,by rw [hb0,hN'];simp;omega,by rw [hb0,hN'],fun d _=>by rw [hN'],hr.ob,hr.uT,hr.pos,hr.fz,hr.zH,hr.big,hr.ext,hr.kp⟩,hk⟩
   simp only [List.mem_cons,List.not_mem_nil,or_false] at hp
   rcases hp with rfl | rfl
   ·rw [e0];exact hr.val hx
   ·rw [e1];exact hr.val hy
  have main:∀ b u,Ok bG w0 bF N' jl p.2 b u → (∃ z,get p.2.tm 0 = some z ∧ σ' = ⟨[(c1,z)],p.2.ob⟩) → b.defers = [] ∧ ∃ v,(results gn b.tmps).run P u = .ok v u ∧ (∃ v',Ending.returned v = .returned v') ∧ Ok bG w0 bF N jl σ' a u:=by
   rintro b u ⟨Fz,κ,hr2,hk2⟩ ⟨z,hz,rfl⟩
   refine ⟨by have:=hr2.mg;rw [this,hN'],.tuple #[],?_,⟨_,rfl⟩,?_⟩
   ·unfold results
    rw [hr]
    simp
   ·obtain ⟨_,_,hr,_⟩:=hO
    refine ⟨Fz,κ,⟨fun p hp=>?_,hr.sz,hr.mg,hr.fs,hr2.ob,hr2.uT,hr2.pos,hr2.fz,hr2.zH,hr2.big,hr2.ext,hr2.kp⟩,hk2⟩
    simp only [List.mem_cons,List.not_mem_nil,or_false] at hp
    subst hp
    have h5:b.tmps.getD 0 undef = N'.vs 0:=hr2.fs 0 (by rw [hN'];simp [TJ])
    have h6:N'.vs 0 = a.tmps.getD c1 undef:=by rw [hN'];exact e0
    show jk Fz κ u z (a.tmps.getD c1 undef)
    rw [← h6,← h5]
    exact hr2.val hz
  refine callsD_of_wp hg hb ?_
  have hst:({ tmps:=#[a.tmps.getD c1 undef,a.tmps.getD c2 undef] ++ Array.replicate (gn.ntmps - (#[a.tmps.getD c1 undef,a.tmps.getD c2 undef]:Array Value).size) undef,defers:=[] }:Act) = b0:=by rw [hb0];rfl
  rw [hst]
  rw [hN'] at DY
  refine DZ hm heq l5 hC c hc DY h3 fun b u hk=>?_
  rw [← hN'] at hk
  cases hp:p.1 with
  | ext i=>rw [hp] at hd;cases hd
  | jd =>
   rw [hp] at hd
   obtain ⟨z,hz,rfl⟩:=zmm hd
   exact main b u hk ⟨z,hz,rfl⟩
  | ret =>
   rw [hp] at hd
   obtain ⟨z,hz,rfl⟩:=zmm hd
   exact main b u hk ⟨z,hz,rfl⟩
 ·cases hd
end
end Go.Proofs.Ytfokaoeinpnagaa.Ev
namespace Go.Proofs.Ytfokaoeinpnagaa.Ev
open Go
open Go.ChangeMaps (setBlock)
def ofS : SV → FV
 | .int k n=>.int k n
 | .bool b=>.bool b
 | .str s=>.str s
def kvC : KV → CV
 | .one x=>.one (.f (ofS x))
 | .agg xs=>.agg (xs.map fun x=>.f (ofS x))
def MH (step:St → KV → Option St) (σ:St):List KV → Option St
 | []=>some σ
 | k :: l=>(step σ k).bind fun τ=>MH step τ l
open Classical in
noncomputable def TK (step:St → KV → Option St) (σ:St) (l:List KV):Option St :=
 if ∃ τ,∀ m:List KV,m.Perm l → MH step σ m = some τ then MH step σ l else none
def En (ks os:List Nat) (σ:St):St:=⟨pick ks σ.tm,pick os σ.ob⟩
def Gr (σ:St) (os:List Nat) (s:Nat):Option (List KV):=match get σ.tm s with
 | some (.c (.one (.mp key)))=>if os.contains key then none else match get σ.ob key with
  | some (.map _ ents)=>some (ents.map (·.1))
  | _=>none
 | _=>none
noncomputable def Ik (Γ:Env) (F:Nat) (ks os:List Nat) (s:Nat) (g6:List G) (k6:List Nat) (cb:CC) (σ:St) (k:KV):Option St :=
 (xR Γ false g6 ⟨put σ.tm s (.c (kvC k)),σ.ob⟩).bind fun t=>(ev Γ F cb ⟨pick k6 t.tm,t.ob⟩).bind fun p=>match p.1 with
  | .jd=>some (En ks os p.2)
  | _=>none
noncomputable def fin (cf:CF) (mY:List CV) (fK:List AV) (σ:St):Option (List AV × List AV):=(jX σ mY fK).bind fun b=>(slots b.2 cf.res).bind fun l=>(mF cf.ro b.2 l).map fun r=>(r.1,b.1)
noncomputable def aal (Γ:Env) (F:Nat) (ca:CC) (g4:List G) (sm:Nat) (ks os:List Nat) (s:Nat) (g6:List G) (k6:List Nat) (cb cc:CC) (cf:CF) (fK:List AV):Option (List AV × List AV) :=
 if fK.length ≠ cf.np then none else (enter cf.bo 0 [] ⟨[],[]⟩ fK).bind fun e=>(ev Γ F ca e.2).bind fun p=>match p.1 with
  | .ext _=>none
  | .ret=>fin cf e.1 fK p.2
  | .jd=>(xR Γ false g4 p.2).bind fun t=>(Gr t os sm).bind fun l=>(TK (Ik Γ F ks os s g6 k6 cb) (En ks os t) l).bind fun t=>(ev Γ F cc t).bind fun q=>match q.1 with
   | .ext _=>none
   | _=>fin cf e.1 fK q.2
section
variable {P : Program} {Γ:Env} {bG Fz bJ:Nat → Prop} {w0 w w':World} {bF bs:List Nat} {N N':Fr} {F:Nat} {κ fu jl:Nat → Value} {σ fH σ':St} {a a':Act} {X:Hx}
def blks (κ:Nat → Value) (ob:List (Nat × Ob)):List Nat:=ob.filterMap fun p=>blk (κ p.1)
theorem Eo {b:Nat} {ob:List (Nat × Ob)}:b ∈ blks κ ob ↔ ∃ p ∈ ob,blk (κ p.1) = some b:=List.mem_filterMap
theorem Rel.base (h:Rel bG w0 bF N Fz κ σ a w):Rel Fz w (blks κ σ.ob) N Fz κ σ a w :=
 ⟨h.tm,h.sz,h.mg,h.fs,h.ob,h.uT,fun p hp b hb=>⟨(h.pos p hp b hb).1,(h.pos p hp b hb).2.1,.inl (Eo.mpr ⟨p,hp,hb⟩)⟩,fun b hb=>⟨(h.fz b hb).1,.inl hb⟩,fun _ h=>h,Nat.le_refl _,fun _ _ _=>rfl,⟨rfl,rfl⟩⟩
theorem Rel.old (h:Rel bG w0 bF N Fz κ σ a w) {b:Nat} (hb:b ∈ blks κ σ.ob):¬ Fz b ∧ b < w.heap.size ∧ (b ∈ bF ∨ w0.heap.size ≤ b):=by
 obtain ⟨p,hp,hb⟩:=Eo.mp hb
 exact h.pos p hp b hb
end
end Go.Proofs.Ytfokaoeinpnagaa.Ev
set_option maxRecDepth 4000
namespace Go.Proofs.Ytfokaoeinpnagaa.Ev
open Go
section
variable {Γ : Env} {F s sm:Nat} {ks os k6:List Nat} {g4 g6:List G} {ca cb cc:CC} {cf:CF} {fK:List AV} {mY:List CV} {σ:St} {kk:KV}
def Ye : Out → (Unit → Prop) → (Unit → Prop) → Prop
 | .ret,A,_=>A ()
 | .jd,_,B=>B ()
 | .ext _,_,_=>False
@[go_sem] theorem ade {A B:Unit → Prop}:Ye .ret A B ↔ A ():=Iff.rfl
@[go_sem] theorem adf {A B:Unit → Prop}:Ye .jd A B ↔ B ():=Iff.rfl
def kB : Option Ob → Option (List KV)
 | some (.map _ ents)=>some (ents.map (·.1))
 | _=>none
def kA (os:List Nat) (ob:List (Nat × Ob)):Option PV → Option (List KV)
 | some (.c (.one (.mp key)))=>if os.contains key then none else kB (get ob key)
 | _=>none
@[go_sem] theorem afH {sh:KS} {ents:List (KV × FC)}:kB (some (.map sh ents)) = some (ents.map (·.1)):=rfl
@[go_sem] theorem Yf : Gr σ os s = kA os σ.ob (get σ.tm s):=rfl
@[go_sem] theorem aam : En ks os σ = ⟨pick ks σ.tm,pick os σ.ob⟩:=rfl
@[go_sem ↓] theorem aha {k:List AV × List AV → Prop} {u:Tok k}:W k u (fin cf mY fK σ) ↔ W (fun b=>W (fun l=>W (fun r=>k (r.1,b.1)) ⟨⟩ (mF cf.ro b.2 l)) ⟨⟩ (slots b.2 cf.res)) ⟨⟩ (jX σ mY fK):=by
 simp only [fin,dO,bq,bX]
@[go_sem ↓] theorem adg {k:St → Prop} {u:Tok k}:W k u (Ik Γ F ks os s g6 k6 cb σ kk) ↔ W (fun t=>W (fun p=>p.1 = .jd ∧ k (En ks os p.2)) ⟨⟩ (ev Γ F cb ⟨pick k6 t.tm,t.ob⟩)) ⟨⟩ (xR Γ false g6 ⟨put σ.tm s (.c (kvC kk)),σ.ob⟩):=by
 simp only [Ik,dO,bq]
 refine cK fun t=>cK fun p=>?_
 obtain ⟨o,σ'⟩:=p
 cases o <;> simp [jv,bH]
@[go_sem ↓] theorem afI {k:List AV × List AV → Prop} {u:Tok k}:W k u (aal Γ F ca g4 sm ks os s g6 k6 cb cc cf fK) ↔ fK.length = cf.np ∧ W (fun e=>W (fun p=>Ye p.1 (fun _=>W k ⟨⟩ (fin cf e.1 fK p.2)) (fun _=>W (fun t=>W (fun l=>W (fun t=>W (fun q=>(∀ id,q.1 ≠ .ext id) ∧ W k ⟨⟩ (fin cf e.1 fK q.2)) ⟨⟩ (ev Γ F cc t)) ⟨⟩ (TK (Ik Γ F ks os s g6 k6 cb) (En ks os t) l)) ⟨⟩ (Gr t os sm)) ⟨⟩ (xR Γ false g4 p.2))) ⟨⟩ (ev Γ F ca e.2)) ⟨⟩ (enter cf.bo 0 [] ⟨[],[]⟩ fK):=by
 simp only [aal,dO,dw,bq,ne_eq,Decidable.not_not]
 refine and_congr Iff.rfl (cK fun e=>cK fun p=>?_)
 obtain ⟨o,σ'⟩:=p
 cases o with
 | ext i=>simp [jv,Ye]
 | ret=>simp only [Ye]
 | jd =>
  simp only [Ye,bq]
  refine cK fun t=>cK fun l=>cK fun t'=>cK fun q=>?_
  obtain ⟨o,σ'⟩:=q
  cases o <;> simp [jv]
end
end Go.Proofs.Ytfokaoeinpnagaa.Ev
namespace Go.Proofs.Ytfokaoeinpnagaa.Kc.Ne
open Go Ev
variable {ext : Env} {F n:Nat} {θ:Th} {gt:ByteArray → Int → Int → Int × Bool}
end Go.Proofs.Ytfokaoeinpnagaa.Kc.Ne
set_option maxRecDepth 4000
namespace Go.Proofs.Ytfokaoeinpnagaa.Kc
open Go Ev
variable {ext : Env} {F n:Nat} {θ:Th}
def rD (now u:Int):Int:=if jL now u = true then (if 604800 < u - now then 604800 else u - now) else 0
def MI (r:Int):Bool:=decide (3 ≤ r ∧ r ≤ 5)
theorem P8 {now u:Int} (h:jL now u = true) (hu:u ≤ 4611686018427387904):IntKind.i64.wrap (u - now) = u - now:=by
 unfold jL Mc at h
 simp only [Bool.and_eq_true,decide_eq_true_eq] at h
 exact zT (by omega) (by omega)
theorem Il (now u:Int) (hu:u ≤ 4611686018427387904):G ext F (n + 3) 62 [vi now,vi u] = some ([vi (rD now u)],[vi now,vi u]):=by
 refine eF (cf:=Z8) rfl ?_
 cases h:jL now u with
 | false =>
  have e:rD now u = 0:=by unfold rD;rw [h];rfl
  rw [e]
  simp only [Z8,jH,h,go_sem,Nat.reduceAdd,Nat.reduceMul,Nat.reduceEqDiff,Nat.reduceBEq,Nat.reduceMod,Nat.reduceDiv,↓reduceIte,reduceCtorEq]
 | true =>
  have e:rD now u = if 604800 < u - now then 604800 else u - now:=by unfold rD;rw [h];rfl
  have hw:=P8 h hu
  rw [e]
  simp only [Z8,jH,h,hw,go_sem,Nat.reduceAdd,Nat.reduceMul,Nat.reduceEqDiff,Nat.reduceBEq,Nat.reduceMod,Nat.reduceDiv,↓reduceIte,reduceCtorEq]
theorem Ep (r:Int):G ext F (n + 2) 61 [vi r] = some ([vb (MI r)],[vi r]):=by
 refine eF (cf:=c61) rfl ?_
 simp only [c61,Gg,go_sem,Nat.reduceAdd,Nat.reduceMul,Nat.reduceEqDiff,Nat.reduceBEq,Nat.reduceMod,Nat.reduceDiv,↓reduceIte,reduceCtorEq]
 all_goals (simp [MI])
structure mZ where
 s:Se
 left:Int
def Cn : Se:=⟨⟨#[]⟩,0,0,[],0⟩
def kR : mZ:=⟨Cn,0⟩
structure Ch where
 hits:List mZ
 e:Int
 nm:ByteArray
 Co:mZ
def rH (x:mZ):List FV:=[.str x.s.q,.int .i64 x.s.t,.int .i64 x.s.c,.sl (x.s.d.map fD),.int .i64 x.s.ttl,.int .i64 x.left]
abbrev mZ.v (x:mZ):AV:=.agg [.f (.str x.s.q),.f (.int .i64 x.s.t),.f (.int .i64 x.s.c),.f (.sl (x.s.d.map fD)),.f (.int .i64 x.s.ttl),.f (.int .i64 x.left)]
abbrev Ch.v (x:Ch):AV:=.agg [.f (.sl (x.hits.map rH)),.f (.int .i64 x.e),.f (.str x.nm),.f (.str x.Co.s.q),.f (.int .i64 x.Co.s.t),.f (.int .i64 x.Co.s.c),.f (.sl (x.Co.s.d.map fD)),.f (.int .i64 x.Co.s.ttl),.f (.int .i64 x.Co.left)]
def tl (pk:Qn → It × Bool) (now:Int) (q:Qn):Option mZ:=if (pk q).2 = true ∧ MI (pk q).1.r = true then some ⟨⟨(pk q).1.q,(pk q).1.t,(pk q).1.c,(pk q).1.d,(pk q).1.ttl⟩,rD now (pk q).1.u⟩ else none
def tg (nm:Int → ByteArray → List ByteArray) (s:Se):Option ByteArray:=if s.t = 5 then s.d.head?.bind fun d=>(nm 5 d).head? else none
def al (nm:Int → ByteArray → List ByteArray) (pk:Qn → It × Bool) (now:Int) (q:Qn):Option (mZ × ByteArray):=if q.t = 5 then none else (tl pk now ⟨q.q,5,q.c⟩).bind fun h=>(tg nm h.s).map fun to=>(h,to)
def fin (fd:Qn → Ne.Nt × Bool) (now:Int) (hits:List mZ) (q:Qn):Ch:=if (fd q).2 = true then ⟨hits,if (fd q).1.nx = true then 2 else 1,q.q,⟨(fd q).1.s,rD now (fd q).1.u⟩⟩ else ⟨hits,3,q.q,kR⟩
def FH (nm:Int → ByteArray → List ByteArray) (pk:Qn → It × Bool) (fd:Qn → Ne.Nt × Bool) (now:Int):Nat → List ByteArray → List mZ → Qn → Ch
 | 0,_,hits,q=>⟨hits,4,q.q,kR⟩
 | f + 1,met,hits,q=>match tl pk now q with
  | some h=>⟨hits ++ [h],0,q.q,kR⟩
  | none=>match al nm pk now q with
   | none=>fin fd now hits q
   | some (h,to)=>if 8 ≤ hits.length ∨ tN met to = true then ⟨hits ++ [h],4,q.q,kR⟩ else FH nm pk fd now f (met ++ [to]) (hits ++ [h]) ⟨to,q.t,q.c⟩
def xA (nm:Int → ByteArray → List ByteArray) (pk:Qn → It × Bool) (fd:Qn → Ne.Nt × Bool) (now:Int) (q:Qn):Ch:=FH nm pk fd now 9 [q.q] [] q
end Go.Proofs.Ytfokaoeinpnagaa.Kc
set_option maxRecDepth 4000
namespace Go.Proofs.Ytfokaoeinpnagaa.Kc
open Go Ev
variable {ext : Env} {F n:Nat} {θ:Th} {nm:Int → ByteArray → List ByteArray}
structure Cq (nm:Int → ByteArray → List ByteArray) (ext:Env):Prop where
 n0:∀ k q,q.size ≤ 1000000 → ext 29 [vi k,vs q] = some ([vl ((nm k q).map fD)],[vi k,vs q])
 n1:∀ k q,q.size ≤ 1000000 → ext 30 [vi k,vs q] = some ([vl ((nm k q).map fD)],[vi k,vs q])
theorem aan (M:Cq nm ext) (k:Int) (q:ByteArray) (h:q.size ≤ 1000000):G ext F (n + 1) 29 [vi k,vs q] = some ([vl ((nm k q).map fD)],[vi k,vs q]):=(congrFun (mH rfl) _).trans (M.n0 k q h)
def Er (nm:Int → ByteArray → List ByteArray) (s:Se):ByteArray × Bool:=match tg nm s with
 | some x=>(x,true)
 | none=>(⟨#[]⟩,false)
theorem MJ {s:Se} (h:s.t ≠ 5):Er nm s = (⟨#[]⟩,false):=by unfold Er tg;rw [if_neg h]
theorem V6 {s:Se} (h:s.d = []):Er nm s = (⟨#[]⟩,false):=by unfold Er tg;rw [h];by_cases h5:s.t = 5 <;> simp [h5]
theorem P9 {s:Se} {y:ByteArray} {d:List ByteArray} (h5:s.t = 5) (h:s.d = y :: d) (hn:nm 5 y = []):Er nm s = (⟨#[]⟩,false):=by unfold Er tg;rw [if_pos h5,h];show (match ((nm 5 y).head?:Option ByteArray) with | some x=>(x,true) | none=>(⟨#[]⟩,false)) = _;rw [hn];rfl
theorem Qa {s:Se} {y z:ByteArray} {d l:List ByteArray} (h5:s.t = 5) (h:s.d = y :: d) (hn:nm 5 y = z :: l):Er nm s = (z,true):=by unfold Er tg;rw [if_pos h5,h];show (match ((nm 5 y).head?:Option ByteArray) with | some x=>(x,true) | none=>(⟨#[]⟩,false)) = _;rw [hn];rfl
theorem vo (M:Cq nm ext) (s:Se) (hd:∀ y ∈ s.d,y.size ≤ 1000000):G ext F (n + 2) 10 [s.v] = some ([vs (Er nm s).1,vb (Er nm s).2],[s.v]):=by
 refine eF (cf:=c10) rfl ?_
 by_cases h5:s.t = 5
 ·have h5':decide (s.t = 5) = true:=decide_eq_true h5
  cases hy:s.d with
  | nil =>
   rw [V6 hy]
   simp only [Se.v,tL,hy,List.map_nil]
   simp only [c10,h5',List.length_nil,show decide (((0:Nat):Int) = 0) = true from rfl,go_sem,Nat.reduceAdd,Nat.reduceMul,Nat.reduceEqDiff,Nat.reduceBEq,Nat.reduceMod,Nat.reduceDiv,↓reduceIte,reduceCtorEq]
   simp [hy]
  | cons y ds =>
   have hlen:decide ((((List.map fD ds).length + 1:Nat):Int) = 0) = false:=by simp;omega
   have h1:=fun n=>aan (F:=F) (n:=n) M 5 y (hd y (by rw [hy];simp))
   cases hz:nm 5 y with
   | nil =>
    rw [P9 h5 hy hz]
    rw [hz] at h1
    simp only [Se.v,tL,hy,List.map_cons,List.map_nil,fD] at h1 ⊢
    simp only [c10,h5',hlen,h1,List.getElem?_cons_zero,Int.toNat_zero,List.length_nil,show decide (((0:Nat):Int) = 0) = true from rfl,go_sem,Nat.reduceAdd,Nat.reduceMul,Nat.reduceEqDiff,Nat.reduceBEq,Nat.reduceMod,Nat.reduceDiv,↓reduceIte,reduceCtorEq]
    exact ⟨Int.le_refl _,by simp [hy,fD]⟩
   | cons z zs =>
    rw [Qa h5 hy hz]
    rw [hz] at h1
    have aao:decide ((((List.map fD zs).length + 1:Nat):Int) = 0) = false:=by simp;omega
    simp only [Se.v,tL,hy,List.map_cons,fD] at h1 ⊢
    simp only [c10,h5',hlen,aao,h1,List.getElem?_cons_zero,Int.toNat_zero,go_sem,Nat.reduceAdd,Nat.reduceMul,Nat.reduceEqDiff,Nat.reduceBEq,Nat.reduceMod,Nat.reduceDiv,↓reduceIte,reduceCtorEq]
    exact ⟨Int.le_refl _,Int.le_refl _,by simp [hy,fD]⟩
 ·have h5':decide (s.t = 5) = false:=decide_eq_false h5
  rw [MJ h5]
  simp only [c10,h5',go_sem,Nat.reduceAdd,Nat.reduceMul,Nat.reduceEqDiff,Nat.reduceBEq,Nat.reduceMod,Nat.reduceDiv,↓reduceIte,reduceCtorEq]
abbrev Sv.tv (s:Sv):TV:=.ptr [.f (.int .i64 s.room),.mp Dr (s.m.map ent),.f (.sl (s.o.map rQ)),.f (.int .i64 s.ch)]
abbrev nvt (s:Ne.Nv):TV:=.ptr [.f (.int .i64 s.room),.mp Ne.Dr (s.m.map Ne.ent),.f (.sl (s.o.map rQ)),.f (.int .i64 s.ch)]
abbrev Yg (s:Sv) (m:Ne.Nv) (now:Int):AV:=.agg [s.tv,nvt m,.f (.int .i64 now)]
def Im (pk:Qn → It × Bool) (now:Int) (q:Qn):mZ × Bool:=match tl pk now q with
 | some h=>(h,true)
 | none=>(kR,false)
theorem Es (C:nS ext) (s:Sv) (m:Ne.Nv) (now:Int) (q:Qn) (hd:∀ x ∈ s.m,x.d.length ≤ 1000000) (hu:∀ x ∈ s.m,x.u ≤ 4611686018427387904):G ext F (n + 4) 34 [Yg s m now,q.v] = some ([(Im (dJ s now) now q).1.v,vb (Im (dJ s now) now q).2],[Yg s m now,q.v]):=by
 refine eF (cf:=c34) rfl ?_
 have h1:=fun n=>PX (ext:=ext) (F:=F) (n:=n) C s now q hd
 have hlu:=fun n=>Il (ext:=ext) (F:=F) (n:=n) now (dJ s now q).1.u (by
  unfold dJ
  split
  ·rename_i x ho
   split
   ·exact hu x (nA ho).2
   ·show (0:Int) ≤ _;omega
  ·show (0:Int) ≤ _;omega)
 unfold Im tl
 cases hv:(dJ s now q).2 with
 | false =>
  rw [hv] at h1
  simp only [c34,h1,go_sem,Nat.reduceAdd,Nat.reduceMul,Nat.reduceEqDiff,Nat.reduceBEq,Nat.reduceMod,Nat.reduceDiv,↓reduceIte,reduceCtorEq]
  rfl
 | true =>
  rw [hv] at h1
  cases ht:MI (dJ s now q).1.r with
  | false =>
   simp only [c34,h1,Ep,ht,go_sem,Nat.reduceAdd,Nat.reduceMul,Nat.reduceEqDiff,Nat.reduceBEq,Nat.reduceMod,Nat.reduceDiv,↓reduceIte,reduceCtorEq]
   rfl
  | true =>
   simp only [c34,h1,Ep,ht,hlu,go_sem,Nat.reduceAdd,Nat.reduceMul,Nat.reduceEqDiff,Nat.reduceBEq,Nat.reduceMod,Nat.reduceDiv,↓reduceIte,reduceCtorEq]
def TL (nm:Int → ByteArray → List ByteArray) (pk:Qn → It × Bool) (now:Int) (q:Qn):mZ × (ByteArray × Bool):=if q.t = 5 then (kR,(⟨#[]⟩,false)) else ((Im pk now ⟨q.q,5,q.c⟩).1,Er nm (Im pk now ⟨q.q,5,q.c⟩).1.s)
theorem MK (M:Cq nm ext) (C:nS ext) (s:Sv) (m:Ne.Nv) (now:Int) (q:Qn) (hd:∀ x ∈ s.m,x.d.length ≤ 1000000) (hu:∀ x ∈ s.m,x.u ≤ 4611686018427387904) (hy:∀ x ∈ s.m,∀ y ∈ x.d,y.size ≤ 1000000):G ext F (n + 5) 35 [Yg s m now,q.v] = some ([(TL nm (dJ s now) now q).1.v,vs (TL nm (dJ s now) now q).2.1,vb (TL nm (dJ s now) now q).2.2],[Yg s m now,q.v]):=by
 refine eF (cf:=TB) rfl ?_
 have h1:=fun n=>Es (F:=F) (n:=n) C s m now ⟨q.q,5,q.c⟩ hd hu
 have hsz:∀ y ∈ (Im (dJ s now) now ⟨q.q,5,q.c⟩).1.s.d,y.size ≤ 1000000:=by
  have h0:∀ y ∈ (dJ s now ⟨q.q,5,q.c⟩).1.d,y.size ≤ 1000000:=by
   unfold dJ
   split
   ·rename_i x ho
    split
    ·exact hy x (nA ho).2
    ·intro y h;cases h
   ·intro y h;cases h
  unfold Im tl
  split
  ·rename_i h he
   split at he
   ·cases he;exact h0
   ·cases he
  ·intro y h;cases h
 have h2:=fun n=>vo (F:=F) (n:=n) M (Im (dJ s now) now ⟨q.q,5,q.c⟩).1.s hsz
 unfold TL
 by_cases h5:q.t = 5
 ·have h5':decide (q.t = 5) = true:=decide_eq_true h5
  rw [if_pos h5]
  simp only [TB,h5',go_sem,Nat.reduceAdd,Nat.reduceMul,Nat.reduceEqDiff,Nat.reduceBEq,Nat.reduceMod,Nat.reduceDiv,↓reduceIte,reduceCtorEq]
  try rfl
 ·have h5':decide (q.t = 5) = false:=decide_eq_false h5
  rw [if_neg h5]
  simp only [TB,h5',h1,h2,go_sem,Nat.reduceAdd,Nat.reduceMul,Nat.reduceEqDiff,Nat.reduceBEq,Nat.reduceMod,Nat.reduceDiv,↓reduceIte,reduceCtorEq]
  try rfl
def ML (fd:Qn → Ne.Nt × Bool) (now:Int) (c:Ch) (q:Qn):Ch:=if (fd q).2 = true then ⟨c.hits,if (fd q).1.nx = true then 2 else 1,c.nm,⟨(fd q).1.s,rD now (fd q).1.u⟩⟩ else ⟨c.hits,3,c.nm,c.Co⟩
theorem Qb (C:nS ext) (s:Sv) (m:Ne.Nv) (now:Int) (c:Ch) (q:Qn) (hF:200000000000001 ≤ F) (hd:∀ x ∈ m.m,x.s.d.length ≤ 1000000) (hu:∀ x ∈ m.m,x.u ≤ 4611686018427387904):G ext F (n + 4) 36 [Yg s m now,c.v,q.v] = some ([(ML (Ne.gG m now) now c q).v],[Yg s m now,c.v,q.v]):=by
 refine eF (cf:=VT) rfl ?_
 have h1:=fun n=>Ne.MF (F:=F) (n:=n) C m now q hF hd
 have hlu:=fun n=>Il (ext:=ext) (F:=F) (n:=n) now (Ne.gG m now q).1.u (by
  have h9:∀ b y,Ne.nof m.m now b = some y → y.u ≤ 4611686018427387904:=fun b y hy=>by
   unfold Ne.nof at hy
   split at hy
   ·rename_i y' ho
    split at hy
    ·cases hy;exact hu _ (Ne.nA ho).2
    ·cases hy
   ·cases hy
  unfold Ne.gG
  split
  ·rename_i y hy;exact h9 _ _ hy
  ·unfold Ne.ofR
   split
   ·rename_i y hy;exact h9 _ _ hy
   ·show (0:Int) ≤ _;omega)
 unfold ML
 cases hv:(Ne.gG m now q).2 with
 | false =>
  rw [hv] at h1
  simp only [VT,h1,go_sem,Nat.reduceAdd,Nat.reduceMul,Nat.reduceEqDiff,Nat.reduceBEq,Nat.reduceMod,Nat.reduceDiv,↓reduceIte,reduceCtorEq]
  try rfl
 | true =>
  rw [hv] at h1
  cases hx:(Ne.gG m now q).1.nx
  all_goals
   simp only [VT,h1,hx,hlu,go_sem,Nat.reduceAdd,Nat.reduceMul,Nat.reduceEqDiff,Nat.reduceBEq,Nat.reduceMod,Nat.reduceDiv,↓reduceIte,reduceCtorEq]
   try rfl
end Go.Proofs.Ytfokaoeinpnagaa.Kc
set_option maxRecDepth 4000
namespace Go.Proofs.Ytfokaoeinpnagaa.Kc
open Go Ev
variable {ext : Env} {F n:Nat} {θ:Th} {nm:Int → ByteArray → List ByteArray}
abbrev mZ.k (x:mZ):Qn:=⟨x.s.q,x.s.t,x.s.c⟩
theorem MN (c:Ch) (hl:c.hits.length ≤ 1000000) (hF:200000000000001 ≤ F):G ext F (n + 1) 13 [c.v] = some ([vl ((c.hits.map mZ.k).map rQ)],[c.v]):=by
 refine eF (cf:=c13) rfl ?_
 simp only [c13,go_sem,Nat.reduceAdd,Nat.reduceMul,Nat.reduceEqDiff,Nat.reduceBEq,Nat.reduceMod,Nat.reduceDiv,↓reduceIte,reduceCtorEq]
 refine jZ c.hits.length (fun i=>⟨[(3,PV.c (CV.one (PL.own 80000 (((c.hits.take i).map mZ.k).map rQ).length))),(7,PV.c (CV.one (PL.f (FV.sl (c.hits.map rH))))),(8,PV.c (CV.one (PL.f (FV.int .i64 ((c.hits.map rH).length:Nat))))),(9,PV.c (CV.one (PL.f (FV.int .i64 i))))],[(80000,Ob.row 3 (((c.hits.take i).map mZ.k).map rQ))]⟩) (fun i=>True) (by omega) rfl trivial (fun i hi hP=>?_) (fun hP=>?_)
 ·obtain ⟨x,hx,hd,ht,h0⟩:=at_ hi
  have hn:=nx hi (by omega)
  have hw:(c.hits.take i).length = i:=by simp;omega
  have hs:((c.hits.take (i + 1)).map mZ.k).map rQ = ((c.hits.take i).map mZ.k).map rQ ++ [[.str x.s.q,.int .i64 x.s.t,.int .i64 x.s.c]]:=by rw [List.take_add_one,hx];simp [rQ]
  simp only [List.length_map,List.getElem?_map,hd,hx,ht,h0,rH,hw,hn,go_sem,Nat.reduceAdd,Nat.reduceMul,Nat.reduceEqDiff,Nat.reduceBEq,Nat.reduceMod,Nat.reduceDiv,↓reduceIte,reduceCtorEq]
  rw [hs]
  exact ⟨by omega,by simp [hw];omega⟩
 ·have hd:=@end_ _ c.hits
  simp only [List.length_map,hd,go_sem,Nat.reduceAdd,Nat.reduceMul,Nat.reduceEqDiff,Nat.reduceBEq,Nat.reduceMod,Nat.reduceDiv,↓reduceIte,reduceCtorEq]
  rw [List.take_length]
def vv (l:List ByteArray):List (KV × FC):=l.map fun s=>(.one (.str s),.one (.int .i64 1))
theorem Io (l:List ByteArray) (s:ByteArray):wL (vv l) (.one (.str s)) = l.findIdx? fun x=>decide (x = s):=by
 unfold wL vv
 rw [List.map_map,List.findIdx?_map]
 refine congrArg (fun p=>List.findIdx? p l) (funext fun x=>?_)
 simp only [Function.comp,KV.one.injEq,SV.str.injEq]
theorem MO {l:List ByteArray} {s:ByteArray} (h:tN l s = false):rO (vv l) (.one (.str s)) = none ∧ wM (vv l) (.one (.str s)) (.one (.int .i64 1)) = vv (l ++ [s]):=by
 have:l.findIdx? (fun x=>decide (x = s)) = none:=by
  refine List.findIdx?_eq_none_iff.mpr fun x hx=>?_
  unfold tN at h
  have:=List.any_eq_false.mp h x hx
  simpa using this
 unfold rO wM
 rw [Io,this]
 exact ⟨rfl,by simp [vv]⟩
theorem Qc {l:List ByteArray} {s:ByteArray} (h:tN l s = true):rO (vv l) (.one (.str s)) = some (.one (.int .i64 1)):=by
 unfold rO
 rw [Io]
 cases hi:l.findIdx? (fun x=>decide (x = s)) with
 | none =>
  have h1:=List.findIdx?_eq_none_iff.mp hi
  unfold tN at h
  obtain ⟨x,hx,he⟩:=List.any_eq_true.mp h
  have:=h1 x hx
  rw [he] at this;cases this
 | some i =>
  obtain ⟨hi', -⟩:=List.findIdx?_eq_some_iff_getElem.mp hi
  show ((vv l)[i]?.map fun p=>p.2) = _
  unfold vv
  rw [List.getElem?_map,List.getElem?_eq_getElem hi']
  rfl
theorem Qd {pk:Qn → It × Bool} {now:Int} {q:Qn} (h:al nm pk now q = none):(TL nm pk now q).2.2 = false:=by
 unfold al at h
 unfold TL
 split
 ·rfl
 ·rename_i h5
  rw [if_neg h5] at h
  unfold Im
  cases ht:tl pk now ⟨q.q,5,q.c⟩ with
  | none=>exact congrArg Prod.snd (MJ (nm:=nm) (s:=kR.s) (by decide))
  | some x =>
   rw [ht] at h
   show (Er nm x.s).2 = false
   unfold Er
   cases hg:tg nm x.s with
   | none=>rfl
   | some to=>rw [Option.bind_some,hg] at h;cases h
theorem Qe {pk:Qn → It × Bool} {now:Int} {q:Qn} {x:mZ} {to:ByteArray} (h:al nm pk now q = some (x,to)):TL nm pk now q = (x,(to,true)):=by
 unfold al at h
 unfold TL
 split at h
 ·cases h
 ·rename_i h5
  rw [if_neg h5]
  obtain ⟨y,h1,h2⟩:=zbm h
  obtain ⟨z,h3,h4⟩:=zmm h2
  cases h4
  unfold Im
  rw [h1]
  show (x,Er nm x.s) = _
  unfold Er
  rw [h3]
theorem Qf {fd:Qn → Ne.Nt × Bool} {now:Int} {hits:List mZ} {q:Qn}:ML fd now ⟨hits,0,q.q,kR⟩ q = fin fd now hits q:=by
 unfold ML fin;rfl
def fT (s:Sv) (m:Ne.Nv) (now:Int) (M:List ByteArray) (hits:List mZ) (pn:ByteArray) (q:Qn):St:=match hits with
 | []=>⟨[(7,PV.c (CV.one (PL.ptr 160000 0))),(8,PV.c (CV.one (PL.ptr 180000 0))),(9,PV.c (CV.one (PL.ptr 200000 0))),(10,PV.c (CV.one (PL.ptr 220000 0))),(11,PV.c (CV.one (PL.mp 440000)))],[(20201,Ob.iV [PL.f (FV.int IntKind.i64 s.room),PL.mp 20205,PL.f (FV.sl (List.map rQ s.o)),PL.f (FV.int IntKind.i64 s.ch)]),(20205,Ob.map Dr (List.map ent s.m)),(40201,Ob.iV [PL.f (FV.int IntKind.i64 m.room),PL.mp 40205,PL.f (FV.sl (List.map rQ m.o)),PL.f (FV.int IntKind.i64 m.ch)]),(40205,Ob.map Ne.Dr (List.map Ne.ent m.m)),(160000,Ob.iV [PL.f (FV.str q.q),PL.f (FV.int IntKind.i64 q.t),PL.f (FV.int IntKind.i64 q.c)]),(180000,Ob.iV [PL.dN,PL.f (FV.int IntKind.i64 0),PL.f (FV.str ⟨#[]⟩),PL.f (FV.str ⟨#[]⟩),PL.f (FV.int IntKind.i64 0),PL.f (FV.int IntKind.i64 0),PL.dN,PL.f (FV.int IntKind.i64 0),PL.f (FV.int IntKind.i64 0)]),(200000,Ob.iV [PL.ptr 20201 0,PL.ptr 40201 0,PL.f (FV.int IntKind.i64 now)]),(220000,Ob.iV [PL.dN,PL.f (FV.int IntKind.i64 0),PL.f (FV.str pn),PL.f (FV.str ⟨#[]⟩),PL.f (FV.int IntKind.i64 0),PL.f (FV.int IntKind.i64 0),PL.dN,PL.f (FV.int IntKind.i64 0),PL.f (FV.int IntKind.i64 0)]),(440000,Ob.map (KS.one SK.str) (vv M))]⟩
 | _=>⟨[(7,PV.c (CV.one (PL.ptr 160000 0))),(8,PV.c (CV.one (PL.ptr 180000 0))),(9,PV.c (CV.one (PL.ptr 200000 0))),(10,PV.c (CV.one (PL.ptr 220000 0))),(11,PV.c (CV.one (PL.mp 440000)))],[(20201,Ob.iV [PL.f (FV.int IntKind.i64 s.room),PL.mp 690004,PL.f (FV.sl (List.map rQ s.o)),PL.f (FV.int IntKind.i64 s.ch)]),(40201,Ob.iV [PL.f (FV.int IntKind.i64 m.room),PL.mp 690204,PL.f (FV.sl (List.map rQ m.o)),PL.f (FV.int IntKind.i64 m.ch)]),(160000,Ob.iV [PL.f (FV.str q.q),PL.f (FV.int IntKind.i64 q.t),PL.f (FV.int IntKind.i64 q.c)]),(180000,Ob.iV [PL.dN,PL.f (FV.int IntKind.i64 0),PL.f (FV.str ⟨#[]⟩),PL.f (FV.str ⟨#[]⟩),PL.f (FV.int IntKind.i64 0),PL.f (FV.int IntKind.i64 0),PL.dN,PL.f (FV.int IntKind.i64 0),PL.f (FV.int IntKind.i64 0)]),(200000,Ob.iV [PL.ptr 20201 0,PL.ptr 40201 0,PL.f (FV.int IntKind.i64 now)]),(220000,Ob.iV [PL.own 1240000 (hits.map rH).length,PL.f (FV.int IntKind.i64 0),PL.f (FV.str pn),PL.f (FV.str ⟨#[]⟩),PL.f (FV.int IntKind.i64 0),PL.f (FV.int IntKind.i64 0),PL.dN,PL.f (FV.int IntKind.i64 0),PL.f (FV.int IntKind.i64 0)]),(440000,Ob.map (KS.one SK.str) (vv M)),(690004,Ob.map Dr (List.map ent s.m)),(690204,Ob.map Ne.Dr (List.map Ne.ent m.m)),(1240000,.row 6 (hits.map rH))]⟩
theorem Cr (s:Sv) (m:Ne.Nv) (now:Int) (M:List ByteArray) (pn:ByteArray) (q:Qn):fT s m now M [] pn q = ⟨[(7,PV.c (CV.one (PL.ptr 160000 0))),(8,PV.c (CV.one (PL.ptr 180000 0))),(9,PV.c (CV.one (PL.ptr 200000 0))),(10,PV.c (CV.one (PL.ptr 220000 0))),(11,PV.c (CV.one (PL.mp 440000)))],[(20201,Ob.iV [PL.f (FV.int IntKind.i64 s.room),PL.mp 20205,PL.f (FV.sl (List.map rQ s.o)),PL.f (FV.int IntKind.i64 s.ch)]),(20205,Ob.map Dr (List.map ent s.m)),(40201,Ob.iV [PL.f (FV.int IntKind.i64 m.room),PL.mp 40205,PL.f (FV.sl (List.map rQ m.o)),PL.f (FV.int IntKind.i64 m.ch)]),(40205,Ob.map Ne.Dr (List.map Ne.ent m.m)),(160000,Ob.iV [PL.f (FV.str q.q),PL.f (FV.int IntKind.i64 q.t),PL.f (FV.int IntKind.i64 q.c)]),(180000,Ob.iV [PL.dN,PL.f (FV.int IntKind.i64 0),PL.f (FV.str ⟨#[]⟩),PL.f (FV.str ⟨#[]⟩),PL.f (FV.int IntKind.i64 0),PL.f (FV.int IntKind.i64 0),PL.dN,PL.f (FV.int IntKind.i64 0),PL.f (FV.int IntKind.i64 0)]),(200000,Ob.iV [PL.ptr 20201 0,PL.ptr 40201 0,PL.f (FV.int IntKind.i64 now)]),(220000,Ob.iV [PL.dN,PL.f (FV.int IntKind.i64 0),PL.f (FV.str pn),PL.f (FV.str ⟨#[]⟩),PL.f (FV.int IntKind.i64 0),PL.f (FV.int IntKind.i64 0),PL.dN,PL.f (FV.int IntKind.i64 0),PL.f (FV.int IntKind.i64 0)]),(440000,Ob.map (KS.one SK.str) (vv M))]⟩:=rfl
theorem qE (s:Sv) (m:Ne.Nv) (now:Int) (M:List ByteArray) (hits:List mZ) (pn:ByteArray) (q:Qn) (h:hits ≠ []):fT s m now M hits pn q = ⟨[(7,PV.c (CV.one (PL.ptr 160000 0))),(8,PV.c (CV.one (PL.ptr 180000 0))),(9,PV.c (CV.one (PL.ptr 200000 0))),(10,PV.c (CV.one (PL.ptr 220000 0))),(11,PV.c (CV.one (PL.mp 440000)))],[(20201,Ob.iV [PL.f (FV.int IntKind.i64 s.room),PL.mp 690004,PL.f (FV.sl (List.map rQ s.o)),PL.f (FV.int IntKind.i64 s.ch)]),(40201,Ob.iV [PL.f (FV.int IntKind.i64 m.room),PL.mp 690204,PL.f (FV.sl (List.map rQ m.o)),PL.f (FV.int IntKind.i64 m.ch)]),(160000,Ob.iV [PL.f (FV.str q.q),PL.f (FV.int IntKind.i64 q.t),PL.f (FV.int IntKind.i64 q.c)]),(180000,Ob.iV [PL.dN,PL.f (FV.int IntKind.i64 0),PL.f (FV.str ⟨#[]⟩),PL.f (FV.str ⟨#[]⟩),PL.f (FV.int IntKind.i64 0),PL.f (FV.int IntKind.i64 0),PL.dN,PL.f (FV.int IntKind.i64 0),PL.f (FV.int IntKind.i64 0)]),(200000,Ob.iV [PL.ptr 20201 0,PL.ptr 40201 0,PL.f (FV.int IntKind.i64 now)]),(220000,Ob.iV [PL.own 1240000 (hits.map rH).length,PL.f (FV.int IntKind.i64 0),PL.f (FV.str pn),PL.f (FV.str ⟨#[]⟩),PL.f (FV.int IntKind.i64 0),PL.f (FV.int IntKind.i64 0),PL.dN,PL.f (FV.int IntKind.i64 0),PL.f (FV.int IntKind.i64 0)]),(440000,Ob.map (KS.one SK.str) (vv M)),(690004,Ob.map Dr (List.map ent s.m)),(690204,Ob.map Ne.Dr (List.map Ne.ent m.m)),(1240000,.row 6 (hits.map rH))]⟩:=by
 cases hits with
 | nil=>exact absurd rfl h
 | cons a l=>rfl
theorem AJ (hits:List mZ):hits = [] ∨ hits ≠ []:=by cases hits <;> simp
set_option maxHeartbeats 16000000 in
theorem nV (O:Cq nm ext) (C:nS ext) (hF:200000000000001 ≤ F) (s:Sv) (m:Ne.Nv) (now:Int) (q:Qn) (hd:∀ x ∈ s.m,x.d.length ≤ 1000000) (hu:∀ x ∈ s.m,x.u ≤ 4611686018427387904) (hy:∀ x ∈ s.m,∀ y ∈ x.d,y.size ≤ 1000000) (hd2:∀ x ∈ m.m,x.s.d.length ≤ 1000000) (hu2:∀ x ∈ m.m,x.u ≤ 4611686018427387904) :
  G ext F (n + 6) 19 [s.v,m.v,vi now,q.v] = some ([(xA nm (dJ s now) (Ne.gG m now) now q).v],[s.v,m.v,vi now,q.v]):=by
 refine eF (cf:=c19) rfl ?_
 generalize hres:xA nm (dJ s now) (Ne.gG m now) now q = R
 simp only [c19,go_sem,Nat.reduceAdd,Nat.reduceMul,Nat.reduceEqDiff,Nat.reduceBEq,Nat.reduceMod,Nat.reduceDiv,↓reduceIte,reduceCtorEq]
 refine Mk 9 (fun x:List ByteArray × List mZ × ByteArray × ByteArray=>fT s m now x.1 x.2.1 x.2.2.1 ⟨x.2.2.2,q.t,q.c⟩) (fun i x=>x.2.1.length = i ∧ i < 9 ∧ tN x.1 x.2.2.2 = false ∧ FH nm (dJ s now) (Ne.gG m now) now (9 - i) (x.1 ++ [x.2.2.2]) x.2.1 ⟨x.2.2.2,q.t,q.c⟩ = R) (by omega) ([],[],⟨#[]⟩,q.q) rfl ⟨rfl,by omega,rfl,hres⟩ (fun i x hi hP=>?_) (fun x hP=>absurd hP.2.1 (by omega))
 obtain ⟨M,hits,pn,AL⟩:=x
 obtain ⟨hlen, -,hm,hf⟩:=hP
 simp only at hlen hm hf ⊢
 obtain ⟨f,hf9⟩:∃ f,9 - i = f + 1:=⟨8 - i,by omega⟩
 rw [hf9] at hf
 obtain ⟨k1,k2⟩:=MO hm
 have hw1:IntKind.i64.wrap (0 + 1) = 1:=by decide
 have t1:=fun n=>Es (F:=F) (n:=n) C s m now ⟨AL,q.t,q.c⟩ hd hu
 have a1:=fun n=>MK (F:=F) (n:=n) O C s m now ⟨AL,q.t,q.c⟩ hd hu hy
 have e1:=fun n=>Qb (F:=F) (n:=n) C s m now ⟨hits,0,AL,kR⟩ ⟨AL,q.t,q.c⟩ hF hd2 hu2
 rw [show ML (Ne.gG m now) now ⟨hits,0,AL,kR⟩ ⟨AL,q.t,q.c⟩ = fin (Ne.gG m now) now hits ⟨AL,q.t,q.c⟩ from Qf (q:=⟨AL,q.t,q.c⟩)] at e1
 simp only [Ch.v,kR,Cn,List.map_nil] at e1
 unfold FH at hf
 have hsz:(((hits.map rH).length:Nat) + 1) * 72 ≤ 140737488355328:=by rw [List.length_map];omega
 cases h1:tl (dJ s now) now ⟨AL,q.t,q.c⟩ with
 | some h =>
  have et:Im (dJ s now) now ⟨AL,q.t,q.c⟩ = (h,true):=by unfold Im;rw [h1]
  rw [et] at t1
  rw [h1] at hf
  subst hf
  rcases AJ hits with rfl | g1
  ·rw [Cr]
   simp only [k1,k2,hw1,t1,Option.getD_none,go_sem,Nat.reduceAdd,Nat.reduceMul,Nat.reduceEqDiff,Nat.reduceBEq,Nat.reduceMod,Nat.reduceDiv,↓reduceIte,reduceCtorEq]
   exact ⟨by decide,rfl⟩
  ·rw [qE _ _ _ _ _ _ _ g1]
   simp only [k1,k2,hw1,t1,Option.getD_none,hsz,go_sem,Nat.reduceAdd,Nat.reduceMul,Nat.reduceEqDiff,Nat.reduceBEq,Nat.reduceMod,Nat.reduceDiv,↓reduceIte,reduceCtorEq]
   simp [rH,kR,Cn]
 | none =>
  have et:Im (dJ s now) now ⟨AL,q.t,q.c⟩ = (kR,false):=by unfold Im;rw [h1]
  rw [et] at t1
  rw [h1] at hf
  simp only [kR,Cn,List.map_nil] at t1
  cases h2:al nm (dJ s now) now ⟨AL,q.t,q.c⟩ with
  | none =>
   have ea:=Qd h2
   rw [h2] at hf
   subst hf
   rw [ea] at a1
   rcases AJ hits with rfl | g1
   ·rw [Cr]
    simp only [List.map_nil] at e1
    simp only [k1,k2,hw1,t1,a1,e1,Option.getD_none,go_sem,Nat.reduceAdd,Nat.reduceMul,Nat.reduceEqDiff,Nat.reduceBEq,Nat.reduceMod,Nat.reduceDiv,↓reduceIte,reduceCtorEq]
   ·rw [qE _ _ _ _ _ _ _ g1]
    simp only [k1,k2,hw1,t1,a1,e1,Option.getD_none,go_sem,Nat.reduceAdd,Nat.reduceMul,Nat.reduceEqDiff,Nat.reduceBEq,Nat.reduceMod,Nat.reduceDiv,↓reduceIte,reduceCtorEq]
  | some p =>
   obtain ⟨h,to⟩:=p
   rw [Qe h2] at a1
   rw [h2] at hf
   simp only at hf
   have hml:((hits ++ [h]).map rH) = hits.map rH ++ [[FV.str h.s.q,FV.int IntKind.i64 h.s.t,FV.int IntKind.i64 h.s.c,FV.sl (List.map fD h.s.d),FV.int IntKind.i64 h.s.ttl,FV.int IntKind.i64 h.left]]:=by simp [rH]
   have hll:(hits.map rH).length = hits.length:=List.length_map _
   by_cases h8:8 ≤ hits.length
   ·rw [if_pos (.inl h8)] at hf
    subst hf
    have c8:decide ((8:Int) < (((hits.map rH).length + 1:Nat):Int)) = true:=decide_eq_true (by omega)
    rcases AJ hits with rfl | g1
    ·simp at h8
    ·rw [qE _ _ _ _ _ _ _ g1]
     simp only [k1,k2,hw1,t1,a1,Option.getD_none,hsz,c8,go_sem,Nat.reduceAdd,Nat.reduceMul,Nat.reduceEqDiff,Nat.reduceBEq,Nat.reduceMod,Nat.reduceDiv,↓reduceIte,reduceCtorEq]
     simp [rH,kR,Cn]
   ·have c8:decide ((8:Int) < (((hits.map rH).length + 1:Nat):Int)) = false:=decide_eq_false (by omega)
    have c8':decide ((8:Int) < ((0 + 1:Nat):Int)) = false:=by decide
    have z1:decide ((0:Int) < 1) = true:=by decide
    have z0:decide ((0:Int) < 0) = false:=by decide
    cases hin:tN (M ++ [AL]) to with
    | true =>
     rw [if_pos (.inr hin)] at hf
     subst hf
     have y1:=Qc hin
     rcases AJ hits with rfl | g1
     ·rw [Cr]
      simp only [k1,k2,hw1,t1,a1,Option.getD_none,Option.getD_some,hsz,c8',y1,z1,List.length_cons,List.length_nil,go_sem,Nat.reduceAdd,Nat.reduceMul,Nat.reduceEqDiff,Nat.reduceBEq,Nat.reduceMod,Nat.reduceDiv,↓reduceIte,reduceCtorEq]
      exact ⟨by decide,rfl⟩
     ·rw [qE _ _ _ _ _ _ _ g1]
      simp only [k1,k2,hw1,t1,a1,Option.getD_none,Option.getD_some,hsz,c8,y1,z1,go_sem,Nat.reduceAdd,Nat.reduceMul,Nat.reduceEqDiff,Nat.reduceBEq,Nat.reduceMod,Nat.reduceDiv,↓reduceIte,reduceCtorEq]
      simp [rH,kR,Cn]
    | false =>
     rw [if_neg (by rw [hin];simp;omega)] at hf
     have y1:=(MO hin).1
     have hnext:(hits ++ [h]).length = i + 1 ∧ i + 1 < 9 ∧ tN (M ++ [AL]) to = false ∧ FH nm (dJ s now) (Ne.gG m now) now (9 - (i + 1)) (M ++ [AL] ++ [to]) (hits ++ [h]) ⟨to,q.t,q.c⟩ = R:=⟨by simp;omega,by omega,hin,by rw [show 9 - (i + 1) = f from by omega];exact hf⟩
     have g3:=fun pn' q'=>qE s m now (M ++ [AL]) (hits ++ [h]) pn' q' (by simp)
     rcases AJ hits with rfl | g1
     ·rw [Cr]
      simp only [k1,k2,hw1,t1,a1,Option.getD_none,Option.getD_some,hsz,c8',y1,z0,List.length_cons,List.length_nil,go_sem,Nat.reduceAdd,Nat.reduceMul,Nat.reduceEqDiff,Nat.reduceBEq,Nat.reduceMod,Nat.reduceDiv,↓reduceIte,reduceCtorEq]
      exact ⟨by decide,(M ++ [AL],[] ++ [h],AL,to),by rw [g3];rfl,hnext⟩
     ·rw [qE _ _ _ _ _ _ _ g1]
      simp only [k1,k2,hw1,t1,a1,Option.getD_none,Option.getD_some,hsz,c8,y1,z0,go_sem,Nat.reduceAdd,Nat.reduceMul,Nat.reduceEqDiff,Nat.reduceBEq,Nat.reduceMod,Nat.reduceDiv,↓reduceIte,reduceCtorEq]
      exact ⟨(M ++ [AL],hits ++ [h],AL,to),by rw [g3,hml];simp,hnext⟩
end Go.Proofs.Ytfokaoeinpnagaa.Kc
namespace Go.Proofs.Ytfokaoeinpnagaa.Kc
open Go Ev
variable {θ : Th} {gt:ByteArray → Int → Int → Int × Bool}
structure Pt where
 now:Int
 s:Se
 r:Int
 k:Qn
def rP (x:Pt):List FV:=[.int .i64 x.now,.str x.s.q,.int .i64 x.s.t,.int .i64 x.s.c,.sl (x.s.d.map fD),.int .i64 x.s.ttl,.int .i64 x.r,.str x.k.q,.int .i64 x.k.t,.int .i64 x.k.c]
abbrev Pt.v (x:Pt):AV:=.agg [.f (.int .i64 x.now),.f (.str x.s.q),.f (.int .i64 x.s.t),.f (.int .i64 x.s.c),.f (.sl (x.s.d.map fD)),.f (.int .i64 x.s.ttl),.f (.int .i64 x.r),.f (.str x.k.q),.f (.int .i64 x.k.t),.f (.int .i64 x.k.c)]
def s50 : Sv:=⟨50,[],[],0⟩
def m50 : Ne.Nv:=⟨50,[],[],0⟩
def V7 (θ:Th) (gt:ByteArray → Int → Int → Int × Bool) (a:Sv × Ne.Nv) (p:Pt):Sv × Ne.Nv:=if 0 < p.r then ((rZ θ a.1 p.now p.s p.r).1,a.2) else (a.1,(Ne.r9 θ gt a.2 p.now p.k (decide (p.r < 0)) p.s).1)
def kr (θ:Th) (gt:ByteArray → Int → Int → Int × Bool) (l:List Pt):Sv × Ne.Nv:=l.foldl (V7 θ gt) (s50,m50)
theorem Et {l:List Pt} {p:Pt} {i:Nat} (h:l[i]? = some p):kr θ gt (l.take (i + 1)) = V7 θ gt (kr θ gt (l.take i)) p:=by
 unfold kr;rw [List.take_add_one,h,List.foldl_append];rfl
theorem vB : ∀ {g:List Qn} {l:List It},(g.foldl rid l).Sublist l
 | [],l=>List.Sublist.refl _
 | a :: g,l=>(vB (g:=g)).trans tO
theorem MP {l:List It} {x:It}:(upd l x).length ≤ l.length + 1:=by
 rcases oI l x with ⟨-,hu⟩ | ⟨a,y,c,rfl, -, -,hu⟩ <;> rw [hu] <;> simp
theorem p8 {l:List It} {x y:It} (h:y ∈ upd l x):y = x ∨ y ∈ l:=by
 rcases oI l x with ⟨-,hu⟩ | ⟨a,z,c,rfl, -, -,hu⟩ <;> rw [hu] at h <;> simp at h ⊢
 ·rcases h with h | h <;> simp [h]
 ·rcases h with h | h | h <;> simp [h]
theorem vY : ∀ {g:List Qn} {l:List It},(ks l).Nodup → (ks (g.foldl rid l)).Nodup
 | [],l,h=>h
 | a :: g,l,h=>vY (g:=g) (u7 h)
theorem vZ : ∀ {g:List Qn} {l:List Ne.Nt},(Ne.ks l).Nodup → (Ne.ks (g.foldl Ne.rid l)).Nodup
 | [],l,h=>h
 | a :: g,l,h=>vZ (g:=g) (Ne.u7 h)
structure FS (l:List Pt) (i:Nat) (s:Sv):Prop where
 r:s.room = 50
 c:0 ≤ s.ch ∧ s.ch ≤ i
 o:s.o.length ≤ i
 m:s.m.length ≤ i
 it:∀ x ∈ s.m,∃ p ∈ l,0 < p.r ∧ x = p.s.it (eO p.now p.s.ttl) p.r
 mg:(ks s.m).Nodup
structure FN (θ:Th) (gt:ByteArray → Int → Int → Int × Bool) (l:List Pt) (i:Nat) (s:Ne.Nv):Prop where
 r:s.room = 50
 c:0 ≤ s.ch ∧ s.ch ≤ i
 o:s.o.length ≤ i
 m:s.m.length ≤ i
 it:∀ x ∈ s.m,∃ p ∈ l,x.s = p.s ∧ x.u = eO p.now (Ne.wP θ gt p.s).1 ∧ x.k.q = p.k.q
 mg:(Ne.ks s.m).Nodup
theorem FS.up {l:List Pt} {i:Nat} {s:Sv} (h:FS l i s):FS l (i + 1) s:=⟨h.r,by have:=h.c;omega,by have:=h.o;omega,by have:=h.m;omega,h.it,h.mg⟩
theorem FN.up {l:List Pt} {i:Nat} {s:Ne.Nv} (h:FN θ gt l i s):FN θ gt l (i + 1) s:=⟨h.r,by have:=h.c;omega,by have:=h.o;omega,by have:=h.m;omega,h.it,h.mg⟩
theorem FS.put {l:List Pt} {i:Nat} {s:Sv} (h:FS l i s) {p:Pt} (hp:p ∈ l) (h0:0 < p.r):FS l (i + 1) (rZ θ s p.now p.s p.r).1:=by
 have hc:=h.c
 have hq:=@qD s.o p.s.k
 have ho:=h.o
 have hm:=h.m
 have hu:=@MP s.m (p.s.it (eO p.now p.s.ttl) p.r)
 unfold rZ
 dsimp only
 split
 ·exact h.up
 ·refine ⟨h.r,by show 0 ≤ s.ch + 1 ∧ s.ch + 1 ≤ _;omega,?_,?_,fun y hy=>?_,vY (vk h.mg)⟩
  ·show (List.drop _ _).length ≤ _
   rw [List.length_drop,List.length_append,List.length_singleton];omega
  ·exact Nat.le_trans vB.length_le (by omega)
  ·rcases p8 (vB.subset hy) with rfl | h1
   ·exact ⟨p,hp,h0,rfl⟩
   ·exact h.it y h1
theorem FN.put {l:List Pt} {i:Nat} {s:Ne.Nv} (h:FN θ gt l i s) {p:Pt} (hp:p ∈ l) (b:Bool):FN θ gt l (i + 1) (Ne.r9 θ gt s p.now p.k b p.s).1:=by
 have hc:=h.c
 have hq:=@qD s.o (Ne.kn b p.k)
 have ho:=h.o
 have hm:=h.m
 unfold Ne.r9
 split
 ·exact h.up
 split
 ·exact h.up
 have hu:=@Ne.PZ s.m ⟨Ne.kn b p.k,b,p.s,eO p.now (Ne.wP θ gt p.s).1⟩
 refine ⟨h.r,by show 0 ≤ s.ch + 1 ∧ s.ch + 1 ≤ _;omega,?_,?_,fun y hy=>?_,vZ (Ne.vk h.mg)⟩
 ·show (List.drop _ _).length ≤ _
  rw [List.length_drop,List.length_append,List.length_singleton];omega
 ·exact Nat.le_trans Ne.yO.length_le (by omega)
 ·rcases Ne.P5 (Ne.yO.subset hy) with rfl | h1
  ·refine ⟨p,hp,rfl,rfl,?_⟩
   show (Ne.kn b p.k).q = _
   unfold Ne.kn;cases b <;> rfl
  ·exact h.it y h1
structure FI (θ:Th) (gt:ByteArray → Int → Int → Int × Bool) (l:List Pt) (i:Nat) (a:Sv × Ne.Nv):Prop where
 s:FS l i a.1
 n:FN θ gt l i a.2
theorem fi0 (l:List Pt):FI θ gt l 0 (s50,m50):=⟨⟨rfl,⟨Int.le_refl _,Int.le_refl _⟩,Nat.le_refl _,Nat.le_refl _,(by intro x hx;cases hx),List.nodup_nil⟩,⟨rfl,⟨Int.le_refl _,Int.le_refl _⟩,Nat.le_refl _,Nat.le_refl _,(by intro x hx;cases hx),List.nodup_nil⟩⟩
theorem FI.V7 {l:List Pt} {i:Nat} {a:Sv × Ne.Nv} (h:FI θ gt l i a) {p:Pt} (hp:p ∈ l):FI θ gt l (i + 1) (V7 θ gt a p):=by
 unfold Kc.V7
 split
 ·rename_i h0;exact ⟨h.s.put hp h0,h.n.up⟩
 ·exact ⟨h.s.up,h.n.put hp _⟩
theorem fi (l:List Pt):∀ i,i ≤ l.length → FI θ gt l i (kr θ gt (l.take i))
 | 0,_=>fi0 l
 | i + 1,h=>by
  have hi:l[i]? = some l[i]:=List.getElem?_eq_getElem (by omega)
  rw [Et hi]
  exact (fi l i (by omega)).V7 (List.getElem_mem _)
theorem fiA (l:List Pt):FI θ gt l l.length (kr θ gt l):=by
 have:=fi (θ:=θ) (gt:=gt) l l.length (Nat.le_refl _)
 rwa [List.take_length] at this
def wQ (l:List Pt):Bool:=l.all fun x=>nL x.s.q x.s.d && decide (x.k.q.size ≤ 300)
theorem JM {l:List Pt} {x:Pt} {i:Nat} (h:l[i]? = some x):wQ (l.take (i + 1)) = (wQ (l.take i) && (nL x.s.q x.s.d && decide (x.k.q.size ≤ 300))):=by
 unfold wQ
 rw [List.take_add_one,h,List.all_append]
 simp
theorem Ip {l:List Pt} {x:Pt} {i:Nat} (h:l[i]? = some x) (hx:(nL x.s.q x.s.d && decide (x.k.q.size ≤ 300)) = false):wQ l = false:=by
 unfold wQ
 rw [List.all_eq_false]
 exact ⟨x,List.mem_of_getElem? h,by simp only [hx,Bool.false_eq_true,not_false_eq_true]⟩
theorem JN {q:ByteArray} {d:List ByteArray} (h:nL q d = true):q.size ≤ 300 ∧ d.length ≤ 60 ∧ ∀ y ∈ d,y.size ≤ 2000:=by
 unfold nL Ef at h
 rw [Bool.and_eq_true,List.all_eq_true,decide_eq_true_eq] at h
 refine ⟨by omega,?_,fun y hy=>?_⟩
 ·cases hd:d with
  | nil=>simp
  | cons y d' =>
   have:=h.1 y (by rw [hd];simp)
   simp only [Bool.and_eq_true,decide_eq_true_eq] at this
   rw [hd] at this;omega
 ·have:=h.1 y hy
  simp only [Bool.and_eq_true,decide_eq_true_eq] at this
  omega
theorem xB {l:List Pt} {x:Pt} (h:wQ l = true) (hx:x ∈ l):x.k.q.size ≤ 1000000 ∧ x.s.q.size ≤ 1000000 ∧ x.s.d.length ≤ 1000000 ∧ ∀ y ∈ x.s.d,y.size ≤ 1000000:=by
 have h1:=List.all_eq_true.mp h x hx
 rw [Bool.and_eq_true,decide_eq_true_eq] at h1
 obtain ⟨a,b,c⟩:=JN h1.1
 exact ⟨by omega,by omega,by omega,fun y hy=>by have:=c y hy;omega⟩
theorem Eu {now ttl:Int}:eO now ttl ≤ 4611686018427387904:=by
 unfold eO Mc
 split
 ·rename_i h
  simp only [decide_eq_true_eq] at h
  split <;> omega
 ·omega
structure FW (a:Sv × Ne.Nv):Prop where
 hd:∀ x ∈ a.1.m,x.d.length ≤ 1000000
 hu:∀ x ∈ a.1.m,x.u ≤ 4611686018427387904
 hy:∀ x ∈ a.1.m,∀ y ∈ x.d,y.size ≤ 1000000
 hd2:∀ x ∈ a.2.m,x.s.d.length ≤ 1000000
 hu2:∀ x ∈ a.2.m,x.u ≤ 4611686018427387904
theorem FI.w {l:List Pt} {i:Nat} {a:Sv × Ne.Nv} (h:FI θ gt l i a) (hf:wQ l = true):FW a:=by
 refine ⟨fun x hx=>?_,fun x hx=>?_,fun x hx=>?_,fun x hx=>?_,fun x hx=>?_⟩
 ·obtain ⟨p,hp, -,rfl⟩:=h.s.it x hx;exact (xB hf hp).2.2.1
 ·obtain ⟨p,hp, -,rfl⟩:=h.s.it x hx;exact Eu
 ·obtain ⟨p,hp, -,rfl⟩:=h.s.it x hx;exact (xB hf hp).2.2.2
 ·obtain ⟨p,hp,h1, -⟩:=h.n.it x hx;rw [h1];exact (xB hf hp).2.2.1
 ·obtain ⟨p,hp, -,h1, -⟩:=h.n.it x hx;rw [h1];exact Eu
theorem Qg {s:Sv} {now:Int} {k:Qn} (h:(dJ s now k).2 = true):(dJ s now k).1 ∈ s.m ∧ (dJ s now k).1.k = k ∧ jL now (dJ s now k).1.u = true:=by
 unfold dJ at h ⊢
 cases ho:old s.m k with
 | none=>rw [ho] at h;cases h
 | some x =>
  rw [ho] at h
  dsimp only at h ⊢
  cases hl:jL now x.u with
  | false=>rw [hl] at h;cases h
  | true=>exact ⟨(nA ho).2,(nA ho).1,hl⟩
end Go.Proofs.Ytfokaoeinpnagaa.Kc
namespace Go.Proofs.Ytfokaoeinpnagaa.Kc
open Go Ev
variable {nm : Int → ByteArray → List ByteArray}
def Yh : List Int → Int
 | []=>0
 | a :: l=>l.foldl min a
def lefts (c:Ch):List Int:=c.hits.map mZ.left ++ if c.e = 1 ∨ c.e = 2 then [c.Co.left] else []
def sub (d:Int) (h:mZ):mZ:=⟨h.s,h.left - d⟩
theorem Iq {pk:Qn → It × Bool} {fd:Qn → Ne.Nt × Bool} {a:Int}:∀ (f:Nat) (met:List ByteArray) (hits:List mZ) (q:Qn),∃ l,(FH nm pk fd a f met hits q).hits = hits ++ l
 | 0,met,hits,q=>⟨[],by unfold FH;simp⟩
 | f + 1,met,hits,q=>by
  unfold FH
  cases h1:tl pk a q with
  | some h=>exact ⟨[h],rfl⟩
  | none =>
   cases h2:al nm pk a q with
   | none =>
    refine ⟨[],?_⟩
    show (fin fd a hits q).hits = _
    unfold fin
    split <;> simp
   | some p =>
    obtain ⟨h,to⟩:=p
    dsimp only
    split
    ·exact ⟨[h],rfl⟩
    ·obtain ⟨l,hl⟩:=Iq (pk:=pk) (fd:=fd) (a:=a) f (met ++ [to]) (hits ++ [h]) ⟨to,q.t,q.c⟩
     exact ⟨h :: l,by rw [hl];simp⟩
end Go.Proofs.Ytfokaoeinpnagaa.Kc
set_option maxRecDepth 4000
namespace Go.Proofs.Ytfokaoeinpnagaa.Kc
open Go Ev
variable {ext : Env} {F n:Nat} {θ:Th} {nm:Int → ByteArray → List ByteArray} {gt:ByteArray → Int → Int → Int × Bool}
def ri (x:Int):List FV:=[.int .i64 x]
theorem MQ (c:Ch) (hl:c.hits.length ≤ 1000000) (hF:200000000000001 ≤ F):G ext F (n + 1) 15 [c.v] = some ([vi (Yh (lefts c))],[c.v]):=by
 refine eF (cf:=c15) rfl ?_
 simp only [c15,go_sem,Nat.reduceAdd,Nat.reduceMul,Nat.reduceEqDiff,Nat.reduceBEq,Nat.reduceMod,Nat.reduceDiv,↓reduceIte,reduceCtorEq]
 refine jZ c.hits.length (fun i=>⟨[(1,PV.c (CV.one (PL.ptr 40000 0))),(3,PV.c (CV.one (PL.own 80000 (((c.hits.take i).map mZ.left).map ri).length))),(10,PV.c (CV.one (PL.f (FV.sl (c.hits.map rH))))),(11,PV.c (CV.one (PL.f (FV.int .i64 ((c.hits.map rH).length:Nat))))),(12,PV.c (CV.one (PL.f (FV.int .i64 i))))],[(40000,Ob.iV [PL.f (FV.sl (c.hits.map rH)),PL.f (FV.int .i64 c.e),PL.f (FV.str c.nm),PL.f (FV.str c.Co.s.q),PL.f (FV.int .i64 c.Co.s.t),PL.f (FV.int .i64 c.Co.s.c),PL.f (FV.sl (c.Co.s.d.map fD)),PL.f (FV.int .i64 c.Co.s.ttl),PL.f (FV.int .i64 c.Co.left)]),(80000,Ob.row 1 (((c.hits.take i).map mZ.left).map ri))]⟩) (fun i=>True) (by omega) rfl trivial (fun i hi hP=>?_) (fun hP=>?_)
 ·obtain ⟨x,hx,hd,ht,h0⟩:=at_ hi
  have hn:=nx hi (by omega)
  have hw:(c.hits.take i).length = i:=by simp;omega
  have hs:((c.hits.take (i + 1)).map mZ.left).map ri = ((c.hits.take i).map mZ.left).map ri ++ [[.int .i64 x.left]]:=by rw [List.take_add_one,hx];simp [ri]
  simp only [List.length_map,List.getElem?_map,hd,hx,ht,h0,rH,hw,hn,go_sem,Nat.reduceAdd,Nat.reduceMul,Nat.reduceEqDiff,Nat.reduceBEq,Nat.reduceMod,Nat.reduceDiv,↓reduceIte,reduceCtorEq]
  rw [hs]
  exact ⟨by omega,by simp [hw];omega⟩
 ·have hd:=@end_ _ c.hits
  rw [List.take_length]
  by_cases e1:c.e = 1
  ·
   have Yi:decide (c.e = 1) = true:=decide_eq_true e1
   have hL:lefts c = c.hits.map mZ.left ++ [c.Co.left]:=by unfold lefts;rw [if_pos (.inl e1)]
   obtain ⟨a,l,hal⟩:∃ a l,lefts c = a :: l:=List.exists_cons_of_ne_nil (by rw [hL];simp)
   have hr:(c.hits.map mZ.left).map ri ++ [[FV.int .i64 c.Co.left]] = ri a :: List.map ri l:=by rw [← List.map_cons,← hal,hL];simp [ri]
   have hlen:(a :: l).length = c.hits.length + 1:=by rw [← hal,hL];simp
   have hz:decide (((c.hits.length + 1:Nat):Int) = 0) = false:=by simp only [List.length_cons] at hlen;exact decide_eq_false (by omega)
   have hz0:(ri a :: List.map ri l)[0]? = some [FV.int .i64 a]:=rfl
   have hst:Yh (lefts c) = (a :: l).foldl min a:=by rw [hal];show l.foldl min a = l.foldl min (min a a);rw [show min a a = a from by omega]
   have hlp:0 < (c.hits.length + 1:Nat):=by rw [← hlen];simp
   rw [hst]
   simp only [List.length_map,hd,Yi,hr,hz,hz0,Int.toNat_zero,go_sem,Nat.reduceAdd,Nat.reduceMul,Nat.reduceEqDiff,Nat.reduceBEq,Nat.reduceMod,Nat.reduceDiv,↓reduceIte,reduceCtorEq]
   refine ⟨by omega,by omega,⟨by omega,by simp only [List.length_cons] at hlen;omega⟩,?_⟩
   refine jZ (c.hits.length + 1) (fun i=>⟨[(6,PV.c (CV.one (PL.f (FV.int .i64 (((a :: l).take i).foldl min a))))),(42,PV.c (CV.one (PL.own 80000 (c.hits.length + 1)))),(43,PV.c (CV.one (PL.f (FV.int .i64 ((c.hits.length + 1:Nat):Int))))),(44,PV.c (CV.one (PL.f (FV.int .i64 i))))],[(80000,Ob.row 1 (ri a :: List.map ri l))]⟩) (fun i=>True) (by omega) rfl trivial (fun i hi hP=>?_) (fun hP=>?_)
   ·obtain ⟨x,hx,hd',ht,h0⟩:=at_ (l:=a :: l) (i:=i) (by omega)
    rw [hlen] at hd'
    have hn:=nx hi (by omega)
    have hxx:(ri a :: List.map ri l)[i]? = some [FV.int .i64 x]:=by show ((a :: l).map ri)[i]? = _;rw [List.getElem?_map,hx];rfl
    have hf:((a :: l).take (i + 1)).foldl min a = if x < ((a :: l).take i).foldl min a then x else ((a :: l).take i).foldl min a:=by rw [List.take_add_one,hx,List.foldl_append];show min _ x = _;split <;> omega
    rw [hf]
    simp only [hd',hxx,ht,h0,hn,go_sem,Nat.reduceAdd,Nat.reduceMul,Nat.reduceEqDiff,Nat.reduceBEq,Nat.reduceMod,Nat.reduceDiv,↓reduceIte,reduceCtorEq]
    try simp only [List.length_cons] at hlen
    exact ⟨by omega,by simp only [List.length_map] <;> omega⟩
   ·have hd':=@end_ _ (a :: l)
    rw [hlen] at hd'
    rw [← hlen,List.take_length]
    rw [hlen]
    simp only [hd',go_sem,Nat.reduceAdd,Nat.reduceMul,Nat.reduceEqDiff,Nat.reduceBEq,Nat.reduceMod,Nat.reduceDiv,↓reduceIte,reduceCtorEq]
  by_cases e2:c.e = 2
  ·
   have Yi:decide (c.e = 1) = false:=decide_eq_false e1
   have e2':decide (c.e = 2) = true:=decide_eq_true e2
   have hL:lefts c = c.hits.map mZ.left ++ [c.Co.left]:=by unfold lefts;rw [if_pos (.inr e2)]
   obtain ⟨a,l,hal⟩:∃ a l,lefts c = a :: l:=List.exists_cons_of_ne_nil (by rw [hL];simp)
   have hr:(c.hits.map mZ.left).map ri ++ [[FV.int .i64 c.Co.left]] = ri a :: List.map ri l:=by rw [← List.map_cons,← hal,hL];simp [ri]
   have hlen:(a :: l).length = c.hits.length + 1:=by rw [← hal,hL];simp
   have hz:decide (((c.hits.length + 1:Nat):Int) = 0) = false:=by simp only [List.length_cons] at hlen;exact decide_eq_false (by omega)
   have hz0:(ri a :: List.map ri l)[0]? = some [FV.int .i64 a]:=rfl
   have hst:Yh (lefts c) = (a :: l).foldl min a:=by rw [hal];show l.foldl min a = l.foldl min (min a a);rw [show min a a = a from by omega]
   have hlp:0 < (c.hits.length + 1:Nat):=by rw [← hlen];simp
   rw [hst]
   simp only [List.length_map,hd,Yi,e2',hr,hz,hz0,Int.toNat_zero,go_sem,Nat.reduceAdd,Nat.reduceMul,Nat.reduceEqDiff,Nat.reduceBEq,Nat.reduceMod,Nat.reduceDiv,↓reduceIte,reduceCtorEq]
   refine ⟨by omega,by omega,⟨by omega,by simp only [List.length_cons] at hlen;omega⟩,?_⟩
   refine jZ (c.hits.length + 1) (fun i=>⟨[(6,PV.c (CV.one (PL.f (FV.int .i64 (((a :: l).take i).foldl min a))))),(42,PV.c (CV.one (PL.own 80000 (c.hits.length + 1)))),(43,PV.c (CV.one (PL.f (FV.int .i64 ((c.hits.length + 1:Nat):Int))))),(44,PV.c (CV.one (PL.f (FV.int .i64 i))))],[(80000,Ob.row 1 (ri a :: List.map ri l))]⟩) (fun i=>True) (by omega) rfl trivial (fun i hi hP=>?_) (fun hP=>?_)
   ·obtain ⟨x,hx,hd',ht,h0⟩:=at_ (l:=a :: l) (i:=i) (by omega)
    rw [hlen] at hd'
    have hn:=nx hi (by omega)
    have hxx:(ri a :: List.map ri l)[i]? = some [FV.int .i64 x]:=by show ((a :: l).map ri)[i]? = _;rw [List.getElem?_map,hx];rfl
    have hf:((a :: l).take (i + 1)).foldl min a = if x < ((a :: l).take i).foldl min a then x else ((a :: l).take i).foldl min a:=by rw [List.take_add_one,hx,List.foldl_append];show min _ x = _;split <;> omega
    rw [hf]
    simp only [hd',hxx,ht,h0,hn,go_sem,Nat.reduceAdd,Nat.reduceMul,Nat.reduceEqDiff,Nat.reduceBEq,Nat.reduceMod,Nat.reduceDiv,↓reduceIte,reduceCtorEq]
    try simp only [List.length_cons] at hlen
    exact ⟨by omega,by simp only [List.length_map] <;> omega⟩
   ·have hd':=@end_ _ (a :: l)
    rw [hlen] at hd'
    rw [← hlen,List.take_length]
    rw [hlen]
    simp only [hd',go_sem,Nat.reduceAdd,Nat.reduceMul,Nat.reduceEqDiff,Nat.reduceBEq,Nat.reduceMod,Nat.reduceDiv,↓reduceIte,reduceCtorEq]
  ·
   have Yi:decide (c.e = 1) = false:=decide_eq_false e1
   have e2':decide (c.e = 2) = false:=decide_eq_false e2
   have hL:lefts c = c.hits.map mZ.left:=by unfold lefts;rw [if_neg (fun h=>h.elim e1 e2)];simp
   rcases AJ c.hits with hh | hh
   ·
    rw [show lefts c = [] by rw [hL,hh];rfl]
    have hz0:decide (((c.hits.length:Nat):Int) = 0) = true:=by rw [hh];rfl
    have hz1:decide ((0:Int) < (c.hits.length:Int)) = false:=by rw [hh];rfl
    simp only [List.length_map,hd,Yi,e2',hz0,go_sem,Nat.reduceAdd,Nat.reduceMul,Nat.reduceEqDiff,Nat.reduceBEq,Nat.reduceMod,Nat.reduceDiv,↓reduceIte,reduceCtorEq]
    rfl
   ·
    obtain ⟨a,l,hal⟩:∃ a l,lefts c = a :: l:=List.exists_cons_of_ne_nil (by rw [hL];simpa using hh)
    have hr:(c.hits.map mZ.left).map ri = ri a :: List.map ri l:=by rw [← List.map_cons,← hal,hL]
    have hlen:(a :: l).length = l.length + 1:=rfl
    have ahb:l.length + 1 = c.hits.length:=by rw [← List.length_cons (a:=a),← hal,hL];simp
    have hz:decide (((l.length + 1:Nat):Int) = 0) = false:=by simp only [List.length_cons] at hlen;exact decide_eq_false (by omega)
    have hz0:(ri a :: List.map ri l)[0]? = some [FV.int .i64 a]:=rfl
    have hst:Yh (lefts c) = (a :: l).foldl min a:=by rw [hal];show l.foldl min a = l.foldl min (min a a);rw [show min a a = a from by omega]
    have hlp:0 < (l.length + 1:Nat):=by rw [← hlen];simp
    rw [hst]
    simp only [List.length_map,hd,Yi,e2',hr,hz,hz0,Int.toNat_zero,go_sem,Nat.reduceAdd,Nat.reduceMul,Nat.reduceEqDiff,Nat.reduceBEq,Nat.reduceMod,Nat.reduceDiv,↓reduceIte,reduceCtorEq]
    refine ⟨by omega,by omega,?_⟩
    refine jZ (l.length + 1) (fun i=>⟨[(6,PV.c (CV.one (PL.f (FV.int .i64 (((a :: l).take i).foldl min a))))),(42,PV.c (CV.one (PL.own 80000 (l.length + 1)))),(43,PV.c (CV.one (PL.f (FV.int .i64 ((l.length + 1:Nat):Int))))),(44,PV.c (CV.one (PL.f (FV.int .i64 i))))],[(80000,Ob.row 1 (ri a :: List.map ri l))]⟩) (fun i=>True) (by omega) rfl trivial (fun i hi hP=>?_) (fun hP=>?_)
    ·obtain ⟨x,hx,hd',ht,h0⟩:=at_ (l:=a :: l) (i:=i) (by omega)
     rw [hlen] at hd'
     have hn:=nx hi (by omega)
     have hxx:(ri a :: List.map ri l)[i]? = some [FV.int .i64 x]:=by show ((a :: l).map ri)[i]? = _;rw [List.getElem?_map,hx];rfl
     have hf:((a :: l).take (i + 1)).foldl min a = if x < ((a :: l).take i).foldl min a then x else ((a :: l).take i).foldl min a:=by rw [List.take_add_one,hx,List.foldl_append];show min _ x = _;split <;> omega
     rw [hf]
     simp only [hd',hxx,ht,h0,hn,go_sem,Nat.reduceAdd,Nat.reduceMul,Nat.reduceEqDiff,Nat.reduceBEq,Nat.reduceMod,Nat.reduceDiv,↓reduceIte,reduceCtorEq]
     try simp only [List.length_cons] at hlen
     exact ⟨by omega,by simp only [List.length_map] <;> omega⟩
    ·have hd':=@end_ _ (a :: l)
     rw [hlen] at hd'
     rw [← hlen,List.take_length]
     rw [hlen]
     simp only [hd',go_sem,Nat.reduceAdd,Nat.reduceMul,Nat.reduceEqDiff,Nat.reduceBEq,Nat.reduceMod,Nat.reduceDiv,↓reduceIte,reduceCtorEq]
theorem Gs (l:List Pt) (m:Int) (hl:l.length ≤ 200000000000000) (hd:∀ x ∈ l,x.s.d.length ≤ 200000000000000) (hF:200000000000001 ≤ F):G ext F (n + 2) 17 [vl (l.map rP),vi m] = some ([vi (if wQ l = true ∧ (l.length:Int) ≤ m then 1 else 0)],[vl (l.map rP),vi m]):=by
 refine eF (cf:=c17) rfl ?_
 simp only [c17,go_sem,Nat.reduceAdd,Nat.reduceMul,Nat.reduceEqDiff,Nat.reduceBEq,Nat.reduceMod,Nat.reduceDiv,↓reduceIte,reduceCtorEq]
 refine jZ l.length (fun i=>⟨[(0,PV.c (CV.one (PL.f (FV.sl (l.map rP))))),(1,PV.c (CV.one (PL.f (FV.int .i64 m)))),(5,PV.c (CV.one (PL.f (FV.int .i64 i))))],[]⟩) (fun i=>wQ (l.take i) = true) (by omega) rfl (by simp [wQ]) (fun i hi hP=>?_) (fun hP=>?_)
 ·obtain ⟨x,hx,hlt,ht,h0⟩:=at_ hi
  have hn:=nx hi (Nat.le_trans hl (by decide))
  have hs:=fun n=>Mg (ext:=ext) (F:=F) (n:=n) x.s.q x.s.t x.s.c x.s.d x.s.ttl (hd x (List.mem_of_getElem? hx)) hF
  cases h1:nL x.s.q x.s.d with
  | false =>
   simp only [List.length_map,List.getElem?_map,hlt,hx,ht,h0,rP,hs,h1,go_sem,Nat.reduceAdd,Nat.reduceMul,Nat.reduceEqDiff,Nat.reduceBEq,Nat.reduceMod,Nat.reduceDiv,↓reduceIte,reduceCtorEq]
   rw [Ip hx (by rw [h1];rfl)];rfl
  | true =>
   by_cases h3:x.k.q.size ≤ 300
   ·have h3':decide ((300:Int) < (x.k.q.size:Int)) = false:=decide_eq_false (by omega)
    simp only [List.length_map,List.getElem?_map,hlt,hx,ht,h0,hn,rP,hs,h1,h3',go_sem,Nat.reduceAdd,Nat.reduceMul,Nat.reduceEqDiff,Nat.reduceBEq,Nat.reduceMod,Nat.reduceDiv,↓reduceIte,reduceCtorEq]
    rw [JM hx,hP,h1,decide_eq_true h3];rfl
   ·have h3':decide ((300:Int) < (x.k.q.size:Int)) = true:=decide_eq_true (by omega)
    simp only [List.length_map,List.getElem?_map,hlt,hx,ht,h0,hn,rP,hs,h1,h3',go_sem,Nat.reduceAdd,Nat.reduceMul,Nat.reduceEqDiff,Nat.reduceBEq,Nat.reduceMod,Nat.reduceDiv,↓reduceIte,reduceCtorEq]
    rw [Ip hx (by rw [h1,decide_eq_false h3];rfl)];rfl
 ·have hd:=@end_ _ l
  rw [List.take_length] at hP
  by_cases hm:(l.length:Int) ≤ m
  ·have hm':decide (m < (l.length:Int)) = false:=decide_eq_false (by omega)
   simp only [List.length_map,hd,hm',go_sem,Nat.reduceAdd,Nat.reduceMul,Nat.reduceEqDiff,Nat.reduceBEq,Nat.reduceMod,Nat.reduceDiv,↓reduceIte,reduceCtorEq]
   rw [if_pos ⟨hP,hm⟩]
  ·have hm':decide (m < (l.length:Int)) = true:=decide_eq_true (by omega)
   simp only [List.length_map,hd,hm',go_sem,Nat.reduceAdd,Nat.reduceMul,Nat.reduceEqDiff,Nat.reduceBEq,Nat.reduceMod,Nat.reduceDiv,↓reduceIte,reduceCtorEq]
   rw [if_neg (fun h=>hm h.2)]
theorem MR (a b:ByteArray):G ext F (n + 1) 22 [vs a,vs b] = some ([(Se.v ⟨a,5,1,[b],7⟩)],[vs a,vs b]):=by
 refine eF (cf:=KP) rfl ?_
 simp only [KP,go_sem,Nat.reduceAdd,Nat.reduceMul,Nat.reduceEqDiff,Nat.reduceBEq,Nat.reduceMod,Nat.reduceDiv,↓reduceIte,reduceCtorEq]
 rfl
theorem lZ (T:θ.Ok ext) (O:Ne.Gj gt ext) (C:nS ext) (Q:El θ ext) (hF:200000000000001 ≤ F) (l:List Pt) (hl:l.length ≤ 1000) (hf:wQ l = true):G ext F (n + 7) 18 [vl (l.map rP)] = some ([(kr θ gt l).1.v,(kr θ gt l).2.v],[vl (l.map rP)]):=by
 refine eF (cf:=c18) rfl ?_
 have hn:=fun n=>VZ (ext:=ext) (F:=F) (n:=n) 50
 have hm:=fun n=>Ne.P6 (ext:=ext) (F:=F) (n:=n) 50
 rw [if_neg (by decide),Mv] at hn
 rw [if_neg (by decide),Ne.MB] at hm
 simp only [c18,hn,hm,go_sem,Nat.reduceAdd,Nat.reduceMul,Nat.reduceEqDiff,Nat.reduceBEq,Nat.reduceMod,Nat.reduceDiv,↓reduceIte,reduceCtorEq]
 refine jZ l.length (fun i=>⟨[(0,PV.c (CV.one (PL.f (FV.sl (List.map rP l))))),(4,PV.c (CV.one (PL.ptr 160200 0))),(5,PV.c (CV.one (PL.ptr 180200 0))),(6,PV.c (CV.one (PL.f (FV.int IntKind.i64 i))))],[(160200,Ob.iV [PL.f (FV.int IntKind.i64 (kr θ gt (l.take i)).1.room),PL.mp 160204,PL.f (FV.sl ((kr θ gt (l.take i)).1.o.map rQ)),PL.f (FV.int IntKind.i64 (kr θ gt (l.take i)).1.ch)]),(160204,Ob.map Dr ((kr θ gt (l.take i)).1.m.map ent)),(180200,Ob.iV [PL.f (FV.int IntKind.i64 (kr θ gt (l.take i)).2.room),PL.mp 180204,PL.f (FV.sl ((kr θ gt (l.take i)).2.o.map rQ)),PL.f (FV.int IntKind.i64 (kr θ gt (l.take i)).2.ch)]),(180204,Ob.map Ne.Dr ((kr θ gt (l.take i)).2.m.map Ne.ent))]⟩) (fun i=>True) (by omega) rfl trivial (fun i hi hP=>?_) (fun hP=>?_)
 ·obtain ⟨x,hx,hlt,ht,h0⟩:=at_ hi
  have hn:=nx hi (Nat.le_trans hl (by decide))
  have hI:=fi (θ:=θ) (gt:=gt) l i (by omega)
  rw [Et hx]
  generalize kr θ gt (l.take i) = a at hI ⊢
  obtain ⟨s,m⟩:=a
  have hz:=xB hf (List.mem_of_getElem? hx)
  have hsr:=hI.s.r
  have hsc:=hI.s.c
  have hso:=hI.s.o
  have hsm:=hI.s.m
  have hnr:=hI.n.r
  have hnc:=hI.n.c
  have hno:=hI.n.o
  simp only at hsr hsc hso hsm hnr hnc hno
  unfold V7
  by_cases hr:0 < x.r
  ·rw [if_pos hr]
   have hr':decide (0 < x.r) = true:=decide_eq_true hr
   have p1:=fun n=>Mx (F:=F) (n:=n) Q s x.now x.s x.r (by omega) (by omega) (by omega) (by omega) hz.2.1 hz.2.2.1 hz.2.2.2
   simp only [Sv.v,Se.v,tL] at p1
   simp only [List.length_map,List.getElem?_map,hlt,hx,ht,h0,hn,rP,hr',p1,go_sem,Nat.reduceAdd,Nat.reduceMul,Nat.reduceEqDiff,Nat.reduceBEq,Nat.reduceMod,Nat.reduceDiv,↓reduceIte,reduceCtorEq]
   done
  ·rw [if_neg hr]
   have hr':decide (0 < x.r) = false:=decide_eq_false hr
   have p1:=fun n=>Ne.P7 (F:=F) (n:=n) T O C m x.now x.k (decide (x.r < 0)) x.s hF (by omega) (by omega) (by omega) hz.1 hz.2.1 hz.2.2.1 hz.2.2.2
   simp only [Ne.Nv.v,Se.v,tL] at p1
   simp only [List.length_map,List.getElem?_map,hlt,hx,ht,h0,hn,rP,hr',p1,go_sem,Nat.reduceAdd,Nat.reduceMul,Nat.reduceEqDiff,Nat.reduceBEq,Nat.reduceMod,Nat.reduceDiv,↓reduceIte,reduceCtorEq]
   done
 ·have hd:=@end_ _ l
  rw [List.take_length]
  simp only [List.length_map,hd,go_sem,Nat.reduceAdd,Nat.reduceMul,Nat.reduceEqDiff,Nat.reduceBEq,Nat.reduceMod,Nat.reduceDiv,↓reduceIte,reduceCtorEq]
  done
end Go.Proofs.Ytfokaoeinpnagaa.Kc
set_option maxRecDepth 4000
namespace Go.Proofs.Ytfokaoeinpnagaa.Kc
open Go Ev
variable {ext : Env} {F n:Nat} {θ:Th} {nm:Int → ByteArray → List ByteArray} {gt:ByteArray → Int → Int → Int × Bool}
abbrev JO (now:Int):AV:=.agg [.iw,.iw,.f (.int .i64 now)]
theorem Ew (now:Int) (q:Qn):G ext F (n + 4) 34 [JO now,q.v] = some ([kR.v,vb false],[JO now,q.v]):=by
 refine eF (cf:=c34) rfl ?_
 have h1:=fun n=>JL (ext:=ext) (F:=F) (n:=n) now q
 simp only [c34,h1,go_sem,Nat.reduceAdd,Nat.reduceMul,Nat.reduceEqDiff,Nat.reduceBEq,Nat.reduceMod,Nat.reduceDiv,↓reduceIte,reduceCtorEq]
 try rfl
theorem JQ (M:Cq nm ext) (now:Int) (q:Qn):G ext F (n + 5) 35 [JO now,q.v] = some ([kR.v,vs ⟨#[]⟩,vb false],[JO now,q.v]):=by
 refine eF (cf:=TB) rfl ?_
 have h1:=fun n=>Ew (ext:=ext) (F:=F) (n:=n) now ⟨q.q,5,q.c⟩
 have h2:=fun n=>vo (F:=F) (n:=n) M kR.s (by intro y h;cases h)
 rw [show Er nm kR.s = (⟨#[]⟩,false) from MJ (by decide)] at h2
 simp only [kR,Cn,Se.v,tL,List.map_nil] at h1 h2
 by_cases h5:q.t = 5
 ·have h5':decide (q.t = 5) = true:=decide_eq_true h5
  simp only [TB,h5',go_sem,Nat.reduceAdd,Nat.reduceMul,Nat.reduceEqDiff,Nat.reduceBEq,Nat.reduceMod,Nat.reduceDiv,↓reduceIte,reduceCtorEq]
  try rfl
 ·have h5':decide (q.t = 5) = false:=decide_eq_false h5
  simp only [TB,h5',h1,h2,go_sem,Nat.reduceAdd,Nat.reduceMul,Nat.reduceEqDiff,Nat.reduceBEq,Nat.reduceMod,Nat.reduceDiv,↓reduceIte,reduceCtorEq]
  try rfl
theorem Qh (now:Int) (c:Ch) (q:Qn):G ext F (n + 4) 36 [JO now,c.v,q.v] = some ([(Ch.v ⟨c.hits,3,c.nm,c.Co⟩)],[JO now,c.v,q.v]):=by
 refine eF (cf:=VT) rfl ?_
 have h1:=fun n=>Ne.Gn (ext:=ext) (F:=F) (n:=n) now q
 simp only [VT,h1,go_sem,Nat.reduceAdd,Nat.reduceMul,Nat.reduceEqDiff,Nat.reduceBEq,Nat.reduceMod,Nat.reduceDiv,↓reduceIte,reduceCtorEq]
 try rfl
theorem Gt (O:Cq nm ext) (hF:200000000000001 ≤ F) (now:Int) (q:Qn):G ext F (n + 6) 19 [.one .iw,.one .iw,vi now,q.v] = some ([(Ch.v ⟨[],3,q.q,kR⟩)],[.one .iw,.one .iw,vi now,q.v]):=by
 refine eF (cf:=c19) rfl ?_
 have hw1:IntKind.i64.wrap (0 + 1) = 1:=by decide
 have t1:=fun n=>Ew (ext:=ext) (F:=F) (n:=n) now q
 have a1:=fun n=>JQ (F:=F) (n:=n) O now q
 have e1:=fun n=>Qh (ext:=ext) (F:=F) (n:=n) now ⟨[],0,q.q,kR⟩ q
 simp only [Ch.v,mZ.v,kR,Cn,List.map_nil] at t1 a1 e1 ⊢
 simp only [c19,go_sem,Nat.reduceAdd,Nat.reduceMul,Nat.reduceEqDiff,Nat.reduceBEq,Nat.reduceMod,Nat.reduceDiv,↓reduceIte,reduceCtorEq]
 refine Mk 1 (fun _:Unit=>⟨[(7,PV.c (CV.one (PL.ptr 160000 0))),(8,PV.c (CV.one (PL.ptr 180000 0))),(9,PV.c (CV.one (PL.ptr 200000 0))),(10,PV.c (CV.one (PL.ptr 220000 0))),(11,PV.c (CV.one (PL.mp 440000)))],[(160000,Ob.iV [PL.f (FV.str q.q),PL.f (FV.int IntKind.i64 q.t),PL.f (FV.int IntKind.i64 q.c)]),(180000,Ob.iV [PL.dN,PL.f (FV.int IntKind.i64 0),PL.f (FV.str ⟨#[]⟩),PL.f (FV.str ⟨#[]⟩),PL.f (FV.int IntKind.i64 0),PL.f (FV.int IntKind.i64 0),PL.dN,PL.f (FV.int IntKind.i64 0),PL.f (FV.int IntKind.i64 0)]),(200000,Ob.iV [PL.iw,PL.iw,PL.f (FV.int IntKind.i64 now)]),(220000,Ob.iV [PL.dN,PL.f (FV.int IntKind.i64 0),PL.f (FV.str ⟨#[]⟩),PL.f (FV.str ⟨#[]⟩),PL.f (FV.int IntKind.i64 0),PL.f (FV.int IntKind.i64 0),PL.dN,PL.f (FV.int IntKind.i64 0),PL.f (FV.int IntKind.i64 0)]),(440000,Ob.map (KS.one SK.str) [])]⟩) (fun i _=>i = 0) (by omega) () rfl rfl (fun i x hi hP=>?_) (fun x hP=>absurd hP (by decide))
 simp only [hw1,t1,a1,e1,rO,wM,wL,List.map_nil,List.findIdx?_nil,Option.getD_none,Option.bind_none,Option.map_none,go_sem,Nat.reduceAdd,Nat.reduceMul,Nat.reduceEqDiff,Nat.reduceBEq,Nat.reduceMod,Nat.reduceDiv,↓reduceIte,reduceCtorEq]
abbrev nd_ : ByteArray:=⟨#[1,100,0]⟩
abbrev V8 : ByteArray:=⟨#[1,101,0]⟩
abbrev Yj : Qn:=⟨⟨#[]⟩,0,0⟩
abbrev L5 : List Pt:=[⟨0,⟨na,5,1,[nb],7⟩,5,Yj⟩,⟨0,⟨nb,1,1,[dd],5⟩,3,Yj⟩,⟨0,⟨PY,5,1,[nd_],7⟩,5,Yj⟩,⟨0,⟨nd_,5,1,[PY],7⟩,5,Yj⟩,⟨0,⟨V8,5,1,[na],7⟩,2,Yj⟩]
abbrev CX (θ:Th) (nm:Int → ByteArray → List ByteArray) (gt:ByteArray → Int → Int → Int × Bool) (q:ByteArray):Ch:=xA nm (dJ (kr θ gt L5).1 2) (Ne.gG (kr θ gt L5).2 2) 2 ⟨q,1,1⟩
structure MS (θ:Th) (nm:Int → ByteArray → List ByteArray) (gt:ByteArray → Int → Int → Int × Bool):Prop where
 a1:(CX θ nm gt na).hits.length = 2
 a2:(CX θ nm gt na).e = 0
 a3:(CX θ nm gt na).nm = nb
 a4:Yh (lefts (CX θ nm gt na)) = 3
 c1:(CX θ nm gt PY).e = 4
 c2:(CX θ nm gt PY).hits.length = 2
 e1:(CX θ nm gt V8).e = 3
 e2:(CX θ nm gt V8).hits.length = 0
 t1:Er nm ⟨na,5,1,[nb],7⟩ = (nb,true)
set_option maxHeartbeats 4000000 in
theorem JR (T:θ.Ok ext) (O:Ne.Gj gt ext) (C:nS ext) (Q:El θ ext) (M:Cq nm ext) (L:MS θ nm gt) (hF:200000000000001 ≤ F):G ext F (n + 8) 9 [] = some ([vb true],[]):=by
 refine eF (cf:=c9) rfl ?_
 have f:=fun n=>lZ (F:=F) (n:=n) T O C Q hF L5 (by decide) (by decide)
 have W:=(fiA (θ:=θ) (gt:=gt) L5).w (by decide)
 have g1:=fun n=>nV (F:=F) (n:=n) M C hF (kr θ gt L5).1 (kr θ gt L5).2 2 ⟨na,1,1⟩ W.hd W.hu W.hy W.hd2 W.hu2
 have g2:=fun n=>nV (F:=F) (n:=n) M C hF (kr θ gt L5).1 (kr θ gt L5).2 2 ⟨PY,1,1⟩ W.hd W.hu W.hy W.hd2 W.hu2
 have g3:=fun n=>nV (F:=F) (n:=n) M C hF (kr θ gt L5).1 (kr θ gt L5).2 2 ⟨V8,1,1⟩ W.hd W.hu W.hy W.hd2 W.hu2
 have a1:(xA nm (dJ (kr θ gt L5).1 2) (Ne.gG (kr θ gt L5).2 2) 2 ⟨na,1,1⟩).hits.length = 2:=L.a1
 have a2:(xA nm (dJ (kr θ gt L5).1 2) (Ne.gG (kr θ gt L5).2 2) 2 ⟨na,1,1⟩).e = 0:=L.a2
 have a3:(xA nm (dJ (kr θ gt L5).1 2) (Ne.gG (kr θ gt L5).2 2) 2 ⟨na,1,1⟩).nm = nb:=L.a3
 have a4:Yh (lefts (xA nm (dJ (kr θ gt L5).1 2) (Ne.gG (kr θ gt L5).2 2) 2 ⟨na,1,1⟩)) = 3:=L.a4
 have c1:(xA nm (dJ (kr θ gt L5).1 2) (Ne.gG (kr θ gt L5).2 2) 2 ⟨PY,1,1⟩).e = 4:=L.c1
 have c2:(xA nm (dJ (kr θ gt L5).1 2) (Ne.gG (kr θ gt L5).2 2) 2 ⟨PY,1,1⟩).hits.length = 2:=L.c2
 have e1:(xA nm (dJ (kr θ gt L5).1 2) (Ne.gG (kr θ gt L5).2 2) 2 ⟨V8,1,1⟩).e = 3:=L.e1
 have e2:(xA nm (dJ (kr θ gt L5).1 2) (Ne.gG (kr θ gt L5).2 2) 2 ⟨V8,1,1⟩).hits.length = 0:=L.e2
 generalize xA nm (dJ (kr θ gt L5).1 2) (Ne.gG (kr θ gt L5).2 2) 2 ⟨na,1,1⟩ = A at g1 a1 a2 a3 a4
 generalize xA nm (dJ (kr θ gt L5).1 2) (Ne.gG (kr θ gt L5).2 2) 2 ⟨PY,1,1⟩ = B at g2 c1 c2
 generalize xA nm (dJ (kr θ gt L5).1 2) (Ne.gG (kr θ gt L5).2 2) 2 ⟨V8,1,1⟩ = D at g3 e1 e2
 have l1:=fun n=>MQ (ext:=ext) (F:=F) (n:=n) A (by omega) hF
 have k1:=fun n=>MN (ext:=ext) (F:=F) (n:=n) A (by omega) hF
 rw [a4] at l1
 have t1:=fun n=>vo (F:=F) (n:=n) M ⟨na,5,1,[nb],7⟩ (by intro y hy;rw [List.mem_singleton] at hy;subst hy;decide)
 rw [L.t1] at t1
 have n1:=fun n=>Gt (F:=F) (n:=n) M hF 0 Yj
 have s:=fun n a b=>MR (ext:=ext) (F:=F) (n:=n) a b
 generalize (kr θ gt L5).1 = S at f g1 g2 g3
 generalize (kr θ gt L5).2 = N at f g1 g2 g3
 simp only [Se.v,tL,Ch.v,mZ.v,List.map_cons,List.map_nil,rP,fD,kR,Cn] at f t1 n1 s
 simp only [Ch.v,a2,a3] at l1 k1
 have i2:((A.hits.length:Nat):Int) = 2:=by omega
 have i3:((B.hits.length:Nat):Int) = 2:=by omega
 have i4:((D.hits.length:Nat):Int) = 0:=by omega
 simp only [c9,f,s,g1,g2,g3,l1,k1,t1,n1,a2,a3,c1,e1,List.length_map,i2,i3,i4,decide_true,go_sem,Nat.reduceAdd,Nat.reduceMul,Nat.reduceEqDiff,Nat.reduceBEq,Nat.reduceMod,Nat.reduceDiv,↓reduceIte,reduceCtorEq]
 done
end Go.Proofs.Ytfokaoeinpnagaa.Kc
namespace Go.Proofs.Ytfokaoeinpnagaa.Kc
open Go Ev
variable {nm : Int → ByteArray → List ByteArray} {θ:Th} {gt:ByteArray → Int → Int → Int × Bool}
def Rab (h0:mZ) (A B:Ch):Prop:=(B.e = 4 ∧ (∃ l,B.hits = h0 :: l) ∧ (A.e = 4 ∨ 8 ≤ A.hits.length)) ∨ (B.e = A.e ∧ B.nm = A.nm ∧ B.hits = h0 :: A.hits)
theorem MU {pk:Qn → It × Bool} {fd:Qn → Ne.Nt × Bool} {now:Int} {fr:ByteArray} (h0:mZ) (hT:∀ q x to,q.q ≠ fr → al nm pk now q = some (x,to) → to ≠ fr):∀ (f:Nat) (met:List ByteArray) (hits:List mZ) (q:Qn),hits.length + f = 8 → 1 ≤ f → q.q ≠ fr → Rab h0 (FH nm pk fd now (f + 1) met hits q) (FH nm pk fd now f (fr :: met) (h0 :: hits) q)
 | 0,_,_,_,_,h,_=>by omega
 | f + 1,met,hits,q,hl,_,hq=>by
  unfold FH
  cases h1:tl pk now q with
  | some h=>exact .inr ⟨rfl,rfl,rfl⟩
  | none =>
   cases h2:al nm pk now q with
   | none =>
    refine .inr ?_
    show (fin fd now (h0 :: hits) q).e = (fin fd now hits q).e ∧ (fin fd now (h0 :: hits) q).nm = (fin fd now hits q).nm ∧ (fin fd now (h0 :: hits) q).hits = h0 :: (fin fd now hits q).hits
    unfold fin
    split <;> exact ⟨rfl,rfl,rfl⟩
   | some p =>
    obtain ⟨x,to⟩:=p
    have hne:=hT q x to hq h2
    have hin:tN (fr :: met) to = tN met to:=by
     unfold tN
     rw [List.any_cons,decide_eq_false (fun e=>hne e.symm),Bool.false_or]
    dsimp only
    rw [hin]
    cases hm:tN met to with
    | true =>
     rw [if_pos (.inr rfl),if_pos (.inr rfl)]
     exact .inr ⟨rfl,rfl,rfl⟩
    | false =>
     rw [if_neg (by rintro (h | h);omega;cases h)]
     by_cases h8:8 ≤ (h0 :: hits).length
     ·rw [if_pos (.inl h8)]
      refine .inl ⟨rfl,⟨hits ++ [x],rfl⟩,.inr ?_⟩
      obtain ⟨l,hl'⟩:=Iq (nm:=nm) (pk:=pk) (fd:=fd) (a:=now) (f + 1) (met ++ [to]) (hits ++ [x]) ⟨to,q.t,q.c⟩
      rw [hl']
      simp only [List.length_cons] at h8
      simp only [List.length_append,List.length_singleton]
      omega
     ·rw [if_neg (by rintro (h | h);exact h8 h;cases h)]
      simp only [List.length_cons] at h8
      exact MU h0 hT f (met ++ [to]) (hits ++ [x]) ⟨to,q.t,q.c⟩ (by simp;omega) (by omega) hne
theorem V9 {pk:Qn → It × Bool} {fd:Qn → Ne.Nt × Bool} {now:Int} {fr:ByteArray} {h0:mZ} {q:Qn} (hT:∀ q x to,q.q ≠ fr → al nm pk now q = some (x,to) → to ≠ fr) (hq:q.q ≠ fr) (h1:tl pk now ⟨fr,q.t,q.c⟩ = none) (h2:al nm pk now ⟨fr,q.t,q.c⟩ = some (h0,q.q)):Rab h0 (xA nm pk fd now q) (xA nm pk fd now ⟨fr,q.t,q.c⟩):=by
 have e:xA nm pk fd now ⟨fr,q.t,q.c⟩ = FH nm pk fd now 8 (fr :: [q.q]) (h0 :: []) q:=by
  show FH nm pk fd now 9 [fr] [] ⟨fr,q.t,q.c⟩ = _
  conv=>lhs;unfold FH
  rw [h1,h2]
  dsimp only
  rw [if_neg (by
   rintro (h | h)
   ·exact absurd h (by decide)
   ·unfold tN at h
    simp only [List.any_cons,List.any_nil,Bool.or_false,decide_eq_true_eq] at h
    exact hq h.symm)]
  rfl
 rw [e]
 exact MU h0 hT 8 [q.q] [] q rfl (by omega) hq
abbrev fr : ByteArray:=⟨#[5,97,108,105,97,115,5,97,108,105,97,115,0]⟩
abbrev MV (n to:ByteArray):Se:=⟨n,5,1,[to],7⟩
structure Gu (θ:Th) (nm:Int → ByteArray → List ByteArray):Prop where
 set:∀ q t c,θ.key q t c = true → q.size ≤ 300 → θ.set fr 5 1 [q] 7 = true
 tg:∀ q t c,θ.key q t c = true → q.size ≤ 300 → (nm 5 q).head? = some q
 c1:∀ d to,(nm 5 d).head? = some to → to = d
def tT (l:List Pt):Prop:=∀ p ∈ l,p.s.q ≠ fr ∧ p.k.q ≠ fr ∧ fr ∉ p.s.d
def OC (q:ByteArray) (now:Int):It:=(MV fr q).it (now + 7) 5
def zI (s:Sv) (q:ByteArray) (now:Int):Sv:=⟨50,upd s.m (OC q now),zV s.o ⟨fr,5,1⟩ ++ [⟨fr,5,1⟩],s.ch + 1⟩
theorem MW {l:List Pt} {i:Nat} {s:Sv} (h:FS l i s) (hf:tT l) {k:Qn} (hk:k.q = fr):old s.m k = none:=by
 refine u6 fun hm=>?_
 obtain ⟨x,hx,he⟩:=List.mem_map.mp hm
 obtain ⟨p,hp, -,rfl⟩:=h.it x hx
 refine (hf p hp).1 ?_
 rw [← hk,← he]
theorem Wd (A:Gu θ nm) {l:List Pt} {i:Nat} {s:Sv} (h:FS l i s) (hi:i ≤ 40) (hf:tT l) {q:Qn} {now:Int} (hn:0 ≤ now ∧ now ≤ 549755813888) (hk:θ.key q.q q.t q.c = true) (hq:q.q.size ≤ 300):rZ θ s now (MV fr q.q) 5 = (zI s q.q now,0):=by
 have ht:Mc now = true:=decide_eq_true (by omega)
 have hu:eO now 7 = now + 7:=by unfold eO;rw [if_pos ⟨ht,by omega⟩,if_pos (by omega)]
 have hl:jL now (now + 7) = true:=by unfold jL;rw [ht,Bool.true_and];exact decide_eq_true (by omega)
 have hm:Ej θ s now ((MV fr q.q).it (eO now (MV fr q.q).ttl) 5) = 0:=by
  unfold Ej
  rw [if_neg (by
   rintro (h1 | h1 | h1 | h1)
   ·have:eO now 7 < 0:=h1
    omega
   ·have:θ.set fr 5 1 [q.q] 7 = false:=h1
    rw [A.set _ _ _ hk hq] at this;cases this
   ·exact absurd (show (5:Int) < 1 from h1) (by decide)
   ·exact absurd (show (5:Int) < 5 from h1) (by decide)),if_neg (by
   show ¬ jL now (eO now 7) = false
   rw [hu,hl];decide)]
  rw [MW h hf rfl]
 unfold rZ
 simp only [hm,ne_eq,not_true_eq_false,if_false]
 have ho:=h.o
 have hqo:=@qD s.o (MV fr q.q).k
 have hz:(zV s.o (MV fr q.q).k ++ [(MV fr q.q).k]).length - s.room.toNat = 0:=by
  rw [h.r,List.length_append,List.length_singleton]
  show (zV s.o (MV fr q.q).k).length + 1 - 50 = 0
  omega
 rw [hz,List.take_zero,List.drop_zero]
 unfold zI OC
 show ((⟨s.room,upd s.m ((MV fr q.q).it (eO now 7) 5),_,_⟩:Sv),(0:Int)) = _
 rw [hu,h.r]
theorem MX {l:List Pt} {i:Nat} {s:Sv} (h:FS l i s) (hf:tT l) {q:ByteArray} {now:Int} (hn:0 ≤ now ∧ now ≤ 549755813888):dJ (zI s q now) now ⟨fr,5,1⟩ = (OC q now,true):=by
 have ho:old (zI s q now).m ⟨fr,5,1⟩ = some (OC q now):=by
  show old (upd s.m (OC q now)) _ = _
  rw [Cm];exact if_pos rfl
 unfold dJ
 rw [ho]
 dsimp only
 rw [if_pos]
 show jL now (now + 7) = true
 unfold jL Mc
 simp only [Bool.and_eq_true,decide_eq_true_eq]
 omega
theorem TM {l:List Pt} {i:Nat} {s:Sv} (h:FS l i s) (hf:tT l) {q:ByteArray} {t c:Int} {now:Int} (h5:t ≠ 5):tl (dJ (zI s q now) now) now ⟨fr,t,c⟩ = none:=by
 have ho:old (zI s q now).m ⟨fr,t,c⟩ = none:=by
  show old (upd s.m (OC q now)) _ = _
  rw [Cm,if_neg (by intro e;exact h5 (congrArg Qn.t e)),MW h hf rfl]
 unfold tl dJ
 rw [ho]
 rfl
def Qi (q:ByteArray) (now:Int):mZ:=⟨MV fr q,rD now (now + 7)⟩
theorem TN (A:Gu θ nm) {l:List Pt} {i:Nat} {s:Sv} (h:FS l i s) (hf:tT l) {q:Qn} {now:Int} (hn:0 ≤ now ∧ now ≤ 549755813888) (h5:q.t ≠ 5) (h1:q.c = 1) (hk:θ.key q.q q.t q.c = true) (hq:q.q.size ≤ 300):al nm (dJ (zI s q.q now) now) now ⟨fr,q.t,q.c⟩ = some (Qi q.q now,q.q):=by
 unfold al
 rw [if_neg h5]
 have ht:tl (dJ (zI s q.q now) now) now ⟨fr,5,1⟩ = some (Qi q.q now):=by
  unfold tl
  rw [MX h hf hn]
  rw [if_pos ⟨rfl,show MI 5 = true by decide⟩]
  rfl
 have ht':tl (dJ (zI s q.q now) now) now ⟨(⟨fr,q.t,q.c⟩:Qn).q,5,(⟨fr,q.t,q.c⟩:Qn).c⟩ = some (Qi q.q now):=by
  show tl _ _ ⟨fr,5,q.c⟩ = _
  rw [h1];exact ht
 rw [ht',Option.bind_some]
 have:tg nm (Qi q.q now).s = some q.q:=A.tg _ _ _ hk hq
 rw [this];rfl
theorem aap (A:Gu θ nm) {l:List Pt} {i:Nat} {s:Sv} (h:FS l i s) (hf:tT l) {q:ByteArray} {now:Int}:∀ q' x to,q'.q ≠ fr → al nm (dJ (zI s q now) now) now q' = some (x,to) → to ≠ fr:=by
 intro q' x to hq ha
 unfold al at ha
 split at ha
 ·cases ha
 obtain ⟨y,h1,h2⟩:=zbm ha
 obtain ⟨z,h3,h4⟩:=zmm h2
 cases h4
 unfold tl at h1
 split at h1
 ·rename_i hc
  cases h1
  obtain ⟨k1,k2, -⟩:=Qg hc.1
  generalize (dJ (zI s q now) now ⟨q'.q,5,q'.c⟩).1 = it at k1 k2 h3
  have hm:it ∈ s.m:=by
   rcases p8 (show it ∈ upd s.m (OC q now) from k1) with rfl | h
   ·exact absurd (congrArg Qn.q k2).symm hq
   ·exact h
  obtain ⟨p,hp, -,rfl⟩:=h.it it hm
  unfold tg at h3
  split at h3
  ·obtain ⟨d,h5,h6⟩:=zbm h3
   have:=A.c1 d to h6
   subst this
   exact fun e=>(hf p hp).2.2 (e ▸ List.mem_of_mem_head? h5)
  ·cases h3
 ·cases h1
theorem JU (A:Gu θ nm) {l:List Pt} {i:Nat} {s:Sv} {fd:Qn → Ne.Nt × Bool} (h:FS l i s) (hf:tT l) {q:Qn} {now:Int} (hn:0 ≤ now ∧ now ≤ 549755813888) (hqf:q.q ≠ fr) (h5:q.t ≠ 5) (h1:q.c = 1) (hk:θ.key q.q q.t q.c = true) (hq:q.q.size ≤ 300):Rab (Qi q.q now) (xA nm (dJ (zI s q.q now) now) fd now q) (xA nm (dJ (zI s q.q now) now) fd now ⟨fr,q.t,q.c⟩) :=
 V9 (aap A h hf) hqf (TM h hf h5) (TN A h hf hn h5 h1 hk hq)
end Go.Proofs.Ytfokaoeinpnagaa.Kc
set_option maxRecDepth 4000
namespace Go.Proofs.Ytfokaoeinpnagaa.Kc
open Go Ev
variable {ext : Env} {F n:Nat} {θ:Th} {nm:Int → ByteArray → List ByteArray} {gt:ByteArray → Int → Int → Int × Bool}
theorem FW.fr {a:Sv × Ne.Nv} (W:FW a) {q:ByteArray} (hq:q.size ≤ 300) {now:Int} (hn:0 ≤ now ∧ now ≤ 549755813888):FW (zI a.1 q now,a.2):=by
 refine ⟨fun x hx=>?_,fun x hx=>?_,fun x hx=>?_,W.hd2,W.hu2⟩
 ·rcases p8 (show x ∈ upd a.1.m (OC q now) from hx) with rfl | h
  ·exact (by decide:(1:Nat) ≤ 1000000)
  ·exact W.hd x h
 ·rcases p8 (show x ∈ upd a.1.m (OC q now) from hx) with rfl | h
  ·show now + 7 ≤ 4611686018427387904
   omega
  ·exact W.hu x h
 ·rcases p8 (show x ∈ upd a.1.m (OC q now) from hx) with rfl | h
  ·intro y hy
   have:y ∈ [q]:=hy
   rw [List.mem_singleton] at this
   subst this
   omega
  ·exact W.hy x h
theorem JV (A:Gu θ nm) {l:List Pt} {i:Nat} {s:Sv} {fd:Qn → Ne.Nt × Bool} (h:FS l i s) (hf:tT l) {q:Qn} {now:Int} (hn:0 ≤ now ∧ now ≤ 549755813888) (h5:q.t ≠ 5) (h1:q.c = 1) (hk:θ.key q.q q.t q.c = true) (hq:q.q.size ≤ 300) {X Y:Ch} (hX:xA nm (dJ (zI s q.q now) now) fd now q = X) (hY:xA nm (dJ (zI s q.q now) now) fd now ⟨fr,q.t,q.c⟩ = Y) :
  (∃ tl,Y.hits = Qi q.q now :: tl) ∧ (X.e = 4 → Y.e = 4) ∧ (8 ≤ X.hits.length → X.e ≠ 4 ∨ Y.e = 4) ∧ (X.e ≠ 4 → X.hits.length < 8 → Y.e = X.e ∧ Y.nm = X.nm ∧ Y.hits.length = X.hits.length + 1):=by
 by_cases hqf:q.q = fr
 ·have he:q = ⟨fr,q.t,q.c⟩:=by rw [← hqf]
  have h2:=TM (q:=q.q) (c:=q.c) (now:=now) h hf h5
  have h3:=TN A h hf hn h5 h1 hk hq
  have e:xA nm (dJ (zI s q.q now) now) fd now ⟨fr,q.t,q.c⟩ = ⟨[Qi q.q now],4,fr,kR⟩:=by
   show FH nm _ fd now 9 [fr] [] ⟨fr,q.t,q.c⟩ = _
   unfold FH
   rw [h2,h3]
   dsimp only
   rw [if_pos (.inr (by unfold tN;rw [hqf];simp))]
   rfl
  have hY':Y = ⟨[Qi q.q now],4,fr,kR⟩:=by rw [← hY,e]
  have hX':X = ⟨[Qi q.q now],4,fr,kR⟩:=by rw [← hX,← e];exact congrArg _ he
  subst hY'
  subst hX'
  exact ⟨⟨[],rfl⟩,fun _=>rfl,fun _=>.inr rfl,fun h=>absurd rfl h⟩
 ·have hR:=JU (nm:=nm) (fd:=fd) A h hf hn hqf h5 h1 hk hq
  rw [hX,hY] at hR
  rcases hR with ⟨r1,⟨t,r2⟩,r3⟩ | ⟨r1,r2,r3⟩
  ·exact ⟨⟨t,r2⟩,fun _=>r1,fun _=>.inr r1,fun g1 g2=>by rcases r3 with r3 | r3 <;> omega⟩
  ·refine ⟨⟨_,r3⟩,fun g=>by rw [r1,g],fun _=>?_,fun _ _=>⟨r1,r2,by rw [r3];simp⟩⟩
   by_cases g:X.e = 4
   ·exact .inr (by rw [r1,g])
   ·exact .inl g
set_option maxHeartbeats 16000000 in
theorem zW (T:θ.Ok ext) (O:Ne.Gj gt ext) (C:nS ext) (Q:El θ ext) (M:Cq nm ext) (L:MS θ nm gt) (A:Gu θ nm) (hF:200000000000001 ≤ F) (l:List Pt) (now:Int) (q:Qn) (hl:l.length ≤ 200000000000000) (hd:∀ x ∈ l,x.s.d.length ≤ 200000000000000):G ext F (n + 9) 5 [vl (l.map rP),vi now,q.v] = some ([vb true],[vl (l.map rP),vi now,q.v]):=by
 refine eF (cf:=c5) rfl ?_
 have hs:=fun n=>Gs (ext:=ext) (F:=F) (n:=n) l 40 hl hd hF
 have hv:=fun n=>JR (F:=F) (n:=n) T O C Q M L hF
 by_cases h1:wQ l = true ∧ (l.length:Int) ≤ 40
 case neg =>
  rw [if_neg h1] at hs
  simp only [c5,hs,hv,go_sem,Nat.reduceAdd,Nat.reduceMul,Nat.reduceEqDiff,Nat.reduceBEq,Nat.reduceMod,Nat.reduceDiv,↓reduceIte,reduceCtorEq]
 rw [if_pos h1] at hs
 have Wh:decide ((1:Int) = 0) = false:=rfl
 by_cases h3:q.q.size ≤ 300
 case neg =>
  have h3':decide ((300:Int) < (q.q.size:Int)) = true:=decide_eq_true (by omega)
  simp only [c5,hs,Wh,hv,h3',go_sem,Nat.reduceAdd,Nat.reduceMul,Nat.reduceEqDiff,Nat.reduceBEq,Nat.reduceMod,Nat.reduceDiv,↓reduceIte,reduceCtorEq]
 have h3':decide ((300:Int) < (q.q.size:Int)) = false:=decide_eq_false (by omega)
 have ZZ9:=fun n=>Mj (F:=F) (n:=n) T q.q q.t q.c (by omega)
 cases hk:θ.key q.q q.t q.c with
 | false =>
  rw [hk] at ZZ9
  simp only [c5,hs,Wh,hv,h3',ZZ9,go_sem,Nat.reduceAdd,Nat.reduceMul,Nat.reduceEqDiff,Nat.reduceBEq,Nat.reduceMod,Nat.reduceDiv,↓reduceIte,reduceCtorEq]
 | true =>
 rw [hk] at ZZ9
 by_cases h5:q.t = 5
 ·have h5':decide (q.t = 5) = true:=decide_eq_true h5
  simp only [c5,hs,Wh,hv,h3',ZZ9,h5',go_sem,Nat.reduceAdd,Nat.reduceMul,Nat.reduceEqDiff,Nat.reduceBEq,Nat.reduceMod,Nat.reduceDiv,↓reduceIte,reduceCtorEq]
 have h5':decide (q.t = 5) = false:=decide_eq_false h5
 by_cases h6:q.c = 1
 case neg =>
  have h6':decide (q.c = 1) = false:=decide_eq_false h6
  simp only [c5,hs,Wh,hv,h3',ZZ9,h5',h6',go_sem,Nat.reduceAdd,Nat.reduceMul,Nat.reduceEqDiff,Nat.reduceBEq,Nat.reduceMod,Nat.reduceDiv,↓reduceIte,reduceCtorEq]
 have h6':decide (q.c = 1) = true:=decide_eq_true h6
 by_cases h7:now < 0
 ·have h7':decide (now < 0) = true:=decide_eq_true h7
  simp only [c5,hs,Wh,hv,h3',ZZ9,h5',h6',h7',go_sem,Nat.reduceAdd,Nat.reduceMul,Nat.reduceEqDiff,Nat.reduceBEq,Nat.reduceMod,Nat.reduceDiv,↓reduceIte,reduceCtorEq]
 have h7':decide (now < 0) = false:=decide_eq_false h7
 by_cases h8:549755813888 < now
 ·have h8':decide (549755813888 < now) = true:=decide_eq_true h8
  simp only [c5,hs,Wh,hv,h3',ZZ9,h5',h6',h7',h8',go_sem,Nat.reduceAdd,Nat.reduceMul,Nat.reduceEqDiff,Nat.reduceBEq,Nat.reduceMod,Nat.reduceDiv,↓reduceIte,reduceCtorEq]
 have h8':decide (549755813888 < now) = false:=decide_eq_false h8
 simp only [c5,hs,Wh,h3',ZZ9,h5',h6',h7',h8',go_sem,Nat.reduceAdd,Nat.reduceMul,Nat.reduceEqDiff,Nat.reduceBEq,Nat.reduceMod,Nat.reduceDiv,↓reduceIte,reduceCtorEq]
 refine jZ l.length (fun i=>⟨[(0,PV.c (CV.one (PL.f (FV.sl (List.map rP l))))),(1,PV.c (CV.one (PL.f (FV.int IntKind.i64 now)))),(5,PV.c (CV.one (PL.ptr 120000 0))),(7,PV.c (CV.one (PL.f (FV.str fr)))),(8,PV.c (CV.one (PL.f (FV.int IntKind.i64 i))))],[(120000,Ob.iV [PL.f (FV.str q.q),PL.f (FV.int IntKind.i64 q.t),PL.f (FV.int IntKind.i64 q.c)])]⟩) (fun i=>tT (l.take i)) (by omega) rfl (by intro p hp;simp at hp) (fun i hi hP=>?_) (fun hP=>?_)
 ·obtain ⟨x,hx,hlt,ht,h0⟩:=at_ hi
  have hn:=nx hi (by omega)
  have hds:=hd x (List.mem_of_getElem? hx)
  by_cases y1:x.s.q = fr
  ·have y1':decide (x.s.q = fr) = true:=decide_eq_true y1
   simp only [List.length_map,List.getElem?_map,hlt,hx,ht,h0,hn,rP,y1',hv,go_sem,Nat.reduceAdd,Nat.reduceMul,Nat.reduceEqDiff,Nat.reduceBEq,Nat.reduceMod,Nat.reduceDiv,↓reduceIte,reduceCtorEq]
  have y1':decide (x.s.q = fr) = false:=decide_eq_false y1
  by_cases y2:x.k.q = fr
  ·have y2':decide (x.k.q = fr) = true:=decide_eq_true y2
   simp only [List.length_map,List.getElem?_map,hlt,hx,ht,h0,hn,rP,y1',y2',hv,go_sem,Nat.reduceAdd,Nat.reduceMul,Nat.reduceEqDiff,Nat.reduceBEq,Nat.reduceMod,Nat.reduceDiv,↓reduceIte,reduceCtorEq]
  have y2':decide (x.k.q = fr) = false:=decide_eq_false y2
  by_cases y3:q.q = fr
  ·have y3':decide (q.q = fr) = true:=decide_eq_true y3
   simp only [List.length_map,List.getElem?_map,hlt,hx,ht,h0,hn,rP,y1',y2',y3',hv,go_sem,Nat.reduceAdd,Nat.reduceMul,Nat.reduceEqDiff,Nat.reduceBEq,Nat.reduceMod,Nat.reduceDiv,↓reduceIte,reduceCtorEq]
  have y3':decide (q.q = fr) = false:=decide_eq_false y3
  simp only [List.length_map,List.getElem?_map,hlt,hx,ht,h0,hn,rP,y1',y2',y3',go_sem,Nat.reduceAdd,Nat.reduceMul,Nat.reduceEqDiff,Nat.reduceBEq,Nat.reduceMod,Nat.reduceDiv,↓reduceIte,reduceCtorEq]
  refine jZ x.s.d.length (fun k=>⟨[(0,PV.c (CV.one (PL.f (FV.sl (List.map rP l))))),(1,PV.c (CV.one (PL.f (FV.int IntKind.i64 now)))),(5,PV.c (CV.one (PL.ptr 120000 0))),(7,PV.c (CV.one (PL.f (FV.str fr)))),(8,PV.c (CV.one (PL.f (FV.int IntKind.i64 i)))),(9,PV.c (CV.one (PL.f (FV.int IntKind.i64 k))))],[(120000,Ob.iV [PL.f (FV.str q.q),PL.f (FV.int IntKind.i64 q.t),PL.f (FV.int IntKind.i64 q.c)])]⟩) (fun k=>∀ y ∈ x.s.d.take k,y ≠ fr) (by omega) rfl (by simp) (fun k hk hR=>?_) (fun hR=>?_)
  ·obtain ⟨y,hy,hlt2,ht2,h02⟩:=at_ hk
   have hn2:=nx hk (by omega)
   by_cases y4:y = fr
   ·have y4':decide (y = fr) = true:=decide_eq_true y4
    simp only [List.length_map,List.getElem?_map,hlt,hx,ht,h0,hn,rP,fD,hlt2,hy,ht2,h02,hn2,y4',hv,go_sem,Nat.reduceAdd,Nat.reduceMul,Nat.reduceEqDiff,Nat.reduceBEq,Nat.reduceMod,Nat.reduceDiv,↓reduceIte,reduceCtorEq]
   ·have y4':decide (y = fr) = false:=decide_eq_false y4
    simp only [List.length_map,List.getElem?_map,hlt,hx,ht,h0,hn,rP,fD,hlt2,hy,ht2,h02,hn2,y4',go_sem,Nat.reduceAdd,Nat.reduceMul,Nat.reduceEqDiff,Nat.reduceBEq,Nat.reduceMod,Nat.reduceDiv,↓reduceIte,reduceCtorEq]
    exact all_succ hR hy y4
  ·rw [List.take_length] at hR
   have afJ:=@end_ _ x.s.d
   simp only [List.length_map,List.getElem?_map,hlt,hx,ht,h0,hn,rP,afJ,go_sem,Nat.reduceAdd,Nat.reduceMul,Nat.reduceEqDiff,Nat.reduceBEq,Nat.reduceMod,Nat.reduceDiv,↓reduceIte,reduceCtorEq]
   exact all_succ hP hx ⟨y1,y2,fun hm=>hR _ hm rfl⟩
 ·rw [List.take_length] at hP
  have hde:=@end_ _ l
  have fA:=fiA (θ:=θ) (gt:=gt) l
  have W:=fA.w h1.1
  have W2:=W.fr h3 (now:=now) (by omega)
  have f:=fun n=>lZ (F:=F) (n:=n) T O C Q hF l (by omega) h1.1
  have hnn:0 ≤ now ∧ now ≤ 549755813888:=by omega
  have hso:=fA.s.o
  have hsm:=fA.s.m
  have hsr:=fA.s.r
  have hsc:=fA.s.c
  have pp:=fun n=>Mx (F:=F) (n:=n) Q (kr θ gt l).1 now (MV fr q.q) 5 (by omega) (by omega) (by omega) (by omega) (by show fr.size ≤ 1000000;decide) (by show (1:Nat) ≤ _;omega) (by intro y hy;rw [List.mem_singleton] at hy;subst hy;omega)
  rw [Wd A fA.s (by omega) hP hnn hk h3] at pp
  have al:=fun n a b=>MR (ext:=ext) (F:=F) (n:=n) a b
  have g:=fun n=>nV (F:=F) (n:=n) M C hF (zI (kr θ gt l).1 q.q now) (kr θ gt l).2 now q W2.hd W2.hu W2.hy W2.hd2 W2.hu2
  have g':=fun n=>nV (F:=F) (n:=n) M C hF (zI (kr θ gt l).1 q.q now) (kr θ gt l).2 now ⟨fr,q.t,q.c⟩ W2.hd W2.hu W2.hy W2.hd2 W2.hu2
  obtain ⟨⟨tl',r1⟩,r2,r3,r4⟩:=JV A fA.s hP (fd:=Ne.gG (kr θ gt l).2 now) hnn h5 h6 hk h3 rfl rfl
  generalize xA nm (dJ (zI (kr θ gt l).1 q.q now) now) (Ne.gG (kr θ gt l).2 now) now ⟨fr,q.t,q.c⟩ = Y at g' r1 r2 r3 r4
  generalize xA nm (dJ (zI (kr θ gt l).1 q.q now) now) (Ne.gG (kr θ gt l).2 now) now q = X at g r2 r3 r4
  generalize zI (kr θ gt l).1 q.q now = S2 at pp g g'
  generalize (kr θ gt l).1 = S at f pp
  generalize (kr θ gt l).2 = N at f g g'
  simp only [Sv.v,Se.v,tL,List.map_cons,List.map_nil,fD] at pp al
  have yl:decide (((Y.hits.length:Nat):Int) = 0) = false:=decide_eq_false (by rw [r1];simp;omega)
  have y0:(Y.hits.map rH)[0]? = some [.str fr,.int .i64 5,.int .i64 1,.sl [[.str q.q]],.int .i64 7,.int .i64 (rD now (now + 7))]:=by rw [r1];rfl
  have yf:decide (fr = fr) = true:=decide_eq_true rfl
  by_cases x4:X.e = 4
  ·have x4':decide (X.e = 4) = true:=decide_eq_true x4
   have y4':decide (Y.e = 4) = true:=decide_eq_true (r2 x4)
   simp only [List.length_map,hde,f,al,pp,g,g',yl,y0,yf,Int.toNat_zero,x4',y4',hv,go_sem,Nat.reduceAdd,Nat.reduceMul,Nat.reduceEqDiff,Nat.reduceBEq,Nat.reduceMod,Nat.reduceDiv,↓reduceIte,reduceCtorEq]
   omega
  have x4':decide (X.e = 4) = false:=decide_eq_false x4
  by_cases x8:8 ≤ X.hits.length
  ·have x8':decide ((8:Int) ≤ (X.hits.length:Int)) = true:=decide_eq_true (by omega)
   simp only [List.length_map,hde,f,al,pp,g,g',yl,y0,yf,Int.toNat_zero,x4',x8',hv,go_sem,Nat.reduceAdd,Nat.reduceMul,Nat.reduceEqDiff,Nat.reduceBEq,Nat.reduceMod,Nat.reduceDiv,↓reduceIte,reduceCtorEq]
   omega
  ·have x8':decide ((8:Int) ≤ (X.hits.length:Int)) = false:=decide_eq_false (by omega)
   obtain ⟨k1,k2,k3⟩:=r4 x4 (by omega)
   have w1:IntKind.i64.wrap ((X.hits.length:Int) + 1) = (X.hits.length:Int) + 1:=zT (by omega) (by omega)
   have e1:decide (Y.e = X.e) = true:=decide_eq_true k1
   have e2:decide (Y.nm = X.nm) = true:=decide_eq_true k2
   have e3:decide ((Y.hits.length:Int) = (X.hits.length:Int) + 1) = true:=decide_eq_true (by omega)
   simp only [List.length_map,hde,f,al,pp,g,g',yl,y0,yf,Int.toNat_zero,x4',x8',w1,e1,e2,e3,hv,go_sem,Nat.reduceAdd,Nat.reduceMul,Nat.reduceEqDiff,Nat.reduceBEq,Nat.reduceMod,Nat.reduceDiv,↓reduceIte,reduceCtorEq]
   omega
end Go.Proofs.Ytfokaoeinpnagaa.Kc
set_option maxRecDepth 4000
namespace Go.Proofs.Ytfokaoeinpnagaa.Ev
open Go
section
variable {Γ : Env} {F s c1 c2:Nat} {ca cb cc:CC} {D:St → Option St} {cf:CF} {fK:List AV} {σ:St}
@[go_sem ↓] theorem afK {k:List AV × List AV → Prop} {u:Tok k}:W k u (MG Γ F ca cb s D cf fK) ↔ fK.length = cf.np ∧ W (fun e=>W (fun p=>p.1 = .jd ∧ W (fun t=>W (fun q=>(∀ id,q.1 ≠ .ext id) ∧ W (fun t=>W (fun b=>W (fun l=>W (fun r=>k (r.1,b.1)) ⟨⟩ (mF cf.ro b.2 l)) ⟨⟩ (slots b.2 cf.res)) ⟨⟩ (jX t e.1 fK)) ⟨⟩ (D q.2)) ⟨⟩ (ev Γ F cb t)) ⟨⟩ (some ⟨put p.2.tm s (.c (.one .any)),p.2.ob⟩)) ⟨⟩ (ev Γ F ca e.2)) ⟨⟩ (enter cf.bo 0 [] ⟨[],[]⟩ fK):=by
 simp only [MG,dO,dw,bq,bH,ne_eq,Decidable.not_not]
 refine and_congr Iff.rfl (cK fun e=>cK fun p=>?_)
 obtain ⟨o,σ'⟩:=p
 cases o with
 | jd =>
  simp only [true_and,bq]
  refine cK fun q=>?_
  obtain ⟨o,σ'⟩:=q
  cases o with
  | ext i=>simp [jv]
  | jd=>simp only [reduceCtorEq,not_false_eq_true,implies_true,true_and,bq,bX]
  | ret=>simp only [reduceCtorEq,not_false_eq_true,implies_true,true_and,bq,bX]
 | ext i=>simp [jv]
 | ret=>simp [jv]
def ds0 (ob:List (Nat × Ob)):Option PV → Option PV → Option St
 | some x,some y=>some ⟨[(0,x),(1,y)],ob⟩
 | _,_=>none
@[go_sem] theorem aaq {ob:List (Nat × Ob)} {x y:PV}:ds0 ob (some x) (some y) = some ⟨[(0,x),(1,y)],ob⟩:=rfl
@[go_sem ↓] theorem ahc {k:St → Prop} {u:Tok k}:W k u (Dcl Γ F cc c1 c2 σ) ↔ W (fun t=>W (fun p=>(∀ id,p.1 ≠ .ext id) ∧ W (fun z=>k ⟨[(c1,z)],p.2.ob⟩) ⟨⟩ (get p.2.tm 0)) ⟨⟩ (ev Γ F cc t)) ⟨⟩ (ds0 σ.ob (get σ.tm c1) (get σ.tm c2)):=by
 unfold Dcl ds0
 cases h1:get σ.tm c1 with
 | none=>simp only [dO,jv]
 | some x =>
  cases h2:get σ.tm c2 with
  | none=>simp only [dO,jv,bH]
  | some y =>
   simp only [dO,bH,bq]
   refine cK fun p=>?_
   obtain ⟨o,σ'⟩:=p
   cases o with
   | ext i=>simp [jv]
   | jd=>simp only [ne_eq,reduceCtorEq,not_false_eq_true,implies_true,true_and,bX]
   | ret=>simp only [ne_eq,reduceCtorEq,not_false_eq_true,implies_true,true_and,bX]
end
end Go.Proofs.Ytfokaoeinpnagaa.Ev
namespace Go.Proofs.Ytfokaoeinpnagaa.Kc
open Go Ev
variable {ext : Env} {F n:Nat} {θ:Th}
def pA : CC:=(.seq (.reg [⟨(some 4),none,(.box 52 (.t 0))⟩,⟨(some 6),none,(.box 27 (.t 2))⟩,⟨(some 8),none,(.alloc 59 [(.f (.int .i64 0))])⟩] [1,3,4,6,8]) (.sG [⟨⟨(some 14),none,(.load 5 true (.t 6))⟩,[200000]⟩,⟨⟨(some 15),none,(.mv (.t 1))⟩,[200000]⟩,⟨⟨(some 16),none,(.fa 4 (.t 6))⟩,[200000]⟩,⟨⟨(some 17),none,(.load 1 false (.t 16))⟩,[200000]⟩,⟨⟨(some 18),none,(.call false 39 [(.t 15),(.t 17)])⟩,[200000]⟩,⟨⟨(some 19),none,(.mv (.t 3))⟩,[200000]⟩,⟨⟨(some 20),none,(.build [(.f (.str ⟨#[]⟩)),(.f (.int .i64 0)),(.f (.int .i64 0)),.dN,(.f (.int .i64 0)),(.f (.int .i64 0)),(.f (.int .i64 0))] [⟨0,⟨5,(.t 14)⟩⟩,⟨5,⟨1,(.t 18)⟩⟩,⟨6,⟨1,(.t 19)⟩⟩])⟩,[200000]⟩,⟨⟨(some 9),none,(.alloc 95 [(.f (.str ⟨#[]⟩)),(.f (.int .i64 0)),(.f (.int .i64 0)),.dN,(.f (.int .i64 0)),(.f (.int .i64 0)),(.f (.int .i64 0))])⟩,[]⟩] [] [] [⟨none,none,(.store 7 (.t 9) (.t 20))⟩] [1,4,6,8,9]))
def pB : CC:=(.seq (.seq (.reg [⟨(some 22),none,(.load 1 false (.t 4))⟩,⟨(some 23),none,(.mv (.t 1))⟩,⟨(some 24),none,(.load 7 true (.t 9))⟩,⟨(some 25),none,(.call false 41 [(.t 22),(.t 23),(.t 24)])⟩,⟨none,none,(.store 1 (.t 8) (.t 25))⟩] [4,6,8,9]) (.seq (.reg [⟨(some 26),none,(.load 1 false (.t 8))⟩,⟨(some 27),none,(.cmp .ne (.t 26) (.k (.one (.f (.int .i64 0)))))⟩] [4,6,8,9,27]) (.cond (.t 27) (.seq (.reg [⟨(some 28),none,(.load 1 false (.t 8))⟩,⟨none,none,(.store 1 (.t 8) (.t 28))⟩] [4,8]) .ret) .skip))) (.seq (.sG [⟨⟨(some 29),none,(.load 1 false (.t 4))⟩,[]⟩,⟨⟨(some 30),none,(.mq (.t 29))⟩,[]⟩,⟨⟨(some 31),none,(.fa 1 (.t 30))⟩,[]⟩,⟨⟨(some 32),none,(.load 1 false (.t 31))⟩,[]⟩,⟨⟨(some 33),none,(.fa 0 (.t 6))⟩,[]⟩,⟨⟨(some 34),none,(.load 3 true (.t 33))⟩,[]⟩,⟨⟨(some 35),none,(.load 7 true (.t 9))⟩,[]⟩,⟨⟨(some 36),none,(.call false 42 [(.t 35)])⟩,[]⟩] [] [] [⟨none,none,(.xJ (.agg [.str,(.int .i64),(.int .i64)]) (.t 32) (.t 34) (.t 36))⟩] [4,6,8]) (.seq (.sG [⟨⟨(some 38),none,(.load 1 false (.t 4))⟩,[]⟩,⟨⟨(some 39),none,(.mq (.t 38))⟩,[]⟩,⟨⟨(some 40),none,(.fa 2 (.t 39))⟩,[]⟩,⟨⟨(some 41),none,(.load 1 false (.t 40))⟩,[]⟩,⟨⟨(some 42),none,(.fa 0 (.t 6))⟩,[]⟩,⟨⟨(some 43),none,(.load 3 true (.t 42))⟩,[]⟩,⟨⟨(some 44),none,(.call false 44 [(.t 41),(.t 43)])⟩,[]⟩,⟨⟨(some 45),none,(.load 1 false (.t 4))⟩,[]⟩,⟨⟨(some 46),none,(.mq (.t 45))⟩,[]⟩,⟨⟨(some 47),none,(.fa 0 (.t 46))⟩,[]⟩,⟨⟨(some 48),none,(.load 1 false (.t 47))⟩,[]⟩,⟨⟨(some 49),none,(.call false 43 [(.t 44),(.t 48)])⟩,[]⟩,⟨⟨(some 37),none,(.mv (.t 49))⟩,[]⟩,⟨⟨(some 50),none,(.ext (.t 37) 0)⟩,[]⟩,⟨⟨(some 51),none,(.ext (.t 37) 1)⟩,[]⟩,⟨⟨(some 10),none,(.mv (.t 50))⟩,[]⟩] [] [] [⟨(some 11),none,(.mv (.t 51))⟩] [4,8,10,11]) (.seq (.seq (.reg [⟨(some 52),none,(.mv (.t 11))⟩,⟨(some 53),none,(.fV (.t 52))⟩,⟨(some 54),none,(.mv (.k (.one (.f (.int .i64 0)))))⟩] [4,8,10,52,53,54]) (.block 0 (.loop [4,8,10,52,53,54] [20201,20205,20208,100000,180000,530002,530004,530006,530008,530010,530012,530014,530016,530202,530204,530206,530208,530210,530212,530214,530216,530402,530404,530406,530408,530410,530412,530414,530416,530602,530604,530606,530608,530610,530612,530614,530616,530802,530804,530806,530808,530810,530812,530814,530816,531002,531004,531006,531008,531010,531012,531014,531016,1000200,1002200] [] (.seq (.reg [⟨(some 55),none,(.cmp .lt (.t 54) (.t 53))⟩] [4,8,10,52,53,54,55]) (.seq (.cond (.t 55) .skip (.exit 0)) (.seq (.block 1 (.seq (.reg [⟨(some 56),none,(.ia 3 (.t 52) (.t 54))⟩,⟨(some 57),none,(.load 3 true (.t 56))⟩,⟨(some 13),none,(.alloc 24 [(.f (.str ⟨#[]⟩)),(.f (.int .i64 0)),(.f (.int .i64 0))])⟩,⟨none,none,(.store 3 (.t 13) (.t 57))⟩] [4,8,10,13,52,53,54]) (.sG [⟨⟨(some 58),none,(.load 1 false (.t 4))⟩,[]⟩,⟨⟨(some 59),none,(.mq (.t 58))⟩,[]⟩,⟨⟨(some 60),none,(.fa 1 (.t 59))⟩,[]⟩,⟨⟨(some 61),none,(.load 1 false (.t 60))⟩,[]⟩,⟨⟨(some 62),none,(.load 3 true (.t 13))⟩,[]⟩] [] [] [⟨none,none,(.del (.agg [.str,(.int .i64),(.int .i64)]) (.t 61) (.t 62))⟩] [4,8,10,52,53,54]))) (.reg [⟨(some 63),none,(.ar .add (.t 54) (.k (.one (.f (.int .i64 1)))))⟩,⟨(some 54),none,(.mv (.t 63))⟩] [4,8,10,52,53,54]))))))) (.seq (.reg [⟨(some 64),none,(.load 1 false (.t 4))⟩,⟨(some 65),none,(.mv (.t 10))⟩,⟨(some 66),none,(.mq (.t 64))⟩,⟨(some 67),none,(.fa 2 (.t 66))⟩,⟨none,none,(.store 1 (.t 67) (.t 65))⟩] [4,8]) (.seq (.reg [⟨none,none,(.store 1 (.t 8) (.k (.one (.f (.int .i64 0)))))⟩] [4,8]) .ret))))))
def MZ : CF:=⟨4,[(.cell 8 1 false)],[],[],.skip⟩
def cDf : CF:=⟨2,[],[],[],(.seq (.reg [⟨(some 2),none,(.load 1 false (.t 0))⟩,⟨(some 3),none,(.cmp .eq (.t 2) (.k (.one (.f (.int .i64 0)))))⟩] [0,1,3]) (.cond (.t 3) (.reg [⟨(some 4),none,(.load 1 false (.t 1))⟩,⟨(some 5),none,(.mq (.t 4))⟩,⟨(some 6),none,(.fa 3 (.t 5))⟩,⟨(some 7),none,(.load 1 false (.t 6))⟩,⟨(some 8),none,(.ar .add (.t 7) (.k (.one (.f (.int .i64 1)))))⟩,⟨(some 9),none,(.mq (.t 4))⟩,⟨(some 10),none,(.fa 3 (.t 9))⟩,⟨none,none,(.store 1 (.t 10) (.t 8))⟩] [0]) .skip))⟩
noncomputable abbrev wh (ext:Env) (F n:Nat):List AV → Option (List AV × List AV):=MG (G ext F n) F pA pB 21 (Dcl (G ext F n) F cDf.body 8 4) MZ
theorem M0 (now:Int) (x:Se) (r:Int):wh ext F (n + 9) [.one .iw,vi now,x.v,vi r] = some ([vi 1],[.one .iw,vi now,x.v,vi r]):=by
 refine LY ?_
 have hu:=fun n=>yL (ext:=ext) (F:=F) (n:=n) now x.ttl
 have hm:=fun n=>Mw (ext:=ext) (F:=F) (n:=n) now (x.it (eO now x.ttl) r)
 simp only [wh,pA,pB,MZ,cDf,hu,hm,Int.reduceEq,go_sem,Nat.reduceAdd,Nat.reduceMul,Nat.reduceEqDiff,Nat.reduceBEq,Nat.reduceMod,Nat.reduceDiv,↓reduceIte,reduceCtorEq]
theorem M4 (T:θ.Ok ext) (C:nS ext) (s:Sv) (now:Int) (x:Se) (r:Int) (hF:200000000000001 ≤ F) (h1:0 ≤ s.room ∧ s.room ≤ 1000000) (h2:0 ≤ s.ch ∧ s.ch ≤ 1000000000000) (h3:s.o.length ≤ 100000) (h4:x.q.size ≤ 1000000) (h5:x.d.length ≤ 1000000) (h6:∀ y ∈ x.d,y.size ≤ 1000000):wh ext F (n + 9) [s.v,vi now,x.v,vi r] = some ([vi (rZ θ s now x r).2],[(rZ θ s now x r).1.v,vi now,x.v,vi r]):=by
 refine LY ?_
 have hu:=fun n=>yL (ext:=ext) (F:=F) (n:=n) now x.ttl
 have hm:=fun n=>V3 (F:=F) (n:=n) T s now (x.it (eO now x.ttl) r) hF h4 h5 h6
 by_cases h0:Ej θ s now (x.it (eO now x.ttl) r) = 0
 ·have hw:IntKind.i64.wrap (s.ch + 1) = s.ch + 1:=zT (by omega) (by omega)
  have hcl:=fun n=>Ei (ext:=ext) (F:=F) (n:=n) C (x.it (eO now x.ttl) r) h5
  have hq:=@qD s.o x.k
  have ht:=fun n=>Eh (ext:=ext) (F:=F) (n:=n) C s.o x.k (by omega) hF
  have hc:=fun n=>Mt (ext:=ext) (F:=F) (n:=n) C (zV s.o x.k ++ [x.k]) s.room (by simp;omega) (by omega) hF
  have hup:=yN s.m (x.it (eO now x.ttl) r)
  simp only [kq,rI] at hup
  rw [h0] at hm
  have he:rZ θ s now x r = (⟨s.room,((zV s.o x.k ++ [x.k]).take ((zV s.o x.k ++ [x.k]).length - s.room.toNat)).foldl rid (upd s.m (x.it (eO now x.ttl) r)),(zV s.o x.k ++ [x.k]).drop ((zV s.o x.k ++ [x.k]).length - s.room.toNat),s.ch + 1⟩,0):=by
   unfold rZ
   simp only [ne_eq,h0,not_true_eq_false,if_false]
  rw [he]
  generalize YF:zV s.o x.k ++ [x.k] = t at ht hc ⊢
  generalize t.drop (t.length - s.room.toNat) = td at hc ⊢
  generalize htt:t.take (t.length - s.room.toNat) = tt at hc ⊢
  have htl:tt.length ≤ 1000000:=by rw [← htt,List.length_take,← YF,List.length_append,List.length_singleton];omega
  generalize hM:upd s.m (x.it (eO now x.ttl) r) = M at hup ⊢
  simp only [wh,pA,pB,MZ,cDf,hu,hm,Int.reduceEq,hcl,ht,hc,hup,hw,go_sem,Nat.reduceAdd,Nat.reduceMul,Nat.reduceEqDiff,Nat.reduceBEq,Nat.reduceMod,Nat.reduceDiv,↓reduceIte,reduceCtorEq]
  refine jZ tt.length (fun i=>⟨[(4,PV.c (CV.one (PL.ptr 100000 0))),(8,PV.c (CV.one (PL.ptr 180000 0))),(10,PV.c (CV.one (PL.f (FV.sl (List.map rQ td))))),(52,PV.c (CV.one (PL.f (FV.sl (List.map rQ tt))))),(53,PV.c (CV.one (PL.f (FV.int IntKind.i64 ↑(List.map rQ tt).length)))),(54,PV.c (CV.one (PL.f (FV.int IntKind.i64 i))))],[(20201,Ob.iV [PL.f (FV.int IntKind.i64 s.room),PL.mp 530004,PL.f (FV.sl (List.map rQ s.o)),PL.f (FV.int IntKind.i64 s.ch)]),(100000,Ob.iV [PL.ptr 20201 0]),(180000,Ob.iV [PL.f (FV.int IntKind.i64 0)]),(530004,Ob.map Dr (((tt.take i).foldl rid M).map ent))]⟩) (fun _=>True) (by omega) rfl trivial (fun i hi _=>?_) (fun _=>?_)
  ·obtain ⟨k,hx,hlt,hit,h00⟩:=at_ hi
   have hn':=nx hi (by omega)
   have hdl:=yM ((tt.take i).foldl rid M) k
   have hfo:(tt.take (i + 1)).foldl rid M = rid ((tt.take i).foldl rid M) k:=by rw [List.take_add_one,hx,List.foldl_append];rfl
   simp only [List.length_map,List.getElem?_map,hlt,hx,hit,h00,hn',rQ,hdl,go_sem,Nat.reduceAdd,Nat.reduceMul,Nat.reduceEqDiff,Nat.reduceBEq,Nat.reduceMod,Nat.reduceDiv,↓reduceIte,reduceCtorEq]
   rw [hfo]
  ·have hd:=@end_ _ tt
   simp only [List.length_map,hd,hw,List.take_length,Int.reduceEq,go_sem,Nat.reduceAdd,Nat.reduceMul,Nat.reduceEqDiff,Nat.reduceBEq,Nat.reduceMod,Nat.reduceDiv,↓reduceIte,reduceCtorEq]
   done
 ·have he:rZ θ s now x r = (s,Ej θ s now (x.it (eO now x.ttl) r)):=by
   unfold rZ
   simp only [ne_eq,h0,not_false_eq_true,if_true]
  rw [he]
  simp only [wh,pA,pB,MZ,cDf,hu,hm,Int.reduceEq,h0,go_sem,Nat.reduceAdd,Nat.reduceMul,Nat.reduceEqDiff,Nat.reduceBEq,Nat.reduceMod,Nat.reduceDiv,↓reduceIte,reduceCtorEq]
end Go.Proofs.Ytfokaoeinpnagaa.Kc
namespace Go.Proofs.Ytfokaoeinpnagaa.Ev
open Go
def Gv (P:Program):List Field → Nat → Bool
 | [],_=>true
 | f :: fs,i=>(f.name != "_") && (f.offset == i) && (FB P f.type).isSome && Gv P fs (i + 1)
def okT (P:Program) (t:TypeId):Bool:=!P.eqGuardType P.depth t && match P.underlying t with
 | some (.struct fs)=>!P.stoodInHeld t && Gv P fs.toList 0
 | some (.int _)=>true
 | some .string=>true
 | some .bool=>true
 | _=>false
section
variable {P : Program} {t:TypeId} {w:World}
theorem vC {k:SK} (h:FB P t = some k):(∃ i,P.underlying t = some (.int i) ∧ k = .int i) ∨ (P.underlying t = some .bool ∧ k = .bool) ∨ (P.underlying t = some .string ∧ k = .str):=by
 unfold FB at h
 split at h <;> simp_all
theorem TP {d:Nat} {k:SK} (h:FB P t = some k) {a b:SV} (ha:a.sk = k) (hb:b.sk = k):(Op.equalIn (d + 1) t (encS a) (encS b)).run P w = .ok (decide (a = b)) w:=by
 rcases vC h with ⟨i,hu,rfl⟩ | ⟨hu,rfl⟩ | ⟨hu,rfl⟩
 ·cases a <;> cases b <;> simp_all [SV.sk,encS,Op.equalIn,run_underlying hu]
  rw [Bool.eq_iff_iff];simp
 ·cases a <;> cases b <;> simp_all [SV.sk,encS,Op.equalIn,run_underlying hu]
  rw [Bool.eq_iff_iff];simp
 ·cases a <;> cases b <;> simp_all [SV.sk,encS,Op.equalIn,run_underlying hu]
  exact Mq.uS _ _
theorem Ct {k:SK} (h:FB P t = some k) {xs:Array Value} {o:Nat} {v:Value} (hx:xs[o]? = some v):(part t xs o).run P w = .ok v w:=by
 rcases vC h with ⟨i,hu,rfl⟩ | ⟨hu,rfl⟩ | ⟨hu,rfl⟩ <;> simp [part,isAgg,run_underlying hu,hx]
theorem AO {d:Nat} {xs ys:Array Value}:∀ {fs:List Field} {i:Nat} {ks:List SK} {ZZ9 bs:List SV},Gv P fs i = true → Jy P fs = some ks → ZZ9.map SV.sk = ks → bs.map SV.sk = ks → (∀ j:Nat,xs[i + j]? = ZZ9[j]?.map encS) → (∀ j:Nat,ys[i + j]? = bs[j]?.map encS) →
  (Op.eqFields (d + 1) xs ys fs).run P w = .ok (decide (ZZ9 = bs)) w
 | [],i,ks,ZZ9,bs,_,hk,ha,hb,_,_=>by
  cases hk
  simp only [List.map_eq_nil_iff] at ha hb
  subst ha;subst hb
  simp [Op.eqFields]
 | f :: fs,i,ks,ZZ9,bs,hf,hk,ha,hb,hx,hy=>by
  obtain ⟨k,h1,h2⟩:=zbm hk
  obtain ⟨l,h3,rfl⟩:=zmm h2
  unfold Gv at hf
  simp only [Bool.and_eq_true,bne_iff_ne,ne_eq,beq_iff_eq] at hf
  obtain ⟨⟨⟨f1,f2⟩,f3⟩,f4⟩:=hf
  cases ZZ9 with
  | nil=>simp at ha
  | cons a ZZ9 =>
  cases bs with
  | nil=>simp at hb
  | cons b bs =>
  simp only [List.map_cons,List.cons.injEq] at ha hb
  have ex:xs[f.offset]? = some (encS a):=by rw [f2];simpa using hx 0
  have ey:ys[f.offset]? = some (encS b):=by rw [f2];simpa using hy 0
  have ih:=AO (d:=d) f4 h3 ha.2 hb.2 (fun j=>by have:=hx (j + 1);rw [show i + 1 + j = i + (j + 1) from by omega];simpa using this) (fun j=>by have:=hy (j + 1);rw [show i + 1 + j = i + (j + 1) from by omega];simpa using this)
  unfold Op.eqFields
  rw [if_pos f1]
  simp only [Sem.run_bind,Ct h1 ex,Ct h1 ey,Result.andThen_ok,TP h1 ha.1 hb.1,List.cons.injEq]
  by_cases hab:a = b
  ·subst hab;simp [ih]
  ·simp [hab]
theorem Qj {e:Bool} {n:Nat} {k:SK} (h:FB P t = some k) {a:SV} (ha:a.sk = k):(Instr.checkKey e (n + 1) t (encS a)).run P w = .ok () w:=by
 rcases vC h with ⟨i,hu,rfl⟩ | ⟨hu,rfl⟩ | ⟨hu,rfl⟩ <;> cases a <;> simp_all [SV.sk,encS,Instr.checkKey,run_underlying hu]
theorem Ey {e:Bool} {n:Nat} {cs:Array Value}:∀ {fs:List Field} {i:Nat} {ks:List SK} {ZZ9:List SV},Gv P fs i = true → Jy P fs = some ks → ZZ9.map SV.sk = ks → (∀ j:Nat,cs[i + j]? = ZZ9[j]?.map encS) →
  (forIn fs PUnit.unit (fun (f:Field) (_:PUnit)=>(do
   if f.name ≠ "_" then Instr.checkKey e (n + 1) f.type (← part f.type cs f.offset)
   pure (ForInStep.yield PUnit.unit):Sem (ForInStep PUnit)))).run P w = .ok PUnit.unit w
 | [],i,ks,ZZ9,_,_,_,_=>by simp
 | f :: fs,i,ks,ZZ9,hf,hk,ha,hx=>by
  obtain ⟨k,h1,h2⟩:=zbm hk
  obtain ⟨l,h3,rfl⟩:=zmm h2
  unfold Gv at hf
  simp only [Bool.and_eq_true,bne_iff_ne,ne_eq,beq_iff_eq] at hf
  obtain ⟨⟨⟨f1,f2⟩,f3⟩,f4⟩:=hf
  cases ZZ9 with
  | nil=>simp at ha
  | cons a ZZ9 =>
  simp only [List.map_cons,List.cons.injEq] at ha
  have ex:cs[f.offset]? = some (encS a):=by rw [f2];simpa using hx 0
  have ih:=Ey (e:=e) (n:=n) f4 h3 ha.2 (fun j=>by have:=hx (j + 1);rw [show i + 1 + j = i + (j + 1) from by omega];simpa using this)
  rw [List.forIn_cons]
  simp only [if_pos f1,Sem.run_bind,Ct h1 ex,Result.andThen_ok,Qj h1 ha.1,Sem.run_pure]
  exact ih
theorem Qk {e:Bool} {n:Nat} {fs:Array Field} {ks:List SK} {ZZ9:List SV} (hu:P.underlying t = some (.struct fs)) (hf:Gv P fs.toList 0 = true) (hk:Jy P fs.toList = some ks) (ha:ZZ9.map SV.sk = ks):(Instr.checkKey e (n + 2) t (.agg (ZZ9.map encS).toArray)).run P w = .ok () w:=by
 have:=Ey (w:=w) (e:=e) (n:=n) hf hk ha (cs:=(ZZ9.map encS).toArray) (fun j=>by simp)
 unfold Instr.checkKey
 simp only [Sem.run_bind,run_underlying hu,Result.andThen_ok]
 rw [← Array.forIn_toList]
 simp only [ne_eq,ite_not] at this ⊢
 simp at this ⊢
 rw [this]
 rfl
theorem Ql {n:Nat} {ZZ9:List SV} (hs:∀ (n:Nat) (a:SV),Instr.sameBits n (encS a) (encS a) = true):Instr.sameBits (n + 1) (.agg (ZZ9.map encS).toArray) (.agg (ZZ9.map encS).toArray) = true:=by
 unfold Instr.sameBits
 simp only [beq_self_eq_true,Bool.true_and,List.all_eq_true]
 intro p hp
 have:∀ (l:List Value) (p:Value × Value),p ∈ l.zip l → p.1 = p.2 ∧ p.1 ∈ l:=by
  intro l
  induction l with
  | nil=>intro p hp;simp at hp
  | cons x l ih =>
   intro p hp
   rcases List.mem_cons.mp hp with rfl | hp
   ·exact ⟨rfl,by simp⟩
   ·exact ⟨(ih p hp).1,List.mem_cons_of_mem _ (ih p hp).2⟩
 obtain ⟨h1,h2⟩:=this _ _ hp
 obtain ⟨x,y⟩:=p
 simp only at h1 h2
 subst h1
 simp only [List.mem_map] at h2
 obtain ⟨s,_,rfl⟩:=h2
 exact hs _ s
theorem Ir {n:Nat} (a:SV):Instr.sameBits n (encS a) (encS a) = true:=by
 cases a <;> simp [encS,Instr.sameBits]
 rw [Mq.uS];simp
theorem Ez {ks:List SK} {a:KV} (h:a.ks = .agg ks):∃ ZZ9,a = .agg ZZ9 ∧ ZZ9.map SV.sk = ks:=by
 cases a with
 | one x=>cases h
 | agg ZZ9=>exact ⟨ZZ9,rfl,by simpa [KV.ks] using h⟩
theorem AP {k:SK} {a:KV} (h:a.ks = .one k):∃ x,a = .one x ∧ x.sk = k:=by
 cases a with
 | one x=>exact ⟨x,rfl,by simpa [KV.ks] using h⟩
 | agg ZZ9=>cases h
theorem Qm {n:Nat} {d:TypeDesc} (hu:P.underlying t = some d) (hd:∀ ms,d ≠ .interface ms):(Op.eqGuardIn (n + 1) t .nilIface .nilIface).run P w = .ok false w:=by
 unfold Op.eqGuardIn
 simp only [Sem.run_bind,run_underlying hu,Result.andThen_ok]
 cases d <;> first | rfl | exact absurd rfl (hd _)
theorem Cu {d:TypeDesc} (hu:P.underlying t = some d) (hd:∀ ms,d ≠ .interface ms) (w:World):(Op.eqGuardIn Op.maxDepth t .nilIface .nilIface).run P w = .ok false w:=by
 unfold Op.maxDepth
 exact Qm hu hd
set_option maxHeartbeats 2000000 in
theorem Wi (h:okT P t = true):lK P t:=by
 unfold okT at h
 rw [Bool.and_eq_true] at h
 obtain ⟨hg,h⟩:=h
 have hg':P.eqGuardType P.depth t = false:=by simpa using hg
 have gd:(∀ w,(Op.eqGuardIn Op.maxDepth t .nilIface .nilIface).run P w = .ok false w) → ∀ op x y,∀ (a b:Value) (w:World),(eqGuard op t x y a b).run P w = .ok () w:=by
  intro hn op x y a b w
  have key:(Sem.run P (match a,b with
   | .nilIface,.nilIface=>do
    if (x matches .const _) || (y matches .const _) then return
    if ← Op.eqGuardIn Op.maxDepth t a b then unsupported (.noEntry "binop/eql: two nil values of an interface type with methods, neither of them the literal nil")
   | .agg _,.agg _=>do
    if !(← program).eqGuardType (← program).depth t then return
    if ← Op.eqGuardIn Op.maxDepth t a b then unsupported (.noEntry "binop/eql: two nil values of an interface type with methods, in a part of a struct or an array")
   | _,_=>pure ()) w) = .ok () w:=by
   cases a <;> cases b <;> first | rfl | (simp only [Sem.run_bind,run_program,Result.andThen_ok,hg'];rfl) | skip
   cases x <;> cases y <;> first | rfl | simp [hn]
  unfold eqGuard
  split
  ·exact key
  ·exact key
  ·rfl
 cases hu:P.underlying t with
 | none=>rw [hu] at h;cases h
 | some d =>
  rw [hu] at h
  have sc:∀ k,FB P t = some k → xX P t = some (.one k) → (∀ w,(Op.eqGuardIn Op.maxDepth t .nilIface .nilIface).run P w = .ok false w) → (∀ a:SV,a.sk = k → MapKept.IsKey d (encS a)) → (∀ a b:SV,a.sk = k → b.sk = k → Instr.sameNow d (encS a) (encS b) = some (decide (a = b))) → lK P t:=by
   intro k hk hks hn h1 h2
   have hcase:∀ {sh},xX P t = some sh → sh = .one k:=fun e=>by rw [hks] at e;cases e;rfl
   refine ⟨fun sh e=>?_,fun sh e a b w ha hb=>?_,gd hn⟩
   ·obtain rfl:=hcase e
    refine Mq.Key.OM hu (fun a ha=>?_) (fun a b ha hb=>?_) (fun a ha=>?_)
    ·obtain ⟨x,rfl,hx⟩:=AP ha;exact h1 x hx
    ·obtain ⟨x,rfl,hx⟩:=AP ha
     obtain ⟨y,rfl,hy⟩:=AP hb
     simp only [nO,KV.one.injEq]
     exact h2 x y hx hy
    ·obtain ⟨x,rfl,hx⟩:=AP ha;exact Ir x
   ·obtain rfl:=hcase e
    obtain ⟨x,rfl,hx⟩:=AP ha
    obtain ⟨y,rfl,hy⟩:=AP hb
    simp only [nO,KV.one.injEq]
    unfold Op.equal Op.maxDepth
    exact TP hk hx hy
  cases d with
  | int i =>
   refine sc (.int i) (by simp [FB,hu]) (by simp [xX,FB,hu]) (Cu hu (fun _ h=>by cases h)) (fun a ha=>?_) (fun a b ha hb=>?_)
   ·cases a <;> simp_all [SV.sk,encS,MapKept.IsKey]
   ·cases a <;> cases b <;> simp_all [SV.sk,encS,Instr.sameNow]
    rw [Bool.eq_iff_iff];simp
  | bool =>
   refine sc .bool (by simp [FB,hu]) (by simp [xX,FB,hu]) (Cu hu (fun _ h=>by cases h)) (fun a ha=>?_) (fun a b ha hb=>?_)
   ·cases a <;> simp_all [SV.sk,encS,MapKept.IsKey]
   ·cases a <;> cases b <;> simp_all [SV.sk,encS,Instr.sameNow]
    rw [Bool.eq_iff_iff];simp
  | string =>
   refine sc .str (by simp [FB,hu]) (by simp [xX,FB,hu]) (Cu hu (fun _ h=>by cases h)) (fun a ha=>?_) (fun a b ha hb=>?_)
   ·cases a <;> simp_all [SV.sk,encS,MapKept.IsKey]
   ·cases a <;> cases b <;> simp_all [SV.sk,encS,Instr.sameNow]
    exact Mq.uS _ _
  | struct fs =>
   simp only [Bool.and_eq_true,Bool.not_eq_true'] at h
   have hcase:∀ {sh},xX P t = some sh → ∃ ks,Jy P fs.toList = some ks ∧ sh = .agg ks:=fun e=>by
    unfold xX at e
    rw [hu] at e
    obtain ⟨ks,h1,h2⟩:=zmm e
    exact ⟨ks,h1,h2.symm⟩
   have idx:∀ (ZZ9:List SV) (j:Nat),((ZZ9.map encS).toArray)[0 + j]? = ZZ9[j]?.map encS:=fun ZZ9 j=>by simp
   have heq:∀ sh,xX P t = some sh → ∀ (a b:KV) (w:World),a.ks = sh → b.ks = sh → (Op.equal t (nO a) (nO b)).run P w = .ok (decide (a = b)) w:=by
    intro sh e a b w ha hb
    obtain ⟨ks,hks,rfl⟩:=hcase e
    obtain ⟨ZZ9,rfl,ha1⟩:=Ez ha
    obtain ⟨bs,rfl,hb1⟩:=Ez hb
    have hf:P.fieldsOf t = fs:=by simp [Program.fieldsOf,hu]
    unfold Op.equal Op.maxDepth
    simp only [nO,KV.agg.injEq]
    rw [run_equalIn_struct (P:=P) w _ t _ _ (by rw [hf];exact hu) h.1,hf]
    exact AO h.2 hks ha1 hb1 (idx ZZ9) (idx bs)
   refine ⟨fun sh e=>?_,heq,gd (Cu hu (fun _ h=>by cases h))⟩
   ·obtain ⟨ks,hks,rfl⟩:=hcase e
    refine Mq.Key.KY hu (fun e' a w ha=>?_) (fun a b w ha hb=>heq _ e a b w ha hb) (fun a ha=>?_) (fun a ha=>?_)
    ·obtain ⟨ZZ9,rfl,ha1⟩:=Ez ha
     exact Qk (n:=9998) hu h.2 hks ha1
    ·obtain ⟨ZZ9,rfl,ha1⟩:=Ez ha
     exact Ql (n:=9999) (fun n a=>Ir a)
    ·obtain ⟨ZZ9,rfl,ha1⟩:=Ez ha
     exact ⟨_,rfl⟩
  | _=>simp at h
end
end Go.Proofs.Ytfokaoeinpnagaa.Ev
set_option maxRecDepth 100000
namespace Go.Proofs.Ytfokaoeinpnagaa.Kc
open Go Go.RowKit Go.Proofs Ev
theorem eqs : ∀ t ∈ [3,9,24],lK Try.prog t:=by
 intro t ht
 simp only [List.mem_cons,List.not_mem_nil,or_false] at ht
 rcases ht with rfl | rfl | rfl <;> exact Wi (by kernel_rfl)
theorem mixed : Try.prog.follows .mixedOrders = true:=by kernel_rfl
theorem Qo : iN Try.prog fun _ _=>none:=fun f fK rs rY h=>by cases h
theorem JW : eD Try.prog fun _ _=>none:=fun f fK r h=>by cases h
def Wj : CF:=⟨1,[(.t 2)],[],[],(.seq (.reg [⟨(some 2),none,(.mv (.k (.one .dN)))⟩] [0]) (.seq (.seq (.reg [⟨(some 3),none,(.mv (.t 0))⟩,⟨(some 4),none,(.Bu false (.t 3))⟩] [0,4]) (.cond (.t 4) (.seq (.reg [⟨(some 2),none,(.mv (.k (.one .dN)))⟩] [2]) .ret) .skip)) (.seq (.reg [⟨(some 5),none,(.xk 9 1 0 [] [])⟩,⟨(some 6),none,(.mv (.t 0))⟩,⟨(some 7),none,(.app 9 1 16 (.t 5) (.t 6))⟩,⟨(some 2),none,(.mv (.t 7))⟩] [2]) .ret)))⟩
def Wm : CF:=⟨1,[(.t 2)],[some 3],[],(.seq (.reg [⟨(some 2),none,(.mv (.k (.one .dN)))⟩] [0]) (.seq (.seq (.reg [⟨(some 3),none,(.mv (.t 0))⟩,⟨(some 4),none,(.Bu false (.t 3))⟩] [0,4]) (.cond (.t 4) (.seq (.reg [⟨(some 2),none,(.mv (.k (.one .dN)))⟩] [2]) .ret) .skip)) (.seq (.reg [⟨(some 5),none,(.xk 24 3 0 [] [])⟩,⟨(some 6),none,(.mv (.t 0))⟩,⟨(some 7),none,(.app 24 3 32 (.t 5) (.t 6))⟩,⟨(some 2),none,(.mv (.t 7))⟩] [2]) .ret)))⟩
theorem Qp {f:FuncId} {cf:CF} {Γ:Env} (h:kT Try.prog f cf) (h1:iN Try.prog Γ) (h2:eD Try.prog Γ) (F:Nat):Sat Try.prog f (KL Γ F cf):=by
 obtain ⟨fn,c,X,hints,rest,e1,_,e2,e3,e4,e5,e6⟩:=h.ok
 exact AA mixed e3 h1 h2 e1 e2 e4 e5 e6 F
theorem Qq : kT Try.prog 68 Wj:=⟨Try.f68,_,⟨[3,9,24],[],[],[85]⟩,[⟨[0],[],[]⟩,⟨[0,4],[],[]⟩,⟨[2],[],[]⟩,⟨[2],[],[]⟩],[],by kernel_rfl,by kernel_rfl,rfl,eqs,by kernel_rfl,by kernel_rfl,by decide⟩
theorem Qr : kT Try.prog 45 Wm:=⟨Try.f45,_,⟨[3,9,24],[],[],[85]⟩,[⟨[0],[],[]⟩,⟨[0,4],[],[]⟩,⟨[2],[],[]⟩,⟨[2],[],[]⟩],[],by kernel_rfl,by kernel_rfl,rfl,eqs,by kernel_rfl,by kernel_rfl,by decide⟩
theorem Qs (r:List FV) (l:List (List FV)) (h:l.length < 1000000) (hl:(r :: l).all (fun r=>r.length == 1) = true):KL (fun _ _=>none) 10 Wj [vl (r :: l)] = some ([vl (r :: l)],[vl (r :: l)]):=by
 refine LY ?_
 rw [List.all_cons,Bool.and_eq_true] at hl
 simp only [Wj,hl.1,hl.2,List.all_cons,go_sem,Nat.reduceAdd,Nat.reduceMul,Nat.reduceEqDiff,Nat.reduceBEq,Nat.reduceMod,Nat.reduceDiv,↓reduceIte,reduceCtorEq]
 omega
theorem Qt (r:List FV) (l:List (List FV)) (h:l.length < 1000000) (hl:(r :: l).all (fun r=>r.length == 3) = true):KL (fun _ _=>none) 10 Wm [vl (r :: l)] = some ([.one (.own 3 (r :: l))],[vl (r :: l)]):=by
 refine LY ?_
 rw [List.all_cons,Bool.and_eq_true] at hl
 simp only [Wm,hl.1,hl.2,List.all_cons,go_sem,Nat.reduceAdd,Nat.reduceMul,Nat.reduceEqDiff,Nat.reduceBEq,Nat.reduceMod,Nat.reduceDiv,↓reduceIte,reduceCtorEq]
 omega
theorem xC {t e:TypeId} (hu:Try.prog.underlying t = some (.slice e)) (p:Option Addr) (c:Nat) (w:World):(binOp .eql t (.slice p 0 c) (.slice none 0 0)).run Try.prog w = .ok (.bool p.isNone) w:=by
 have:=run_equal_slice_nil w t e p 0 c hu
 simp only [binOp,Sem.run_bind,this,Result.andThen_ok,Sem.run_pure]
theorem EA {t ty e:TypeId} {i:TypeInfo} (hu:Try.prog.underlying t = some (.slice e)) (hi:Try.prog.info? e = some i) (a b:Addr) (c:Nat) (w:World):(Builtin.append_ #[t,t] ty #[.slice (some b) 0 0,.slice (some a) 0 c]).run Try.prog w = .ok (.slice (some b) 0 0) w:=by
 have h1:∀ w,(Builtin.lenOf (.slice (some a) 0 c)).run Try.prog w = .ok 0 w:=fun _=>rfl
 have h2:=fun w=>run_firstCells_some (P:=Try.prog) w i.size 0 a 0 c [] (by simp) (by simp)
 simp [Builtin.append_,run_underlying hu,sizeOf,typeInfo,hi,storeCells,h1,h2]
theorem M5 (c:Nat) (w:World):Calls Try.prog 68 #[.slice none 0 c] w fun e w'=>e = .returned (.slice none 0 0) ∧ w' = w:=by
 have heq:=xC (t:=25) (e:=9) (by kernel_rfl) none c
 go_enter Try.func68,Try.ntmps68
 go_wp2
 go_ret
 exact ⟨rfl,rfl⟩
theorem M6 (a:Addr) (c:Nat) (w:World):Calls Try.prog 68 #[.slice (some a) 0 c] w fun e w'=>e = .returned (.slice (some ⟨w.heap.size,0,none⟩) 0 0) ∧ w' = w.alloc (.cells #[] 9):=by
 have heq:=xC (t:=25) (e:=9) (by kernel_rfl) (some a) c
 obtain ⟨i,hi⟩:=Option.isSome_iff_exists.mp (show (Try.prog.info? 9).isSome = true by kernel_rfl)
 have hap:=fun b w=>EA (t:=25) (ty:=25) (e:=9) (by kernel_rfl) hi a b c w
 go_enter Try.func68,Try.ntmps68
 go_wp2
 go_ret
 exact ⟨rfl,rfl⟩
theorem M7 (c:Nat) (w:World):Calls Try.prog 45 #[.slice none 0 c] w fun e w'=>e = .returned (.slice none 0 0) ∧ w' = w:=by
 have heq:=xC (t:=41) (e:=24) (by kernel_rfl) none c
 go_enter Try.func45,Try.ntmps45
 go_wp2
 go_ret
 exact ⟨rfl,rfl⟩
theorem M8 (a:Addr) (c:Nat) (w:World):Calls Try.prog 45 #[.slice (some a) 0 c] w fun e w'=>e = .returned (.slice (some ⟨w.heap.size,0,none⟩) 0 0) ∧ w' = w.alloc (.cells #[] 24):=by
 have heq:=xC (t:=41) (e:=24) (by kernel_rfl) (some a) c
 obtain ⟨i,hi⟩:=Option.isSome_iff_exists.mp (show (Try.prog.info? 24).isSome = true by kernel_rfl)
 have hap:=fun b w=>EA (t:=41) (ty:=41) (e:=24) (by kernel_rfl) hi a b c w
 go_enter Try.func45,Try.ntmps45
 go_wp2
 go_ret
 exact ⟨rfl,rfl⟩
def Qu (sz:Nat) (own:Bool) (fK:List AV):Option (List AV × List AV):=match fK with
 | [.one (.f (.sl rows))]=>if rows.length ≤ 1000000 ∧ rows.all (fun r=>r.length == sz) = true then some ([.one (if own then .own sz rows else .f (.sl rows))],fK) else none
 | _=>none
theorem Gw (w:World) (o:Obj):w.heap.size ≤ (w.alloc o).heap.size ∧ (∀ b,b < w.heap.size → (w.alloc o).heap[b]? = w.heap[b]?) ∧ (w.alloc o).heap[w.heap.size]? = some o ∧ (w.alloc o).heap.size = w.heap.size + 1:=by
 obtain ⟨h1,h2,h3⟩:=nP w o
 exact ⟨by omega,h2,h1,h3⟩
theorem Iu {f:FuncId} {cf:CF} {sz e:Nat} {own:Bool} (h0:0 < sz) (he:kT Try.prog f cf) (hrun:∀ (r:List FV) (l:List (List FV)),l.length < 1000000 → (r :: l).all (fun r=>r.length == sz) = true → KL (fun _ _=>none) 10 cf [vl (r :: l)] = some ([.one (if own then .own sz (r :: l) else .f (.sl (r :: l)))],[vl (r :: l)]))
  (hn:∀ (c:Nat) (w:World),Calls Try.prog f #[.slice none 0 c] w fun e w'=>e = .returned (.slice none 0 0) ∧ w' = w)
  (hs:∀ (a:Addr) (c:Nat) (w:World),Calls Try.prog f #[.slice (some a) 0 c] w fun e' w'=>e' = .returned (.slice (some ⟨w.heap.size,0,none⟩) 0 0) ∧ w' = w.alloc (.cells #[] e)):Sat Try.prog f (Qu sz own):=by
 intro fK rs rY hg
 unfold Qu at hg
 split at hg
 ·rename_i rows
  split at hg
  ·rename_i hc
   cases hg
   cases rows with
   | cons r l =>
    exact Qp he Qo JW 10 _ _ _ (hrun r l (by have:=hc.1;simp at this;omega) hc.2)
   | nil =>
    intro Fz w vals bs ha hnd hap hfz
    match vals,ha with
    | [v],⟨b1,b2,h1,h2,e0⟩ =>
    obtain ⟨hv,rfl⟩:=h1
    obtain rfl:b2 = []:=h2
    subst e0
    simp only [fB] at hv
    obtain ⟨A,c,rfl,hle,hbig,_⟩:=hv
    have hrep:∀ (w':World) (v:Value),(∃ A,v = .slice A 0 0) → fB Fz w' (.sl []) v:=fun w' v ⟨A,hA⟩=>by
     simp only [fB];exact ⟨A,0,by rw [hA];rfl,Nat.le_refl _,by simp,.inl trivial⟩
    have hbk:∀ (w':World),fP Fz w' [vl []] [.slice A ([]:List (List FV)).length c] []:=fun w' =>
     ⟨[],[],⟨by simp only [fB];exact ⟨A,c,rfl,hle,hbig,.inl trivial⟩,rfl⟩,rfl,rfl⟩
    cases A with
    | none =>
     refine (hn c w).mono fun e' w' ⟨e1,e2⟩=>?_
     subst e2
     refine ⟨Fz,[.slice none 0 0],[],[],e1,fun _ h=>h,fun b hb=>⟨hfz b hb,.inl hb⟩,Nat.le_refl _,fun _ _ _=>rfl,⟨rfl,rfl⟩,hbk w',?_,by simp,fun b hb=>by simp at hb⟩
     cases own with
     | true=>exact ⟨[],[],⟨h0,0,[],none,0,rfl,World.ownsRow_nil w' _ _ _,rfl,rfl⟩,rfl,rfl⟩
     | false=>exact ⟨[],[],⟨hrep w' _ ⟨none,rfl⟩,rfl⟩,rfl,rfl⟩
    | some a =>
     refine (hs a c w).mono fun e' w' ⟨e1,e2⟩=>?_
     subst e2
     obtain ⟨k1,k2,k3,k4⟩:=Gw w (.cells #[] e)
     cases own with
     | true =>
      refine ⟨Fz,[.slice (some ⟨w.heap.size,0,none⟩) 0 0],[],[w.heap.size],e1,fun _ h=>h,fun b hb=>⟨Nat.lt_of_lt_of_le (hfz b hb) k1,.inl hb⟩,k1,fun b hb _=>k2 b hb,⟨rfl,rfl⟩,hbk _,?_,by simp,fun b hb=>?_⟩
      ·refine ⟨[w.heap.size],[],⟨h0,e,[],_,0,rfl,⟨by simp,.inr ⟨w.heap.size,0,#[],rfl,Nat.zero_le _,k3,Nat.le_refl _,by simp [maxLen],by simp,by simp⟩⟩,rfl,rfl⟩,rfl,rfl⟩
      ·simp at hb
       subst hb
       exact ⟨fun hf=>by have:=hfz _ hf;omega,by omega,.inr (Nat.le_refl _)⟩
     | false =>
      exact ⟨Fz,[.slice (some ⟨w.heap.size,0,none⟩) 0 0],[],[],e1,fun _ h=>h,fun b hb=>⟨Nat.lt_of_lt_of_le (hfz b hb) k1,.inl hb⟩,k1,fun b hb _=>k2 b hb,⟨rfl,rfl⟩,hbk _,⟨[],[],⟨hrep _ _ ⟨_,rfl⟩,rfl⟩,rfl,rfl⟩,by simp,fun b hb=>by simp at hb⟩
  ·cases hg
 ·cases hg
theorem Qv : Sat Try.prog 68 (Qu 1 false):=Iu (by decide) Qq Qs M5 M6
theorem Qw : Sat Try.prog 45 (Qu 3 true):=Iu (by decide) Qr Qt M7 M8
end Go.Proofs.Ytfokaoeinpnagaa.Kc

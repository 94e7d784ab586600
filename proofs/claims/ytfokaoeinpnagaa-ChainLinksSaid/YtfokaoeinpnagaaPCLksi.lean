/- A part of the proof of ChainLinks: cut, joined and given short names by a program of this session (wip/tools/pack.py); Lean checks it. No condition. -/
import Derived.Test.YtfokaoeinpnagaaPCLksh
import Derived.Test.YtfokaoeinpnagaaPCLksf
import Derived.Below
import Derived.Defers
import Derived.Maps.RangeRun
import Derived.Test.YtfokaoeinpnagaaPCLksd
import Derived.Laws.StructEq
import Derived.Test.YtfokaoeinpnagaaProg
import Derived.WalkKit
set_option linter.unusedSectionVars false
set_option linter.unusedSimpArgs false
set_option linter.unusedVariables false
set_option maxRecDepth 4000
namespace Go.Proofs.Ytfokaoeinpnagaa.Kc
open Go Ev
variable {ext : Env} {F n:Nat} {θ:Th}
abbrev Ah : KS:=.agg [.str,.int .i64,.int .i64]
abbrev kq (k:Qn):KV:=.agg [.str k.q,.int .i64 k.t,.int .i64 k.c]
def ent (x:It):KV × FC:=(kq x.k,.agg (rI x))
structure Sv where
 room:Int
 m:List It
 o:List Qn
 ch:Int
abbrev Sv.v (s:Sv):AV:=.one (.ptr [.f (.int .i64 s.room),.mp Ah (s.m.map ent),.f (.sl (s.o.map rQ)),.f (.int .i64 s.ch)])
def ZC : Option Sv → AV
 | some s=>s.v
 | none=>.one .ig
theorem yg (s:Sv):ZC (some s) = s.v:=rfl
theorem LD : ZC none = .one .ig:=rfl
theorem FB {a b:Qn}:kq a = kq b ↔ a = b:=by
 constructor
 ·intro h;simp only [kq,KV.agg.injEq,List.cons.injEq,SV.str.injEq,SV.int.injEq] at h
  cases a;cases b;simp_all
 ·rintro rfl;rfl
theorem mD (l:List It) (k:Qn):vX (l.map ent) (kq k) = l.findIdx? fun x=>decide (x.k = k):=by
 unfold vX
 rw [List.map_map,List.findIdx?_map]
 refine congrArg (fun p=>List.findIdx? p l) (funext fun x=>?_)
 simp only [Function.comp,ent]
 by_cases h:x.k = k
 ·simp [h]
 ·have:¬ kq x.k = kq k:=fun e=>h (FB.mp e)
  simp only [this,h,decide_false]
theorem pz (l:List It) (k:Qn):qZ (l.map ent) (kq k) = (old l k).map fun x=>.agg (rI x):=by
 have hf:old l k = (l.findIdx? fun x=>decide (x.k = k)).bind fun i=>l[i]?:=List.find?_eq_bind_findIdx?_getElem? ..
 unfold qZ
 rw [mD,hf]
 cases l.findIdx? fun x=>decide (x.k = k) with
 | none=>rfl
 | some i=>simp only [Option.bind_some,List.getElem?_map];cases l[i]? <;> rfl
theorem yh (l:List It) (k:Qn):A9 (l.map ent) (kq k) = (rid l k).map ent:=by
 unfold A9 rid
 rw [mD,List.eraseP_eq_eraseIdx]
 cases l.findIdx? fun x=>decide (x.k = k) with
 | none=>rfl
 | some i=>simp [List.eraseIdx_eq_take_drop_succ,List.map_take,List.map_drop]
def upd (l:List It) (x:It):List It:=match l.findIdx? fun y=>decide (y.k = x.k) with
 | some i=>l.set i x
 | none=>l ++ [x]
theorem yj (l:List It) (x:It):vY (l.map ent) (kq x.k) (.agg (rI x)) = (upd l x).map ent:=by
 unfold vY upd
 rw [mD]
 cases l.findIdx? fun y=>decide (y.k = x.k) with
 | none=>simp [ent]
 | some i=>simp [List.map_set,ent]
theorem Vn (room:Int):G ext F (n + 1) 31 [vi room] = some ([ZC (if room < 1 ∨ 1000 < room then none else some ⟨room,[],[],0⟩)],[vi room]):=by
 refine eD (cf:=c31) rfl ?_
 simp only [c31,go_sem,Nat.reduceAdd,Nat.reduceMul,Nat.reduceEqDiff,Nat.reduceBEq,Nat.reduceMod,Nat.reduceDiv,↓reduceIte,reduceCtorEq]
 repeat' (refine dP (fun h=>?_) (fun h=>?_) <;> simp only [h,go_sem,Nat.reduceAdd,Nat.reduceMul,Nat.reduceEqDiff,Nat.reduceBEq,Nat.reduceMod,Nat.reduceDiv,↓reduceIte,reduceCtorEq])
 all_goals (simp only [decide_eq_true_eq,decide_eq_false_iff_not] at *)
 all_goals first | rw [if_pos (by omega)] | rw [if_neg (by omega)]
 all_goals rfl
theorem LG (C:nD ext) (o:Option Sv) (ho:∀ s,o = some s → s.o.length ≤ 1000000):G ext F (n + 2) 23 [ZC o] = some ([vl ((match o with | some s=>s.o | none=>[]).map rQ)],[ZC o]):=by
 refine eD (cf:=c23) rfl ?_
 cases o with
 | none =>
  rw [LD]
  simp only [c23,go_sem,Nat.reduceAdd,Nat.reduceMul,Nat.reduceEqDiff,Nat.reduceBEq,Nat.reduceMod,Nat.reduceDiv,↓reduceIte,reduceCtorEq]
 | some s =>
  rw [yg]
  have h1:=fun n=>G6 (F:=F) (n:=n) C s.o (ho s rfl)
  simp only [c23,h1,go_sem,Nat.reduceAdd,Nat.reduceMul,Nat.reduceEqDiff,Nat.reduceBEq,Nat.reduceMod,Nat.reduceDiv,↓reduceIte,reduceCtorEq]
theorem DL (C:nD ext) (x:It) (hx:x.d.length ≤ 1000000):G ext F (n + 2) 42 [x.v] = some ([x.v],[x.v]):=by
 refine eD (cf:=c42) rfl ?_
 have h1:=fun n=>SF (F:=F) (n:=n) C x.d hx
 simp only [c42,h1,go_sem,Nat.reduceAdd,Nat.reduceMul,Nat.reduceEqDiff,Nat.reduceBEq,Nat.reduceMod,Nat.reduceDiv,↓reduceIte,reduceCtorEq]
def d9 (s:Sv) (now:Int) (k:Qn):It × Bool:=match old s.m k with
 | some x=>if jV now x.u then (x,true) else (it0,false)
 | none=>(it0,false)
theorem Ji (now:Int) (k:Qn):G ext F (n + 3) 60 [.one .ig,vi now,vq k.q k.t k.c] = some ([it0.v,vb false],[.one .ig,vi now,vq k.q k.t k.c]):=by
 refine eD (cf:=Vh) rfl ?_
 simp only [Vh,go_sem,Nat.reduceAdd,Nat.reduceMul,Nat.reduceEqDiff,Nat.reduceBEq,Nat.reduceMod,Nat.reduceDiv,↓reduceIte,reduceCtorEq]
 rfl
theorem O1 (C:nD ext) (s:Sv) (now:Int) (k:Qn) (hd:∀ x ∈ s.m,x.d.length ≤ 1000000):G ext F (n + 3) 60 [s.v,vi now,vq k.q k.t k.c] = some ([(d9 s now k).1.v,vb (d9 s now k).2],[s.v,vi now,vq k.q k.t k.c]):=by
 refine eD (cf:=Vh) rfl ?_
 have hk:=pz s.m k
 unfold d9
 cases ho:old s.m k with
 | none =>
  rw [ho] at hk
  simp only [Vh,hk,Option.map_none,Option.isSome_none,go_sem,Nat.reduceAdd,Nat.reduceMul,Nat.reduceEqDiff,Nat.reduceBEq,Nat.reduceMod,Nat.reduceDiv,↓reduceIte,reduceCtorEq]
  rfl
 | some x =>
  rw [ho] at hk
  have h1:=fun n=>DL (F:=F) (n:=n) C x (hd x (List.mem_of_find?_eq_some ho))
  cases hv:jV now x.u
  all_goals
   simp only [Vh,hk,Option.map_some,Option.isSome_some,rI,jD,hv,h1,go_sem,Nat.reduceAdd,Nat.reduceMul,Nat.reduceEqDiff,Nat.reduceBEq,Nat.reduceMod,Nat.reduceDiv,↓reduceIte,reduceCtorEq]
  rfl
def Jj (θ:Th) (s:Sv) (now:Int) (x:It):Int :=
 if x.u < 0 ∨ θ.set x.q x.t x.c x.d x.ttl = false ∨ x.r < 1 ∨ 5 < x.r then 1
 else if jV now x.u = false then 14
 else match old s.m x.k with
  | some o=>if Lm o.r (jV now o.u) x.r = false then 10 else 0
  | none=>0
theorem LH (now:Int) (x:It):G ext F (n + 4) 41 [.one .ig,vi now,x.v] = some ([vi 1],[.one .ig,vi now,x.v]):=by
 refine eD (cf:=Jf) rfl ?_
 simp only [Jf,go_sem,Nat.reduceAdd,Nat.reduceMul,Nat.reduceEqDiff,Nat.reduceBEq,Nat.reduceMod,Nat.reduceDiv,↓reduceIte,reduceCtorEq]
theorem Vo (T:θ.Ok ext) (s:Sv) (now:Int) (x:It) (hF:200000000000001 ≤ F) (hq:x.q.size ≤ 1000000) (hn:x.d.length ≤ 1000000) (hd:∀ y ∈ x.d,y.size ≤ 1000000):G ext F (n + 4) 41 [s.v,vi now,x.v] = some ([vi (Jj θ s now x)],[s.v,vi now,x.v]):=by
 refine eD (cf:=Jf) rfl ?_
 have hk:=pz s.m x.k
 have h1:=fun n=>Ag (ext:=ext) (F:=F) (n:=n) T x.q x.t x.c x.d x.ttl (by omega) hF hq hd
 unfold Jj
 cases hold:old s.m x.k with
 | none =>
  rw [hold] at hk
  simp only [Jf,h1,hk,jD,Option.map_none,Option.isSome_none,go_sem,Nat.reduceAdd,Nat.reduceMul,Nat.reduceEqDiff,Nat.reduceBEq,Nat.reduceMod,Nat.reduceDiv,↓reduceIte,reduceCtorEq]
  repeat' (refine dP (fun h=>?_) (fun h=>?_) <;> simp only [h,h1,hk,jD,Option.map_none,Option.isSome_none,go_sem,Nat.reduceAdd,Nat.reduceMul,Nat.reduceEqDiff,Nat.reduceBEq,Nat.reduceMod,Nat.reduceDiv,↓reduceIte,reduceCtorEq])
  all_goals clear h1 hk
  all_goals simp only [decide_eq_true_eq,decide_eq_false_iff_not] at *
  all_goals simp [*]
 | some o =>
  rw [hold] at hk
  simp only [Jf,h1,hk,jD,GY,Option.map_some,Option.isSome_some,rI,go_sem,Nat.reduceAdd,Nat.reduceMul,Nat.reduceEqDiff,Nat.reduceBEq,Nat.reduceMod,Nat.reduceDiv,↓reduceIte,reduceCtorEq]
  repeat' (refine dP (fun h=>?_) (fun h=>?_) <;> simp only [h,h1,hk,jD,GY,Option.map_some,Option.isSome_some,rI,go_sem,Nat.reduceAdd,Nat.reduceMul,Nat.reduceEqDiff,Nat.reduceBEq,Nat.reduceMod,Nat.reduceDiv,↓reduceIte,reduceCtorEq])
  all_goals clear h1 hk
  all_goals simp only [decide_eq_true_eq,decide_eq_false_iff_not] at *
  all_goals simp [*]
end Go.Proofs.Ytfokaoeinpnagaa.Kc
set_option maxRecDepth 4000
namespace Go.Proofs.Ytfokaoeinpnagaa.Kc
open Go Ev
variable {ext : Env} {F n:Nat} {θ:Th}
abbrev Se.it (x:Se) (u r:Int):It:=⟨x.q,x.t,x.c,x.d,x.ttl,u,r⟩
def uN (θ:Th) (s:Sv) (now:Int) (x:Se) (r:Int):Sv × Int :=
 let it:=x.it (fI now x.ttl) r
 if Jj θ s now it ≠ 0 then (s,Jj θ s now it)
 else
  let t:=CS s.o x.k ++ [x.k]
  (⟨s.room,(t.take (t.length - s.room.toNat)).foldl rid (upd s.m it),t.drop (t.length - s.room.toNat),s.ch + 1⟩,0)
structure DN (θ:Th) (ext:Env):Prop where
 p0:∀ now x r,ext 21 [.one .ig,vi now,Se.v x,vi r] = some ([vi 1],[.one .ig,vi now,x.v,vi r])
 p1:∀ (s:Sv) now (x:Se) r,0 ≤ s.room ∧ s.room ≤ 1000000 → 0 ≤ s.ch ∧ s.ch ≤ 1000000000000 → s.o.length ≤ 100000 → s.m.length ≤ 100000 → x.q.size ≤ 1000000 → x.d.length ≤ 1000000 → (∀ y ∈ x.d,y.size ≤ 1000000) →
  ext 21 [s.v,vi now,x.v,vi r] = some ([vi (uN θ s now x r).2],[(uN θ s now x r).1.v,vi now,x.v,vi r])
theorem Vp (Q:DN θ ext) (s:Sv) (now:Int) (x:Se) (r:Int) (h1:0 ≤ s.room ∧ s.room ≤ 1000000) (h2:0 ≤ s.ch ∧ s.ch ≤ 1000000000000) (h3:s.o.length ≤ 100000) (h3':s.m.length ≤ 100000) (h4:x.q.size ≤ 1000000) (h5:x.d.length ≤ 1000000) (h6:∀ y ∈ x.d,y.size ≤ 1000000):G ext F (n + 1) 21 [s.v,vi now,x.v,vi r] = some ([vi (uN θ s now x r).2],[(uN θ s now x r).1.v,vi now,x.v,vi r]):=(congrFun (nW rfl) _).trans (Q.p1 s now x r h1 h2 h3 h3' h4 h5 h6)
abbrev na : ByteArray:=⟨#[1,97,0]⟩
abbrev nb : ByteArray:=⟨#[1,98,0]⟩
abbrev O4 : ByteArray:=⟨#[1,99,0]⟩
abbrev dd : ByteArray:=⟨#[49,49,49,49]⟩
abbrev sa : Se:=⟨na,1,1,[dd],5⟩
abbrev sb : Se:=⟨nb,1,1,[dd],5⟩
abbrev sc : Se:=⟨O4,1,1,[dd],5⟩
abbrev sz : Se:=⟨na,1,1,[dd],0⟩
abbrev t0 : Sv:=⟨2,[],[],0⟩
abbrev t1 : Sv:=⟨2,[sa.it 6 5],[sa.k],1⟩
abbrev t2 : Sv:=⟨2,[sa.it 6 5,sb.it 6 3],[sa.k,sb.k],2⟩
abbrev t3 : Sv:=⟨2,[sa.it 6 5,sb.it 6 3],[sb.k,sa.k],2⟩
abbrev t4 : Sv:=⟨2,[sa.it 6 5,sc.it 7 1],[sa.k,sc.k],3⟩
abbrev t5 : Sv:=⟨2,[sc.it 7 1],[sc.k],4⟩
end Go.Proofs.Ytfokaoeinpnagaa.Kc
namespace Go.Proofs.Ytfokaoeinpnagaa.Kc
open Go Ev
variable {θ : Th}
abbrev ks (l:List It):List Qn:=l.map It.k
theorem mW {l:List It} {b:Qn} {x:It} (h:old l b = some x):x.k = b ∧ x ∈ l:=⟨by simpa using List.find?_some h,List.mem_of_find?_eq_some h⟩
theorem sS {l:List It} {a:Qn}:(rid l a).Sublist l:=List.eraseP_sublist ..
theorem uO {l:List It} {a:Qn} (h:(ks l).Nodup):(ks (rid l a)).Nodup:=(sS.map _).nodup h
theorem rE (l:List It) (x:It):(x.k ∉ ks l ∧ upd l x = l ++ [x]) ∨ ∃ a y b,l = a ++ y :: b ∧ y.k = x.k ∧ x.k ∉ ks a ∧ upd l x = a ++ x :: b:=by
 unfold upd
 cases h:l.findIdx? fun y=>decide (y.k = x.k) with
 | none =>
  refine .inl ⟨fun hm=>?_,rfl⟩
  obtain ⟨y,hy,hk⟩:=List.mem_map.mp hm
  have:=List.findIdx?_eq_none_iff.mp h y hy
  simp [hk] at this
 | some i =>
  obtain ⟨hi,hx,hb⟩:=List.findIdx?_eq_some_iff_getElem.mp h
  refine .inr ⟨l.take i,l[i],l.drop (i + 1),?_,by simpa using hx,fun hm=>?_,?_⟩
  ·rw [List.getElem_cons_drop,List.take_append_drop]
  ·obtain ⟨y,hy,hk⟩:=List.mem_map.mp hm
   obtain ⟨j,hj,rfl⟩:=List.mem_take_iff_getElem.mp hy
   have:=hb j (by omega)
   simp [hk] at this
  ·simp only [List.set_eq_take_append_cons_drop,hi,if_true]
theorem uP {l:List It} {x:It} (h:(ks l).Nodup):(ks (upd l x)).Nodup:=by
 rcases rE l x with ⟨hn,hu⟩ | ⟨a,y,c,rfl,hy,ha,hu⟩
 ·rw [hu]
  simp only [ks,List.map_append,List.map_cons,List.map_nil]
  refine List.nodup_append.mpr ⟨h,List.pairwise_singleton _ _,fun p hp q hq=>?_⟩
  rw [List.mem_singleton] at hq;subst hq;rintro rfl;exact hn hp
 ·rw [hu]
  have:ks (a ++ x :: c) = ks (a ++ y :: c):=by simp [ks,hy]
  rw [this];exact h
end Go.Proofs.Ytfokaoeinpnagaa.Kc
set_option maxRecDepth 4000
namespace Go.Proofs.Ytfokaoeinpnagaa.Kc.Ne
open Go Ev
variable {ext : Env} {F n:Nat} {θ:Th}
structure Nt where
 k:Qn
 nx:Bool
 s:Se
 u:Int
 deriving DecidableEq
def rN (x:Nt):List FV:=[.str x.k.q,.int .i64 x.k.t,.int .i64 x.k.c,.bool x.nx,.str x.s.q,.int .i64 x.s.t,.int .i64 x.s.c,.sl (x.s.d.map fB),.int .i64 x.s.ttl,.int .i64 x.u]
abbrev Nt.v (x:Nt):AV:=.agg [.f (.str x.k.q),.f (.int .i64 x.k.t),.f (.int .i64 x.k.c),.f (.bool x.nx),.f (.str x.s.q),.f (.int .i64 x.s.t),.f (.int .i64 x.s.c),.f (.sl (x.s.d.map fB)),.f (.int .i64 x.s.ttl),.f (.int .i64 x.u)]
abbrev _root_.Go.Proofs.Ytfokaoeinpnagaa.Kc.Qn.v (k:Qn):AV:=vq k.q k.t k.c
def nt0 : Nt:=⟨⟨⟨#[]⟩,0,0⟩,false,⟨⟨#[]⟩,0,0,[],0⟩,0⟩
structure On where
 o:Int
 now:Int
 k:Qn
 nx:Bool
 s:Se
abbrev On.v (x:On):AV:=.agg [.f (.int .i64 x.o),.f (.int .i64 x.now),.f (.str x.k.q),.f (.int .i64 x.k.t),.f (.int .i64 x.k.c),.f (.bool x.nx),.f (.str x.s.q),.f (.int .i64 x.s.t),.f (.int .i64 x.s.c),.f (.sl (x.s.d.map fB)),.f (.int .i64 x.s.ttl)]
structure Nv where
 room:Int
 m:List Nt
 o:List Qn
 ch:Int
structure Rn where
 room:Int
 l:List Nt
 ch:Int
abbrev Ah : KS:=.agg [.str,.int .i64,.int .i64]
abbrev kq (k:Qn):KV:=.agg [.str k.q,.int .i64 k.t,.int .i64 k.c]
theorem FB {a b:Qn}:kq a = kq b ↔ a = b:=by
 constructor
 ·intro h;simp only [kq,KV.agg.injEq,List.cons.injEq,SV.str.injEq,SV.int.injEq] at h
  cases a;cases b;simp_all
 ·rintro rfl;rfl
def old (l:List Nt) (k:Qn):Option Nt:=l.find? fun x=>decide (x.k = k)
def rid (l:List Nt) (k:Qn):List Nt:=l.eraseP fun x=>decide (x.k = k)
def ent (x:Nt):KV × FC:=(kq x.k,.agg (rN x))
theorem mD (l:List Nt) (k:Qn):vX (l.map ent) (kq k) = l.findIdx? fun x=>decide (x.k = k):=by
 unfold vX
 rw [List.map_map,List.findIdx?_map]
 refine congrArg (fun p=>List.findIdx? p l) (funext fun x=>?_)
 simp only [Function.comp,ent]
 by_cases h:x.k = k
 ·simp [h]
 ·have:¬ kq x.k = kq k:=fun e=>h (FB.mp e)
  simp only [this,h,decide_false]
theorem pz (l:List Nt) (k:Qn):qZ (l.map ent) (kq k) = (old l k).map fun x=>.agg (rN x):=by
 have hf:old l k = (l.findIdx? fun x=>decide (x.k = k)).bind fun i=>l[i]?:=List.find?_eq_bind_findIdx?_getElem? ..
 unfold qZ
 rw [mD,hf]
 cases l.findIdx? fun x=>decide (x.k = k) with
 | none=>rfl
 | some i=>simp only [Option.bind_some,List.getElem?_map];cases l[i]? <;> rfl
theorem yh (l:List Nt) (k:Qn):A9 (l.map ent) (kq k) = (rid l k).map ent:=by
 unfold A9 rid
 rw [mD,List.eraseP_eq_eraseIdx]
 cases l.findIdx? fun x=>decide (x.k = k) with
 | none=>rfl
 | some i=>simp [List.eraseIdx_eq_take_drop_succ,List.map_take,List.map_drop]
def upd (l:List Nt) (x:Nt):List Nt:=match l.findIdx? fun y=>decide (y.k = x.k) with
 | some i=>l.set i x
 | none=>l ++ [x]
theorem yj (l:List Nt) (x:Nt):vY (l.map ent) (kq x.k) (.agg (rN x)) = (upd l x).map ent:=by
 unfold vY upd
 rw [mD]
 cases l.findIdx? fun y=>decide (y.k = x.k) with
 | none=>simp [ent]
 | some i=>simp [List.map_set,ent]
abbrev ks (l:List Nt):List Qn:=l.map Nt.k
theorem mW {l:List Nt} {b:Qn} {x:Nt} (h:old l b = some x):x.k = b ∧ x ∈ l:=⟨by simpa using List.find?_some h,List.mem_of_find?_eq_some h⟩
theorem sS {l:List Nt} {a:Qn}:(rid l a).Sublist l:=List.eraseP_sublist ..
theorem uO {l:List Nt} {a:Qn} (h:(ks l).Nodup):(ks (rid l a)).Nodup:=(sS.map _).nodup h
theorem rE (l:List Nt) (x:Nt):(x.k ∉ ks l ∧ upd l x = l ++ [x]) ∨ ∃ a y b,l = a ++ y :: b ∧ y.k = x.k ∧ x.k ∉ ks a ∧ upd l x = a ++ x :: b:=by
 unfold upd
 cases h:l.findIdx? fun y=>decide (y.k = x.k) with
 | none =>
  refine .inl ⟨fun hm=>?_,rfl⟩
  obtain ⟨y,hy,hk⟩:=List.mem_map.mp hm
  have:=List.findIdx?_eq_none_iff.mp h y hy
  simp [hk] at this
 | some i =>
  obtain ⟨hi,hx,hb⟩:=List.findIdx?_eq_some_iff_getElem.mp h
  refine .inr ⟨l.take i,l[i],l.drop (i + 1),?_,by simpa using hx,fun hm=>?_,?_⟩
  ·rw [List.getElem_cons_drop,List.take_append_drop]
  ·obtain ⟨y,hy,hk⟩:=List.mem_map.mp hm
   obtain ⟨j,hj,rfl⟩:=List.mem_take_iff_getElem.mp hy
   have:=hb j (by omega)
   simp [hk] at this
  ·simp only [List.set_eq_take_append_cons_drop,hi,if_true]
theorem uP {l:List Nt} {x:Nt} (h:(ks l).Nodup):(ks (upd l x)).Nodup:=by
 rcases rE l x with ⟨hn,hu⟩ | ⟨a,y,c,rfl,hy,ha,hu⟩
 ·rw [hu]
  simp only [ks,List.map_append,List.map_cons,List.map_nil]
  refine List.nodup_append.mpr ⟨h,List.pairwise_singleton _ _,fun p hp q hq=>?_⟩
  rw [List.mem_singleton] at hq;subst hq;rintro rfl;exact hn hp
 ·rw [hu]
  have:ks (a ++ x :: c) = ks (a ++ y :: c):=by simp [ks,hy]
  rw [this];exact h
theorem O5 {l:List Nt} {x:Nt}:(upd l x).length ≤ l.length + 1:=by
 rcases rE l x with ⟨-,hu⟩ | ⟨a,y,c,rfl, -, -,hu⟩ <;> rw [hu] <;> simp
theorem O6 {l:List Nt} {x y:Nt} (h:y ∈ upd l x):y = x ∨ y ∈ l:=by
 rcases rE l x with ⟨-,hu⟩ | ⟨a,z,c,rfl, -, -,hu⟩ <;> rw [hu] at h <;> simp at h ⊢
 ·rcases h with h | h <;> simp [h]
 ·rcases h with h | h | h <;> simp [h]
theorem yt : ∀ {g:List Qn} {l:List Nt},(g.foldl rid l).Sublist l
 | [],l=>List.Sublist.refl _
 | a :: g,l=>(yt (g:=g)).trans sS
abbrev Nv.v (s:Nv):AV:=.one (.ptr [.f (.int .i64 s.room),.mp Ah (s.m.map ent),.f (.sl (s.o.map rQ)),.f (.int .i64 s.ch)])
abbrev Rn.v (s:Rn):AV:=.agg [.f (.int .i64 s.room),.f (.sl (s.l.map rN)),.f (.int .i64 s.ch)]
def nvo : Option Nv → AV
 | some s=>s.v
 | none=>.one .ig
theorem LJ (s:Nv):nvo (some s) = s.v:=rfl
end Go.Proofs.Ytfokaoeinpnagaa.Kc.Ne
set_option maxRecDepth 4000
namespace Go.Proofs.Ytfokaoeinpnagaa.Kc.Ne
open Go Ev
variable {ext : Env} {F n:Nat} {θ:Th} {gt:ByteArray → Int → Int → Int × Bool}
structure FD (gt:ByteArray → Int → Int → Int × Bool) (ext:Env):Prop where
 og:∀ s a z,s.size ≤ 1000000 → ext 80 [vs s,vi a,vi z] = some ([vi (gt s a z).1,vb (gt s a z).2],[vs s,vi a,vi z])
 rg:∀ s a z,s.size ≤ 1000000 → ext 77 [vs s,vi a,vi z] = some ([vi (gt s a z).1,vb (gt s a z).2],[vs s,vi a,vi z])
 nn:∀ s a z,0 ≤ (gt s a z).1
theorem ZE (O:FD gt ext) (s:ByteArray) (a z:Int) (h:s.size ≤ 1000000):G ext F (n + 1) 80 [vs s,vi a,vi z] = some ([vi (gt s a z).1,vb (gt s a z).2],[vs s,vi a,vi z]):=(congrFun (nW rfl) _).trans (O.og s a z h)
theorem O7 (room:Int):G ext F (n + 1) 32 [vi room] = some ([nvo (if room < 1 ∨ 1000 < room then none else some ⟨room,[],[],0⟩)],[vi room]):=by
 refine eD (cf:=c32) rfl ?_
 simp only [c32,go_sem,Nat.reduceAdd,Nat.reduceMul,Nat.reduceEqDiff,Nat.reduceBEq,Nat.reduceMod,Nat.reduceDiv,↓reduceIte,reduceCtorEq]
 repeat' (refine dP (fun h=>?_) (fun h=>?_) <;> simp only [h,go_sem,Nat.reduceAdd,Nat.reduceMul,Nat.reduceEqDiff,Nat.reduceBEq,Nat.reduceMod,Nat.reduceDiv,↓reduceIte,reduceCtorEq])
 all_goals (simp only [decide_eq_true_eq,decide_eq_false_iff_not] at *)
 all_goals first | rw [if_pos (by omega)] | rw [if_neg (by omega)]
 all_goals rfl
theorem nL (C:nD ext) (x:Nt) (hx:x.s.d.length ≤ 1000000):G ext F (n + 2) 59 [x.v] = some ([x.v],[x.v]):=by
 refine eD (cf:=c59) rfl ?_
 have h1:=fun n=>SF (F:=F) (n:=n) C x.s.d hx
 simp only [c59,h1,go_sem,Nat.reduceAdd,Nat.reduceMul,Nat.reduceEqDiff,Nat.reduceBEq,Nat.reduceMod,Nat.reduceDiv,↓reduceIte,reduceCtorEq]
theorem DR (k:Qn):G ext F (n + 1) 58 [k.v] = some ([vq k.q 0 k.c],[k.v]):=by
 refine eD (cf:=c58) rfl ?_
 simp only [c58,go_sem,Nat.reduceAdd,Nat.reduceMul,Nat.reduceEqDiff,Nat.reduceBEq,Nat.reduceMod,Nat.reduceDiv,↓reduceIte,reduceCtorEq]
abbrev _root_.Go.Proofs.Ytfokaoeinpnagaa.Kc.Qn.w (k:Qn):Qn:=⟨k.q,0,k.c⟩
def _root_.Go.Proofs.Ytfokaoeinpnagaa.Kc.Th.ask (θ:Th) (k:Qn):Bool:=θ.key k.q k.t k.c && !decide (k.t = 0)
theorem LK (T:θ.Ok ext) (k:Qn) (hq:k.q.size ≤ 1000000):G ext F (n + 2) 56 [k.v] = some ([vb (θ.ask k)],[k.v]):=by
 refine eD (cf:=c56) rfl ?_
 have h1:=fun n=>SB (F:=F) (n:=n) T k.q hq
 have h2:=fun n=>SC (F:=F) (n:=n) T k.q hq
 simp only [c56,h1,h2,go_sem,Nat.reduceAdd,Nat.reduceMul,Nat.reduceEqDiff,Nat.reduceBEq,Nat.reduceMod,Nat.reduceDiv,↓reduceIte,reduceCtorEq]
 repeat' (refine dP (fun h=>?_) (fun h=>?_) <;> simp only [h,h1,h2,go_sem,Nat.reduceAdd,Nat.reduceMul,Nat.reduceEqDiff,Nat.reduceBEq,Nat.reduceMod,Nat.reduceDiv,↓reduceIte,reduceCtorEq])
 all_goals clear h1 h2
 all_goals simp only [decide_eq_true_eq,decide_eq_false_iff_not] at *
 all_goals (simp [Th.ask,Th.key, *])
 all_goals (try omega)
 all_goals (have a1:0 ≤ k.t:=by omega);(have a2:¬ k.t = 0:=by omega);simp [a1,a2]
def wm (θ:Th) (gt:ByteArray → Int → Int → Int × Bool) (x:Se):Int × Bool :=
 if θ.set x.q x.t x.c x.d x.ttl = true ∧ x.t = 6 then (if x.ttl < (gt (x.d.headD ⟨#[]⟩) ((x.d.headD ⟨#[]⟩).size - 4) 4).1 then x.ttl else (gt (x.d.headD ⟨#[]⟩) ((x.d.headD ⟨#[]⟩).size - 4) 4).1,true) else (0,false)
theorem LM {x:Se} (h:θ.set x.q x.t x.c x.d x.ttl = true):∃ y d,x.d = y :: d:=by
 unfold Th.set at h
 rw [decide_eq_true_eq] at h
 exact List.exists_cons_of_ne_nil h.2.2.2
theorem FE (T:θ.Ok ext) (O:FD gt ext) (x:Se) (hF:200000000000001 ≤ F) (hq:x.q.size ≤ 1000000) (hn:x.d.length ≤ 1000000) (hd:∀ y ∈ x.d,y.size ≤ 1000000):G ext F (n + 4) 55 [x.v] = some ([vi (wm θ gt x).1,vb (wm θ gt x).2],[x.v]):=by
 refine eD (cf:=Xx) rfl ?_
 have h1:=fun n=>Ag (F:=F) (n:=n) T x.q x.t x.c x.d x.ttl (by omega) hF hq hd
 by_cases h6:x.t = 6
 ·have h6':decide (x.t = 6) = true:=decide_eq_true h6
  cases hs:θ.set x.q x.t x.c x.d x.ttl with
  | false =>
   rw [hs] at h1
   have e:wm θ gt x = (0,false):=by unfold wm;rw [hs];rfl
   rw [e]
   simp only [Xx,h1,h6',go_sem,Nat.reduceAdd,Nat.reduceMul,Nat.reduceEqDiff,Nat.reduceBEq,Nat.reduceMod,Nat.reduceDiv,↓reduceIte,reduceCtorEq]
  | true =>
   rw [hs] at h1
   obtain ⟨y,ds,hy⟩:=LM hs
   have e:wm θ gt x = (if x.ttl < (gt y (y.size - 4) 4).1 then x.ttl else (gt y (y.size - 4) 4).1,true):=by unfold wm;rw [if_pos ⟨hs,h6⟩,hy];rfl
   rw [e]
   have hys:=hd y (by rw [hy];simp)
   have hw:IntKind.i64.wrap ((y.size:Int) - 4) = y.size - 4:=zC (by omega) (by omega)
   have hg:=fun n=>ZE (F:=F) (n:=n) O y (y.size - 4) 4 hys
   simp only [Se.v,sP,hy,List.map_cons,fB] at h1 ⊢
   simp only [Xx,h1,h6',List.map_cons,List.getElem?_cons_zero,fB,hw,hg,Int.toNat_zero,go_sem,Nat.reduceAdd,Nat.reduceMul,Nat.reduceEqDiff,Nat.reduceBEq,Nat.reduceMod,Nat.reduceDiv,↓reduceIte,reduceCtorEq]
   exact ⟨Int.le_refl _,by rw [hy];rfl⟩
 ·have h6':decide (x.t = 6) = false:=decide_eq_false h6
  have e:wm θ gt x = (0,false):=by unfold wm;rw [if_neg (fun h=>h6 h.2)]
  rw [e]
  simp only [Xx,h6',go_sem,Nat.reduceAdd,Nat.reduceMul,Nat.reduceEqDiff,Nat.reduceBEq,Nat.reduceMod,Nat.reduceDiv,↓reduceIte,reduceCtorEq]
end Go.Proofs.Ytfokaoeinpnagaa.Kc.Ne
set_option maxRecDepth 4000
namespace Go.Proofs.Ytfokaoeinpnagaa.Kc.Ne
open Go Ev
variable {ext : Env} {F n:Nat} {θ:Th} {gt:ByteArray → Int → Int → Int × Bool}
def ofR (o:Option Nt):Nt × Bool:=match o with
 | some x=>(x,true)
 | none=>(nt0,false)
abbrev kn (nx:Bool) (k:Qn):Qn:=if nx then k.w else k
def _root_.Go.Proofs.Ytfokaoeinpnagaa.Kc.Th.narg (θ:Th) (gt:ByteArray → Int → Int → Int × Bool) (s:Rn) (now:Int) (k:Qn) (x:Se):Prop:=s.room = 0 ∨ OV now = false ∨ (wm θ gt x).2 = false ∨ θ.key k.q k.t k.c = false ∨ k.t = 0
instance {s : Rn} {now:Int} {k:Qn} {x:Se}:Decidable (θ.narg gt s now k x):=by unfold Th.narg;infer_instance
end Go.Proofs.Ytfokaoeinpnagaa.Kc.Ne
set_option maxRecDepth 4000
namespace Go.Proofs.Ytfokaoeinpnagaa.Kc.Ne
open Go Ev
variable {ext : Env} {F n:Nat} {θ:Th} {gt:ByteArray → Int → Int → Int × Bool}
def nof (m:List Nt) (now:Int) (k:Qn):Option Nt:=match old m k with
 | some x=>if jV now x.u then some x else none
 | none=>none
def gF (s:Nv) (now:Int) (k:Qn):Nt × Bool:=match nof s.m now k.w with
 | some x=>(x,true)
 | none=>ofR (nof s.m now k)
theorem FH (now:Int) (k:Qn):G ext F (n + 3) 63 [.one .ig,vi now,k.v] = some ([nt0.v,vb false],[.one .ig,vi now,k.v]):=by
 refine eD (cf:=Xy) rfl ?_
 simp only [Xy,go_sem,Nat.reduceAdd,Nat.reduceMul,Nat.reduceEqDiff,Nat.reduceBEq,Nat.reduceMod,Nat.reduceDiv,↓reduceIte,reduceCtorEq]
 rfl
theorem LP (C:nD ext) (s:Nv) (now:Int) (k:Qn) (hF:200000000000001 ≤ F) (hd:∀ x ∈ s.m,x.s.d.length ≤ 1000000):G ext F (n + 3) 63 [s.v,vi now,k.v] = some ([(gF s now k).1.v,vb (gF s now k).2],[s.v,vi now,k.v]):=by
 refine eD (cf:=Xy) rfl ?_
 have hw:=fun n=>DR (ext:=ext) (F:=F) (n:=n) k
 simp only [Xy,hw,go_sem,Nat.reduceAdd,Nat.reduceMul,Nat.reduceEqDiff,Nat.reduceBEq,Nat.reduceMod,Nat.reduceDiv,↓reduceIte,reduceCtorEq]
 refine jS 2 (fun i=>⟨[(0,PV.c (CV.one (PL.ptr 20201 0))),(1,PV.c (CV.one (PL.f (FV.int IntKind.i64 now)))),(6,PV.c (CV.one (PL.ptr 140000 0))),(18,PV.c (CV.one (PL.own 380000 2))),(19,PV.c (CV.one (PL.f (FV.int IntKind.i64 ((2:Nat):Int))))),(20,PV.c (CV.one (PL.f (FV.int IntKind.i64 (i:Int)))))],[(20201,Ob.iK [PL.f (FV.int IntKind.i64 s.room),PL.mp 20205,PL.f (FV.sl (List.map rQ s.o)),PL.f (FV.int IntKind.i64 s.ch)]),(20205,Ob.map Ah (List.map ent s.m)),(140000,Ob.iK [PL.f (FV.str ⟨#[]⟩),PL.f (FV.int IntKind.i64 0),PL.f (FV.int IntKind.i64 0),PL.f (FV.bool false),PL.f (FV.str ⟨#[]⟩),PL.f (FV.int IntKind.i64 0),PL.f (FV.int IntKind.i64 0),PL.dM,PL.f (FV.int IntKind.i64 0),PL.f (FV.int IntKind.i64 0)]),(380000,Ob.row 3 [[FV.str k.q,FV.int IntKind.i64 0,FV.int IntKind.i64 k.c],[FV.str k.q,FV.int IntKind.i64 k.t,FV.int IntKind.i64 k.c]])]⟩) (fun i=>(1 ≤ i → nof s.m now k.w = none) ∧ (2 ≤ i → nof s.m now k = none)) (by omega) rfl ⟨by omega,by omega⟩ (fun i hi hP=>?_) (fun hP=>?_)
 ·rcases (show i = 0 ∨ i = 1 by omega) with rfl | rfl
  ·skip
   have hlt:decide (((0:Nat):Int) < ((2:Nat):Int)) = true:=by decide
   have ht:((0:Nat):Int).toNat = 0:=rfl
   have h0:(0:Int) ≤ ((0:Nat):Int):=by decide
   have hn':IntKind.i64.wrap (((0:Nat):Int) + 1) = ((0 + 1:Nat):Int):=by rw [zC (by omega) (by omega)];rfl
   have hk1:=pz s.m k.w
   simp only [kq] at hk1
   have hcl:=fun n x hx=>nL (F:=F) (n:=n) C x hx
   cases hold:old s.m k.w with
   | none =>
    rw [hold] at hk1
    simp only [hlt,ht,h0,hn',List.getElem?_cons_zero,List.getElem?_cons_succ,hk1,Option.map_none,Option.isSome_none,go_sem,Nat.reduceAdd,Nat.reduceMul,Nat.reduceEqDiff,Nat.reduceBEq,Nat.reduceMod,Nat.reduceDiv,↓reduceIte,reduceCtorEq]
    first | exact ⟨by decide,fun _=>by unfold nof;simp [hold, *],by omega⟩ | exact ⟨by decide,rfl,fun _=>by unfold nof;simp [hold, *],by omega⟩
   | some x =>
    rw [hold] at hk1
    have hcl:=fun n=>nL (F:=F) (n:=n) C x (hd x (mW hold).2)
    cases hv:jV now x.u with
    | false =>
     simp only [hlt,ht,h0,hn',List.getElem?_cons_zero,List.getElem?_cons_succ,hk1,Option.map_some,Option.isSome_some,rN,jD,hv,go_sem,Nat.reduceAdd,Nat.reduceMul,Nat.reduceEqDiff,Nat.reduceBEq,Nat.reduceMod,Nat.reduceDiv,↓reduceIte,reduceCtorEq]
     first | exact ⟨by decide,fun _=>by unfold nof;simp [hold, *],by omega⟩ | exact ⟨by decide,rfl,fun _=>by unfold nof;simp [hold, *],by omega⟩
    | true =>
     simp only [hlt,ht,h0,hn',List.getElem?_cons_zero,List.getElem?_cons_succ,hk1,Option.map_some,Option.isSome_some,rN,jD,hv,hcl,go_sem,Nat.reduceAdd,Nat.reduceMul,Nat.reduceEqDiff,Nat.reduceBEq,Nat.reduceMod,Nat.reduceDiv,↓reduceIte,reduceCtorEq]
     have e:gF s now k = (x,true):=by unfold gF nof;rw [hold];simp [hv]
     rw [e]
     exact ⟨by decide,rfl⟩
  ·have hp:=hP.1 (by decide)
   have hlt:decide (((1:Nat):Int) < ((2:Nat):Int)) = true:=by decide
   have ht:((1:Nat):Int).toNat = 1:=rfl
   have h0:(0:Int) ≤ ((1:Nat):Int):=by decide
   have hn':IntKind.i64.wrap (((1:Nat):Int) + 1) = ((1 + 1:Nat):Int):=by rw [zC (by omega) (by omega)];rfl
   have hk1:=pz s.m k
   simp only [kq] at hk1
   have hcl:=fun n x hx=>nL (F:=F) (n:=n) C x hx
   cases hold:old s.m k with
   | none =>
    rw [hold] at hk1
    simp only [hlt,ht,h0,hn',List.getElem?_cons_zero,List.getElem?_cons_succ,hk1,Option.map_none,Option.isSome_none,go_sem,Nat.reduceAdd,Nat.reduceMul,Nat.reduceEqDiff,Nat.reduceBEq,Nat.reduceMod,Nat.reduceDiv,↓reduceIte,reduceCtorEq]
    first | exact ⟨by decide,fun _=>hp,fun _=>by unfold nof;simp [hold, *]⟩ | exact ⟨by decide,rfl,fun _=>hp,fun _=>by unfold nof;simp [hold, *]⟩
   | some x =>
    rw [hold] at hk1
    have hcl:=fun n=>nL (F:=F) (n:=n) C x (hd x (mW hold).2)
    cases hv:jV now x.u with
    | false =>
     simp only [hlt,ht,h0,hn',List.getElem?_cons_zero,List.getElem?_cons_succ,hk1,Option.map_some,Option.isSome_some,rN,jD,hv,go_sem,Nat.reduceAdd,Nat.reduceMul,Nat.reduceEqDiff,Nat.reduceBEq,Nat.reduceMod,Nat.reduceDiv,↓reduceIte,reduceCtorEq]
     first | exact ⟨by decide,fun _=>hp,fun _=>by unfold nof;simp [hold, *]⟩ | exact ⟨by decide,rfl,fun _=>hp,fun _=>by unfold nof;simp [hold, *]⟩
    | true =>
     simp only [hlt,ht,h0,hn',List.getElem?_cons_zero,List.getElem?_cons_succ,hk1,Option.map_some,Option.isSome_some,rN,jD,hv,hcl,go_sem,Nat.reduceAdd,Nat.reduceMul,Nat.reduceEqDiff,Nat.reduceBEq,Nat.reduceMod,Nat.reduceDiv,↓reduceIte,reduceCtorEq]
     have e:gF s now k = (x,true):=by unfold gF;rw [hp];unfold nof;rw [hold];simp [hv,ofR]
     rw [e]
     exact ⟨by decide,rfl⟩
 ·have hp1:=hP.1 (by decide)
  have hp2:=hP.2 (by decide)
  have hlt:decide (((2:Nat):Int) < ((2:Nat):Int)) = false:=by decide
  have e:gF s now k = (nt0,false):=by unfold gF;rw [hp1,hp2];rfl
  rw [e]
  simp only [hlt,go_sem,Nat.reduceAdd,Nat.reduceMul,Nat.reduceEqDiff,Nat.reduceBEq,Nat.reduceMod,Nat.reduceDiv,↓reduceIte,reduceCtorEq]
  rfl
def rF (θ:Th) (gt:ByteArray → Int → Int → Int × Bool) (s:Nv) (now:Int) (k:Qn) (nx:Bool) (x:Se):Nv × Int :=
 if (wm θ gt x).2 = false ∨ fI now (wm θ gt x).1 = -1 ∨ θ.ask k = false then (s,1)
 else if jV now (fI now (wm θ gt x).1) = false then (s,14)
 else
  let t:=CS s.o (kn nx k) ++ [kn nx k]
  (⟨s.room,(t.take (t.length - s.room.toNat)).foldl rid (upd s.m ⟨kn nx k,nx,x,fI now (wm θ gt x).1⟩),t.drop (t.length - s.room.toNat),s.ch + 1⟩,0)
theorem O8 (T:θ.Ok ext) (O:FD gt ext) (C:nD ext) (s:Nv) (now:Int) (k:Qn) (qP:Bool) (x:Se) (hF:200000000000001 ≤ F) (hr1:0 ≤ s.room ∧ s.room ≤ 1000000) (hc:0 ≤ s.ch ∧ s.ch ≤ 1000000000000) (ho:s.o.length ≤ 100000) (hk:k.q.size ≤ 1000000) (hq:x.q.size ≤ 1000000) (hn:x.d.length ≤ 1000000) (hd:∀ y ∈ x.d,y.size ≤ 1000000):G ext F (n + 6) 33 [s.v,vi now,k.v,vb qP,x.v] = some ([vi (rF θ gt s now k qP x).2],[(rF θ gt s now k qP x).1.v,vi now,k.v,vb qP,x.v]):=by
 refine eD (cf:=Fw) rfl ?_
 have h1:=fun n=>FE (F:=F) (n:=n) T O x hF hq hn hd
 have h2:=fun n=>LK (F:=F) (n:=n) T k hk
 have hu:=fun n t=>xZ (ext:=ext) (F:=F) (n:=n) now t
 cases hm2:(wm θ gt x).2 with
 | false =>
  rw [hm2] at h1
  have e:rF θ gt s now k qP x = (s,1):=by unfold rF;exact if_pos (.inl hm2)
  rw [e]
  simp only [Fw,h1,hu,go_sem,Nat.reduceAdd,Nat.reduceMul,Nat.reduceEqDiff,Nat.reduceBEq,Nat.reduceMod,Nat.reduceDiv,↓reduceIte,reduceCtorEq]
 | true =>
 rw [hm2] at h1
 by_cases hun:fI now (wm θ gt x).1 = -1
 ·have e:rF θ gt s now k qP x = (s,1):=by unfold rF;exact if_pos (.inr (.inl hun))
  rw [e]
  have hun':decide (fI now (wm θ gt x).1 = -1) = true:=decide_eq_true hun
  simp only [Fw,h1,hu,hun',go_sem,Nat.reduceAdd,Nat.reduceMul,Nat.reduceEqDiff,Nat.reduceBEq,Nat.reduceMod,Nat.reduceDiv,↓reduceIte,reduceCtorEq]
 have hun':decide (fI now (wm θ gt x).1 = -1) = false:=decide_eq_false hun
 cases ha:θ.ask k with
 | false =>
  have e:rF θ gt s now k qP x = (s,1):=by unfold rF;exact if_pos (.inr (.inr ha))
  rw [e]
  rw [ha] at h2
  simp only [Fw,h1,h2,hu,hun',go_sem,Nat.reduceAdd,Nat.reduceMul,Nat.reduceEqDiff,Nat.reduceBEq,Nat.reduceMod,Nat.reduceDiv,↓reduceIte,reduceCtorEq]
 | true =>
 rw [ha] at h2
 have hno:¬ ((wm θ gt x).2 = false ∨ fI now (wm θ gt x).1 = -1 ∨ θ.ask k = false):=by rw [hm2,ha];simp [hun]
 cases hl:jV now (fI now (wm θ gt x).1) with
 | false =>
  have e:rF θ gt s now k qP x = (s,14):=by unfold rF;rw [if_neg hno,if_pos hl]
  rw [e]
  simp only [Fw,h1,h2,hu,hun',jD,hl,go_sem,Nat.reduceAdd,Nat.reduceMul,Nat.reduceEqDiff,Nat.reduceBEq,Nat.reduceMod,Nat.reduceDiv,↓reduceIte,reduceCtorEq]
 | true =>
 have e:rF θ gt s now k qP x = (⟨s.room,((CS s.o (kn qP k) ++ [kn qP k]).take ((CS s.o (kn qP k) ++ [kn qP k]).length - s.room.toNat)).foldl rid (upd s.m ⟨kn qP k,qP,x,fI now (wm θ gt x).1⟩),(CS s.o (kn qP k) ++ [kn qP k]).drop ((CS s.o (kn qP k) ++ [kn qP k]).length - s.room.toNat),s.ch + 1⟩,0):=by
  unfold rF;rw [if_neg hno,if_neg (by rw [hl];decide)]
 rw [e]
 have hu':=fun n=>hu n (wm θ gt x).1
 generalize fI now (wm θ gt x).1 = u at hu' hun' hl ⊢
 have hw:IntKind.i64.wrap (s.ch + 1) = s.ch + 1:=zC (by omega) (by omega)
 have hwh:=fun n=>DR (ext:=ext) (F:=F) (n:=n) k
 have hcl:=fun n=>nL (ext:=ext) (F:=F) (n:=n) C ⟨kn qP k,qP,x,u⟩ hn
 have hqq:=@sQ s.o (kn qP k)
 have ht:=fun n=>DK (ext:=ext) (F:=F) (n:=n) C s.o (kn qP k) (by omega) hF
 have hct:=fun n=>LC (ext:=ext) (F:=F) (n:=n) C (CS s.o (kn qP k) ++ [kn qP k]) s.room (by simp;omega) (by omega) hF
 have hup:=yj s.m ⟨kn qP k,qP,x,u⟩
 simp only [kq,rN] at hup
 generalize X6:CS s.o (kn qP k) ++ [kn qP k] = t at ht hct ⊢
 generalize t.drop (t.length - s.room.toNat) = td at hct ⊢
 generalize ZA:t.take (t.length - s.room.toNat) = tt at hct ⊢
 have htl:tt.length ≤ 1000000:=by rw [← ZA,List.length_take,← X6,List.length_append,List.length_singleton];omega
 generalize hM:upd s.m ⟨kn qP k,qP,x,u⟩ = M at hup ⊢
 cases qP
 all_goals
  simp only [kn,if_true,if_false,Bool.false_eq_true] at hup ht hct hcl
  simp only [Fw,h1,h2,hu',hun',jD,hl,hwh,hcl,ht,hct,hup,hw,go_sem,Nat.reduceAdd,Nat.reduceMul,Nat.reduceEqDiff,Nat.reduceBEq,Nat.reduceMod,Nat.reduceDiv,↓reduceIte,reduceCtorEq]
  refine jS tt.length (fun i=>⟨[(0,PV.c (CV.one (PL.ptr 20201 0))),(14,PV.c (CV.one (PL.f (FV.sl (List.map rQ td))))),(75,PV.c (CV.one (PL.f (FV.sl (List.map rQ tt))))),(76,PV.c (CV.one (PL.f (FV.int IntKind.i64 ↑(List.map rQ tt).length)))),(77,PV.c (CV.one (PL.f (FV.int IntKind.i64 i))))],[(20201,Ob.iK [PL.f (FV.int IntKind.i64 s.room),PL.mp 20205,PL.f (FV.sl (List.map rQ s.o)),PL.f (FV.int IntKind.i64 s.ch)]),(20205,Ob.map Ah (((tt.take i).foldl rid M).map ent))]⟩) (fun _=>True) (by omega) rfl trivial (fun i hi _=>?_) (fun _=>?_)
  ·obtain ⟨k',hx,hlt,hit,h00⟩:=at_ hi
   have hn':=nx hi (by omega)
   have hdl:=yh ((tt.take i).foldl rid M) k'
   have hfo:(tt.take (i + 1)).foldl rid M = rid ((tt.take i).foldl rid M) k':=by rw [List.take_add_one,hx,List.foldl_append];rfl
   simp only [List.length_map,List.getElem?_map,hlt,hx,hit,h00,hn',rQ,hdl,go_sem,Nat.reduceAdd,Nat.reduceMul,Nat.reduceEqDiff,Nat.reduceBEq,Nat.reduceMod,Nat.reduceDiv,↓reduceIte,reduceCtorEq]
   rw [hfo]
  ·have hd:=@end_ _ tt
   simp only [List.length_map,hd,hw,List.take_length,go_sem,Nat.reduceAdd,Nat.reduceMul,Nat.reduceEqDiff,Nat.reduceBEq,Nat.reduceMod,Nat.reduceDiv,↓reduceIte,reduceCtorEq]
end Go.Proofs.Ytfokaoeinpnagaa.Kc.Ne
namespace Go.Proofs.Ytfokaoeinpnagaa.Ev
open Go Go.RowKit
def Vq : SV → TV
 | .int k n=>.f (.int k n)
 | .bool b=>.f (.bool b)
 | .str s=>.f (.str s)
def FJ (l:List SV):List AV:=l.map fun x=>.one (Vq x)
section
variable {P : Program} {Fz:Nat → Prop} {w:World}
theorem G7 {x:SV} {v:Value} {bs:List Nat}:nJ Fz w (Vq x) v bs ↔ v = encS x ∧ bs = []:=by
 cases x <;> simp only [Vq,nJ,fu,encS]
theorem yu : ∀ {l:List SV} {vs:List Value} {bs:List Nat},fO Fz w (FJ l) vs bs → vs = l.map encS ∧ bs = []
 | [],[],_,h=>⟨rfl,h⟩
 | [],_ :: _,_,h=>h.elim
 | _ :: _,[],_,h=>h.elim
 | x :: l,v :: vs,_,⟨b1,b2,h1,h2,e⟩=>by
  obtain ⟨e1,e2⟩:=G7.mp h1
  obtain ⟨e3,e4⟩:=yu (l:=l) h2
  subst e1;subst e2;subst e3;subst e4
  exact ⟨rfl,by rw [e];rfl⟩
theorem sU : ∀ {l:List SV},fO Fz w (FJ l) (l.map encS) []
 | []=>rfl
 | x :: l=>⟨[],[],G7.mpr ⟨rfl,rfl⟩,sU (l:=l),rfl⟩
theorem Sat.vW {f:FuncId} {g:List AV → Option (List AV × List AV)} (h:∀ fJ r,g fJ = some r → ∃ ZZ9 rs:List SV,fJ = FJ ZZ9 ∧ r = (FJ rs,FJ ZZ9) ∧
  ∀ w:World,Calls P f (ZZ9.map encS).toArray w fun e w'=>e = .returned (ret (rs.map encS)) ∧ Below w.heap.size w w'):Sat P f g:=by
 intro fJ rs rD hg Fz w vals bs ha hnd hap hfz
 obtain ⟨ZZ9,rs',rfl,e,hc⟩:=h fJ _ hg
 cases e
 obtain ⟨rfl,rfl⟩:=yu ha
 refine (hc w).mono fun e w' ⟨h1,hb'⟩=>?_
 exact ⟨Fz,rs'.map encS,[],[],h1,fun _ h=>h,fun b hb=>⟨Nat.lt_of_lt_of_le (hfz b hb) hb'.size,.inl hb⟩,hb'.size,fun b hb _=>hb'.block b hb,⟨hb'.os,hb'.output⟩,sU,sU,by simp,fun b hb=>by simp at hb⟩
def nM : List (FuncId × (List AV → Option (List AV × List AV))) → Env
 | []=>fun _ _=>none
 | (k,g) :: l=>fun f fJ=>if k = f then g fJ else nM l f fJ
theorem yw : ∀ {l:List (FuncId × (List AV → Option (List AV × List AV)))},(∀ p ∈ l,Sat P p.1 p.2) → iJ P (nM l)
 | [],_=>fun f fJ rs rD h=>by cases h
 | (k,g) :: l,h=>fun f fJ rs rD he=>by
  unfold nM at he
  split at he
  ·rename_i e;subst e;exact h (k,g) (by simp) fJ rs rD he
  ·exact yw (fun p hp=>h p (List.mem_cons_of_mem _ hp)) f fJ rs rD he
theorem rG : ∀ {l:List (FuncId × (List AV → Option (List AV × List AV)))},(∀ p ∈ l,∃ fn,P.funcs[p.1]? = some fn ∧ (fn.name == "runtime.NumGoroutine") = false ∧ fn.body.isSome = true) → eB P (nM l)
 | [],_=>fun f fJ r h=>by cases h
 | (k,g) :: l,h=>fun f fJ r he=>by
  unfold nM at he
  split at he
  ·rename_i e;subst e;exact h (k,g) (by simp)
  ·exact rG (fun p hp=>h p (List.mem_cons_of_mem _ hp)) f fJ r he
end
end Go.Proofs.Ytfokaoeinpnagaa.Ev
namespace Go.Proofs.Ytfokaoeinpnagaa.Ev
open Go
def SG (n:Nat) (ks:List Nat):Nat → Bool:=fun d=>decide (d < n) && !ks.contains d
noncomputable def LQ (Γ:Env) (F:Nat) (ca cb:CC) (s:Nat) (D:St → Option St) (cf:CF) (fJ:List AV):Option (List AV × List AV) :=
 if fJ.length ≠ cf.np then none else (enter cf.bo 0 [] ⟨[],[]⟩ fJ).bind fun e=>(ev Γ F ca e.2).bind fun p=>match p.1 with
  | .iX=>(ev Γ F cb ⟨put p.2.tm s (.c (.one .any)),p.2.ob⟩).bind fun q=>match q.1 with
   | .ext _=>none
   | _=>(D q.2).bind fun t=>(jQ t e.1 fJ).bind fun b=>(slots b.2 cf.res).bind fun l=>(mh cf.ro b.2 l).map fun r=>(r.1,b.1)
  | _=>none
section
variable {P : Program} {Γ:Env} {bG Fz bJ:Nat → Prop} {w0 w w':World} {bF bs:List Nat} {N:Fr} {F:Nat} {κ jg:Nat → Value} {σ fF σ':St} {a:Act} {X:Hx}
theorem Ok.reN (h:Ok bG w0 bF N jg σ a w) (N':Fr) (hn:N'.n = N.n) (hfs:∀ d,N'.ok d = false → a.tmps.getD d undef = N'.vs d):Ok bG w0 bF N' jg σ { a with defers:=N'.ds } w:=by
 obtain ⟨Fz,κ,h,hk⟩:=h
 exact ⟨Fz,κ,⟨h.tm,h.sz.trans hn.symm,rfl,hfs,h.ob,h.uG,h.pos,h.fz,h.zk,h.big,h.ext,h.kp⟩,hk⟩
theorem FL (hm:P.follows .mixedOrders = true) (heq:∀ t ∈ X.eqs,lD P t) (lW:iJ P Γ) (hC:eB P Γ) {f g:FuncId} {fn gn:Func} {a1 a2 r:Code} {id s c1 c2 t1 t2:Nat} {p1 p2:String} {Fq Fu:Array Edge} (hf:P.funcs[f]? = some fn)
  (hb:fn.body = some (.seq a1 (.seq a2 (.seq (.region id #[{ dst:=some s,op:=.makeFunc (.func g) #[] #[.tmp c1,.tmp c2],type:=t1,pos:=p1,after:=Fq,guard:=none },{ dst:=none,op:=.defer { callee:=.value (.tmp s),args:=#[],argTypes:=#[] },type:=t2,pos:=p2,after:=Fu,guard:=none }] false) r))))
  (hg:P.funcs[g]? = some gn) (hgn:(gn.name == "runtime.NumGoroutine") = false) (hgb:gn.body.isSome = true) {cf:CF} {ca cb:CC} {ha hb' ra rb:List Hi}
  (hca:comp P X (TK fn.ntmps) (.seq a1 a2) ha = some (ca,ra)) (hcb:comp P X (SG fn.ntmps [c1,c2]) r hb' = some (cb,rb)) (hr:mV P fn.results.toList = some cf.res) (hnp:cf.np ≤ fn.ntmps) (hs:s < fn.ntmps) (hs1:c1 ≠ s) (hs2:c2 ≠ s) {D:St → Option St}
  (hD:∀ (bG:Nat → Prop) (w0:World) (bF:List Nat) (N:Fr) (jg:Nat → Value) (σ σ':St) (a:Act) (w:World),Ok bG w0 bF N jg σ a w → D σ = some σ' → CallsD P g #[a.tmps.getD c1 undef,a.tmps.getD c2 undef] .returning w fun e u w'=>u = .returning ∧ (∃ v,e = .returned v) ∧ Ok bG w0 bF N jg σ' a w')
  (F:Nat):Sat P f (LQ Γ F ca cb s D cf):=by
 intro fJ rs rD hE Fz w vals bs Wz hnd hap hfz
 unfold LQ at hE
 split at hE
 ·cases hE
 rename_i hlen
 have hlen':fJ.length = cf.np:=Decidable.not_not.mp hlen
 have hvl:vals.length = fJ.length:=Wz.len
 obtain ⟨e,h1,hE⟩:=zbm hE
 obtain ⟨p,h2,hE⟩:=zbm hE
 refine calls_of_wp_defers hf hb ?_
 have hsz:(vals.toArray ++ Array.replicate (fn.ntmps - vals.toArray.size) undef).size = fn.ntmps:=by simp;omega
 obtain ⟨jg,hok,g2⟩:=entered (bo:=cf.bo) Wz hnd hap hfz hsz h1
 cases hp:p.1 with
 | ext i=>rw [hp] at hE;cases hE
 | ret=>rw [hp] at hE;cases hE
 | iX =>
 rw [hp] at hE
 obtain ⟨q,h3,hEq⟩:=zbm hE
 obtain ⟨x1,hx1,hx2⟩:=zbm hca
 obtain ⟨x2,hx3,hx4⟩:=zmm hx2
 cases hx4
 obtain ⟨y1,hy1,hy2⟩:=zbm h2
 have hyn:y1.1 = .iX ∧ ev Γ F x2.1 y1.2 = some p:=by
  cases hy:y1.1 with
  | iX=>rw [hy] at hy2;exact ⟨rfl,hy2⟩
  | ext i=>rw [hy] at hy2;cases hy2;cases hp
  | ret=>rw [hy] at hy2;cases hy2;cases hp
 obtain ⟨hy3,hy4⟩:=hyn
 refine wp_seq (Du hm heq lW hC a1 hx1 hok hy1 fun b1 u1 k1=>?_)
 rw [hy3]
 refine wp_seq (Du hm heq lW hC a2 hx3 k1 hy4 fun b2 u2 k2=>?_)
 rw [hp]
 refine wp_seq ?_
 have hmk:∀ v1 v2:Value,(Instr.makeFunc (.func g) #[] #[v1,v2]).run P u2 = .ok (.func (.func g) #[] #[v1,v2]) u2:=fun _ _=>rfl
 obtain ⟨v1,hv1⟩:∃ v,v = b2.tmps.getD c1 undef:=⟨_,rfl⟩
 obtain ⟨v2,hv2⟩:∃ v,v = b2.tmps.getD c2 undef:=⟨_,rfl⟩
 obtain ⟨b3,hb3⟩:∃ b,b = b2.put (some s) (.func (.func g) #[] #[v1,v2]):=⟨_,rfl⟩
 have hdef:b2.defers = []:=by obtain ⟨_,_,hr2,_⟩:=k2;exact hr2.l6
 have hsz2:b2.tmps.size = fn.ntmps:=by obtain ⟨_,_,hr2,_⟩:=k2;exact hr2.sz
 have hk3:Ok Fz w bs (Fr.of fn.ntmps) jg ⟨put p.2.tm s (.c (.one .any)),p.2.ob⟩ b3 u2:=by
  obtain ⟨F2,EY,hr2,hk2⟩:=k2
  rw [hb3]
  exact ⟨F2,EY,hr2.put (by simpa [Fr.of,TK] using hs) (pv:=.c (.one .any)) trivial,hk2⟩
 have hts:∀ d,d ≠ s → b3.tmps.getD d undef = b2.tmps.getD d undef:=fun d hd=>by
  rw [hb3]
  simp only [Act.put,Array.getD_eq_getD_getElem?,Array.getElem?_setIfInBounds]
  rw [if_neg (fun e=>hd e.symm)]
 obtain ⟨N1,hN1⟩:∃ N:Fr,N = ⟨fn.ntmps,[{ target:=.fn (.func g) #[v1,v2],args:=#[] }],SG fn.ntmps [c1,c2],fun d h=>by simp [SG] at h;omega,fun d=>b3.tmps.getD d undef⟩:=⟨_,rfl⟩
 have hk4:=hk3.reN N1 (by rw [hN1];rfl) (fun d _=>by rw [hN1])
 refine wp_region_lit (l:=[_,_]) ?_
 unfold wpList
 rw [if_pos (show Region.wanted _ _ = true from rfl)]
 left
 have r1:(execOp b2.eval { dst:=some s,op:=.makeFunc (.func g) #[] #[.tmp c1,.tmp c2],type:=t1,pos:=p1,after:=Fq,guard:=none }).run P u2 = .ok (.value (.func (.func g) #[] #[v1,v2])) u2:=by
  unfold execOp
  simp [Act.eval,hmk,← hv1,← hv2]
 unfold Oper.wp
 rw [r1]
 show wpList P _ _ _ (b2.put (some s) _) u2
 rw [← hb3]
 unfold wpList
 rw [if_pos (show Region.wanted _ _ = true from rfl)]
 left
 have r2:(execOp b3.eval { dst:=none,op:=.defer { callee:=.value (.tmp s),args:=#[],argTypes:=#[] },type:=t2,pos:=p2,after:=Fu,guard:=none }).run P u2 = .ok (.defer { target:=.fn (.func g) #[v1,v2],args:=#[] }) u2:=by
  have hvs:b3.eval (.tmp s) = .func (.func g) #[] #[v1,v2]:=by
   rw [hb3]
   simp only [Act.eval,Act.put,Array.getD_eq_getD_getElem?,Array.getElem?_setIfInBounds]
   rw [if_pos trivial,if_pos (by rw [hsz2];exact hs)]
   rfl
  unfold execOp resolve
  simp only [hvs]
  simp [Deferred.ofValue]
 unfold Oper.wp
 rw [r2]
 show wpList P _ _ _ { b3 with defers:={ target:=.fn (.func g) #[v1,v2],args:=#[] } :: b3.defers } u2
 unfold wpList
 show r.wp P _ _ _
 have hd3:b3.defers = []:=by rw [hb3];exact hdef
 rw [hd3]
 rw [hN1] at hk4
 refine Du hm heq lW hC r hcb hk4 h3 fun b4 u4 k4=>?_
 have hkeep:∀ d,(d = c1 ∨ d = c2) → b4.tmps.getD d undef = b3.tmps.getD d undef:=fun d hd=>by
  obtain ⟨_,_,hr4,_⟩:=k4
  exact hr4.fs d (by simp [SG];rcases hd with rfl | rfl <;> simp)
 have hds:b4.defers = [{ target:=.fn (.func g) #[v1,v2],args:=#[] }]:=by obtain ⟨_,_,hr4,_⟩:=k4;exact hr4.l6
 have fin:(∃ t,D q.2 = some t ∧ ((jQ t e.1 fJ).bind fun b=>(slots b.2 cf.res).bind fun l=>(mh cf.ro b.2 l).map fun r=>(r.1,b.1)) = some (rs,rD)) → Leaves P fn b4.tmps (fun e w'=>∃ bJ uK b1 b2,e = .returned (ret uK) ∧ Post Fz w vals bs rs rD bJ w' uK b1 b2) b4.defers .returning u4:=by
  rintro ⟨t,d1,d2⟩
  rw [hds]
  refine leaves_cons (f:=g) (args:=#[v1,v2]) (by simp) ?_ ?_
  ·show (callFunc g (#[] ++ #[v1,v2])).run P u4 = _
   rw [oC hg hgn hgb]
   simp
  ·have hcd:=hD Fz w bs _ jg q.2 t b4 u4 k4 d1
   rw [hkeep c1 (.inl rfl),hkeep c2 (.inr rfl),hts c1 hs1,hts c2 hs2,← hv1,← hv2] at hcd
   refine hcd.mono ?_
   rintro e' u' w' ⟨rfl,⟨v,rfl⟩,k5⟩
   show Leaves P fn b4.tmps _ [] (settle .returning) w'
   obtain ⟨_,v',g3,g4⟩:=Lc hr Wz hap hfz g2 b4 w' k5 d2
   exact ⟨v',g3,g4⟩
 cases hq:q.1 with
 | ext i=>rw [hq] at hEq;cases hEq
 | iX =>
  rw [hq] at hEq
  obtain ⟨t,d1,d2⟩:=zbm hEq
  exact fin ⟨t,d1,d2⟩
 | ret =>
  rw [hq] at hEq
  obtain ⟨t,d1,d2⟩:=zbm hEq
  exact fin ⟨t,d1,d2⟩
noncomputable def ZF (Γ:Env) (F:Nat) (cc:CC) (c1 c2:Nat) (σ:St):Option St:=match get σ.tm c1,get σ.tm c2 with
 | some x,some y=>(ev Γ F cc ⟨[(0,x),(1,y)],σ.ob⟩).bind fun p=>match p.1 with
  | .ext _=>none
  | _=>(get p.2.tm 0).map fun z=>⟨[(c1,z)],p.2.ob⟩
 | _,_=>none
theorem Vr (hm:P.follows .mixedOrders = true) (heq:∀ t ∈ X.eqs,lD P t) (lW:iJ P Γ) (hC:eB P Γ) {g:FuncId} {gn:Func} {c:Code} {cc:CC} {h1 h2:List Hi} {c1 c2:Nat} (hg:P.funcs[g]? = some gn) (hb:gn.body = some c) (hc:comp P X (SG gn.ntmps [0]) c h1 = some (cc,h2)) (hr:gn.results = #[]) (hn:2 ≤ gn.ntmps) (F:Nat)
  (bG:Nat → Prop) (w0:World) (bF:List Nat) (N:Fr) (jg:Nat → Value) (σ σ':St) (a:Act) (w:World) (hO:Ok bG w0 bF N jg σ a w) (hd:ZF Γ F cc c1 c2 σ = some σ') :
  CallsD P g #[a.tmps.getD c1 undef,a.tmps.getD c2 undef] .returning w fun e u w'=>u = .returning ∧ (∃ v,e = .returned v) ∧ Ok bG w0 bF N jg σ' a w':=by
 unfold ZF at hd
 split at hd
 ·rename_i x y hx hy
  obtain ⟨p,h3,hd⟩:=zbm hd
  obtain ⟨b0,hb0⟩:∃ b:Act,b = { tmps:=#[a.tmps.getD c1 undef,a.tmps.getD c2 undef] ++ Array.replicate (gn.ntmps - 2) undef,defers:=[] }:=⟨_,rfl⟩
  have e0:b0.tmps.getD 0 undef = a.tmps.getD c1 undef:=by rw [hb0];simp [Array.getD_eq_getD_getElem?,Array.getElem?_append]
  have e1:b0.tmps.getD 1 undef = a.tmps.getD c2 undef:=by rw [hb0];simp [Array.getD_eq_getD_getElem?,Array.getElem?_append]
  obtain ⟨N',hN'⟩:∃ N:Fr,N = ⟨gn.ntmps,[],SG gn.ntmps [0],fun d h=>by simp [SG] at h;omega,fun d=>b0.tmps.getD d undef⟩:=⟨_,rfl⟩
  have Dt:Ok bG w0 bF N' jg ⟨[(0,x),(1,y)],σ.ob⟩ b0 w:=by
   obtain ⟨Fz,κ,hr,hk⟩:=hO
   refine ⟨Fz,κ,⟨fun p hp=>?_,by rw [hb0,hN'];simp;omega,by rw [hb0,hN'],fun d _=>by rw [hN'],hr.ob,hr.uG,hr.pos,hr.fz,hr.zk,hr.big,hr.ext,hr.kp⟩,hk⟩
   simp only [List.mem_cons,List.not_mem_nil,or_false] at hp
   rcases hp with rfl | rfl
   ·rw [e0];exact hr.val hx
   ·rw [e1];exact hr.val hy
  have main:∀ b u,Ok bG w0 bF N' jg p.2 b u → (∃ z,get p.2.tm 0 = some z ∧ σ' = ⟨[(c1,z)],p.2.ob⟩) → b.defers = [] ∧ ∃ v,(results gn b.tmps).run P u = .ok v u ∧ (∃ v',Ending.returned v = .returned v') ∧ Ok bG w0 bF N jg σ' a u:=by
   rintro b u ⟨Fz,κ,hr2,hk2⟩ ⟨z,hz,rfl⟩
   refine ⟨by have:=hr2.l6;rw [this,hN'],.tuple #[],?_,⟨_,rfl⟩,?_⟩
   ·unfold results
    rw [hr]
    simp
   ·obtain ⟨_,_,hr,_⟩:=hO
    refine ⟨Fz,κ,⟨fun p hp=>?_,hr.sz,hr.l6,hr.fs,hr2.ob,hr2.uG,hr2.pos,hr2.fz,hr2.zk,hr2.big,hr2.ext,hr2.kp⟩,hk2⟩
    simp only [List.mem_cons,List.not_mem_nil,or_false] at hp
    subst hp
    have h5:b.tmps.getD 0 undef = N'.vs 0:=hr2.fs 0 (by rw [hN'];simp [SG])
    have h6:N'.vs 0 = a.tmps.getD c1 undef:=by rw [hN'];exact e0
    show jf Fz κ u z (a.tmps.getD c1 undef)
    rw [← h6,← h5]
    exact hr2.val hz
  refine callsD_of_wp hg hb ?_
  have hst:({ tmps:=#[a.tmps.getD c1 undef,a.tmps.getD c2 undef] ++ Array.replicate (gn.ntmps - (#[a.tmps.getD c1 undef,a.tmps.getD c2 undef]:Array Value).size) undef,defers:=[] }:Act) = b0:=by rw [hb0];rfl
  rw [hst]
  rw [hN'] at Dt
  refine Du hm heq lW hC c hc Dt h3 fun b u hk=>?_
  rw [← hN'] at hk
  cases hp:p.1 with
  | ext i=>rw [hp] at hd;cases hd
  | iX =>
   rw [hp] at hd
   obtain ⟨z,hz,rfl⟩:=zmm hd
   exact main b u hk ⟨z,hz,rfl⟩
  | ret =>
   rw [hp] at hd
   obtain ⟨z,hz,rfl⟩:=zmm hd
   exact main b u hk ⟨z,hz,rfl⟩
 ·cases hd
end
end Go.Proofs.Ytfokaoeinpnagaa.Ev
namespace Go.Proofs.Ytfokaoeinpnagaa.Ev
open Go
open Go.ChangeMaps (setBlock)
def ofS : SV → FV
 | .int k n=>.int k n
 | .bool b=>.bool b
 | .str s=>.str s
def kvC : KV → CV
 | .one x=>.one (.f (ofS x))
 | .agg xs=>.agg (xs.map fun x=>.f (ofS x))
def LU (step:St → KV → Option St) (σ:St):List KV → Option St
 | []=>some σ
 | k :: l=>(step σ k).bind fun τ=>LU step τ l
open Classical in
noncomputable def SH (step:St → KV → Option St) (σ:St) (l:List KV):Option St :=
 if ∃ τ,∀ m:List KV,m.Perm l → LU step σ m = some τ then LU step σ l else none
def DT (ks os:List Nat) (σ:St):St:=⟨pick ks σ.tm,pick os σ.ob⟩
def FM (σ:St) (os:List Nat) (s:Nat):Option (List KV):=match get σ.tm s with
 | some (.c (.one (.mp key)))=>if os.contains key then none else match get σ.ob key with
  | some (.map _ ents)=>some (ents.map (·.1))
  | _=>none
 | _=>none
noncomputable def G8 (Γ:Env) (F:Nat) (ks os:List Nat) (s:Nat) (g6:List G) (k6:List Nat) (cb:CC) (σ:St) (k:KV):Option St :=
 (xg Γ false g6 ⟨put σ.tm s (.c (kvC k)),σ.ob⟩).bind fun t=>(ev Γ F cb ⟨pick k6 t.tm,t.ob⟩).bind fun p=>match p.1 with
  | .iX=>some (DT ks os p.2)
  | _=>none
noncomputable def fin (cf:CF) (mP:List CV) (fJ:List AV) (σ:St):Option (List AV × List AV):=(jQ σ mP fJ).bind fun b=>(slots b.2 cf.res).bind fun l=>(mh cf.ro b.2 l).map fun r=>(r.1,b.1)
noncomputable def ZG (Γ:Env) (F:Nat) (ca:CC) (g4:List G) (sm:Nat) (ks os:List Nat) (s:Nat) (g6:List G) (k6:List Nat) (cb cc:CC) (cf:CF) (fJ:List AV):Option (List AV × List AV) :=
 if fJ.length ≠ cf.np then none else (enter cf.bo 0 [] ⟨[],[]⟩ fJ).bind fun e=>(ev Γ F ca e.2).bind fun p=>match p.1 with
  | .ext _=>none
  | .ret=>fin cf e.1 fJ p.2
  | .iX=>(xg Γ false g4 p.2).bind fun t=>(FM t os sm).bind fun l=>(SH (G8 Γ F ks os s g6 k6 cb) (DT ks os t) l).bind fun t=>(ev Γ F cc t).bind fun q=>match q.1 with
   | .ext _=>none
   | _=>fin cf e.1 fJ q.2
section
variable {P : Program} {Γ:Env} {bG Fz bJ:Nat → Prop} {w0 w w':World} {bF bs:List Nat} {N N':Fr} {F:Nat} {κ fq jg:Nat → Value} {σ fF σ':St} {a a':Act} {X:Hx}
def blks (κ:Nat → Value) (ob:List (Nat × Ob)):List Nat:=ob.filterMap fun p=>blk (κ p.1)
theorem DU {b:Nat} {ob:List (Nat × Ob)}:b ∈ blks κ ob ↔ ∃ p ∈ ob,blk (κ p.1) = some b:=List.mem_filterMap
theorem Rel.base (h:Rel bG w0 bF N Fz κ σ a w):Rel Fz w (blks κ σ.ob) N Fz κ σ a w :=
 ⟨h.tm,h.sz,h.l6,h.fs,h.ob,h.uG,fun p hp b hb=>⟨(h.pos p hp b hb).1,(h.pos p hp b hb).2.1,.inl (DU.mpr ⟨p,hp,hb⟩)⟩,fun b hb=>⟨(h.fz b hb).1,.inl hb⟩,fun _ h=>h,Nat.le_refl _,fun _ _ _=>rfl,⟨rfl,rfl⟩⟩
theorem Rel.old (h:Rel bG w0 bF N Fz κ σ a w) {b:Nat} (hb:b ∈ blks κ σ.ob):¬ Fz b ∧ b < w.heap.size ∧ (b ∈ bF ∨ w0.heap.size ≤ b):=by
 obtain ⟨p,hp,hb⟩:=DU.mp hb
 exact h.pos p hp b hb
end
end Go.Proofs.Ytfokaoeinpnagaa.Ev
set_option maxRecDepth 4000
namespace Go.Proofs.Ytfokaoeinpnagaa.Ev
open Go
section
variable {Γ : Env} {F s sm:Nat} {ks os k6:List Nat} {g4 g6:List G} {ca cb cc:CC} {cf:CF} {fJ:List AV} {mP:List CV} {σ:St} {kk:KV}
def Xz : Out → (Unit → Prop) → (Unit → Prop) → Prop
 | .ret,A,_=>A ()
 | .iX,_,B=>B ()
 | .ext _,_,_=>False
@[go_sem] theorem acM {A B:Unit → Prop}:Xz .ret A B ↔ A ():=Iff.rfl
@[go_sem] theorem acN {A B:Unit → Prop}:Xz .iX A B ↔ B ():=Iff.rfl
def kB : Option Ob → Option (List KV)
 | some (.map _ ents)=>some (ents.map (·.1))
 | _=>none
def kA (os:List Nat) (ob:List (Nat × Ob)):Option PV → Option (List KV)
 | some (.c (.one (.mp key)))=>if os.contains key then none else kB (get ob key)
 | _=>none
@[go_sem] theorem afh {sh:KS} {ents:List (KV × FC)}:kB (some (.map sh ents)) = some (ents.map (·.1)):=rfl
@[go_sem] theorem XA : FM σ os s = kA os σ.ob (get σ.tm s):=rfl
@[go_sem] theorem ZH : DT ks os σ = ⟨pick ks σ.tm,pick os σ.ob⟩:=rfl
@[go_sem ↓] theorem agI {k:List AV × List AV → Prop} {u:Tok k}:W k u (fin cf mP fJ σ) ↔ W (fun b=>W (fun l=>W (fun r=>k (r.1,b.1)) ⟨⟩ (mh cf.ro b.2 l)) ⟨⟩ (slots b.2 cf.res)) ⟨⟩ (jQ σ mP fJ):=by
 simp only [fin,dN,bq,bX]
@[go_sem ↓] theorem acO {k:St → Prop} {u:Tok k}:W k u (G8 Γ F ks os s g6 k6 cb σ kk) ↔ W (fun t=>W (fun p=>p.1 = .iX ∧ k (DT ks os p.2)) ⟨⟩ (ev Γ F cb ⟨pick k6 t.tm,t.ob⟩)) ⟨⟩ (xg Γ false g6 ⟨put σ.tm s (.c (kvC kk)),σ.ob⟩):=by
 simp only [G8,dN,bq]
 refine cK fun t=>cK fun p=>?_
 obtain ⟨o,σ'⟩:=p
 cases o <;> simp [jm,bH]
@[go_sem ↓] theorem afi {k:List AV × List AV → Prop} {u:Tok k}:W k u (ZG Γ F ca g4 sm ks os s g6 k6 cb cc cf fJ) ↔ fJ.length = cf.np ∧ W (fun e=>W (fun p=>Xz p.1 (fun _=>W k ⟨⟩ (fin cf e.1 fJ p.2)) (fun _=>W (fun t=>W (fun l=>W (fun t=>W (fun q=>(∀ id,q.1 ≠ .ext id) ∧ W k ⟨⟩ (fin cf e.1 fJ q.2)) ⟨⟩ (ev Γ F cc t)) ⟨⟩ (SH (G8 Γ F ks os s g6 k6 cb) (DT ks os t) l)) ⟨⟩ (FM t os sm)) ⟨⟩ (xg Γ false g4 p.2))) ⟨⟩ (ev Γ F ca e.2)) ⟨⟩ (enter cf.bo 0 [] ⟨[],[]⟩ fJ):=by
 simp only [ZG,dN,dw,bq,ne_eq,Decidable.not_not]
 refine and_congr Iff.rfl (cK fun e=>cK fun p=>?_)
 obtain ⟨o,σ'⟩:=p
 cases o with
 | ext i=>simp [jm,Xz]
 | ret=>simp only [Xz]
 | iX =>
  simp only [Xz,bq]
  refine cK fun t=>cK fun l=>cK fun t'=>cK fun q=>?_
  obtain ⟨o,σ'⟩:=q
  cases o <;> simp [jm]
end
end Go.Proofs.Ytfokaoeinpnagaa.Ev
namespace Go.Proofs.Ytfokaoeinpnagaa.Kc.Ne
open Go Ev
variable {ext : Env} {F n:Nat} {θ:Th} {gt:ByteArray → Int → Int → Int × Bool}
end Go.Proofs.Ytfokaoeinpnagaa.Kc.Ne
set_option maxRecDepth 4000
namespace Go.Proofs.Ytfokaoeinpnagaa.Kc
open Go Ev
variable {ext : Env} {F n:Nat} {θ:Th}
def qQ (now u:Int):Int:=if jV now u = true then (if 604800 < u - now then 604800 else u - now) else 0
def O9 (r:Int):Bool:=decide (3 ≤ r ∧ r ≤ 5)
theorem Pb {now u:Int} (h:jV now u = true) (hu:u ≤ 4611686018427387904):IntKind.i64.wrap (u - now) = u - now:=by
 unfold jV OV at h
 simp only [Bool.and_eq_true,decide_eq_true_eq] at h
 exact zC (by omega) (by omega)
theorem G9 (now u:Int) (hu:u ≤ 4611686018427387904):G ext F (n + 3) 62 [vi now,vi u] = some ([vi (qQ now u)],[vi now,vi u]):=by
 refine eD (cf:=Zt) rfl ?_
 cases h:jV now u with
 | false =>
  have e:qQ now u = 0:=by unfold qQ;rw [h];rfl
  rw [e]
  simp only [Zt,jD,h,go_sem,Nat.reduceAdd,Nat.reduceMul,Nat.reduceEqDiff,Nat.reduceBEq,Nat.reduceMod,Nat.reduceDiv,↓reduceIte,reduceCtorEq]
 | true =>
  have e:qQ now u = if 604800 < u - now then 604800 else u - now:=by unfold qQ;rw [h];rfl
  have hw:=Pb h hu
  rw [e]
  simp only [Zt,jD,h,hw,go_sem,Nat.reduceAdd,Nat.reduceMul,Nat.reduceEqDiff,Nat.reduceBEq,Nat.reduceMod,Nat.reduceDiv,↓reduceIte,reduceCtorEq]
theorem DV (r:Int):G ext F (n + 2) 61 [vi r] = some ([vb (O9 r)],[vi r]):=by
 refine eD (cf:=c61) rfl ?_
 simp only [c61,Fx,go_sem,Nat.reduceAdd,Nat.reduceMul,Nat.reduceEqDiff,Nat.reduceBEq,Nat.reduceMod,Nat.reduceDiv,↓reduceIte,reduceCtorEq]
 all_goals (simp [O9])
structure kR where
 s:Se
 left:Int
def BO : Se:=⟨⟨#[]⟩,0,0,[],0⟩
def lH : kR:=⟨BO,0⟩
structure Ch where
 hits:List kR
 e:Int
 nm:ByteArray
 wo:kR
def rH (x:kR):List FV:=[.str x.s.q,.int .i64 x.s.t,.int .i64 x.s.c,.sl (x.s.d.map fB),.int .i64 x.s.ttl,.int .i64 x.left]
abbrev kR.v (x:kR):AV:=.agg [.f (.str x.s.q),.f (.int .i64 x.s.t),.f (.int .i64 x.s.c),.f (.sl (x.s.d.map fB)),.f (.int .i64 x.s.ttl),.f (.int .i64 x.left)]
abbrev Ch.v (x:Ch):AV:=.agg [.f (.sl (x.hits.map rH)),.f (.int .i64 x.e),.f (.str x.nm),.f (.str x.wo.s.q),.f (.int .i64 x.wo.s.t),.f (.int .i64 x.wo.s.c),.f (.sl (x.wo.s.d.map fB)),.f (.int .i64 x.wo.s.ttl),.f (.int .i64 x.wo.left)]
def tl (pk:Qn → It × Bool) (now:Int) (q:Qn):Option kR:=if (pk q).2 = true ∧ O9 (pk q).1.r = true then some ⟨⟨(pk q).1.q,(pk q).1.t,(pk q).1.c,(pk q).1.d,(pk q).1.ttl⟩,qQ now (pk q).1.u⟩ else none
def tg (nm:Int → ByteArray → List ByteArray) (s:Se):Option ByteArray:=if s.t = 5 then s.d.head?.bind fun d=>(nm 5 d).head? else none
def al (nm:Int → ByteArray → List ByteArray) (pk:Qn → It × Bool) (now:Int) (q:Qn):Option (kR × ByteArray):=if q.t = 5 then none else (tl pk now ⟨q.q,5,q.c⟩).bind fun h=>(tg nm h.s).map fun to=>(h,to)
def fin (fd:Qn → Ne.Nt × Bool) (now:Int) (hits:List kR) (q:Qn):Ch:=if (fd q).2 = true then ⟨hits,if (fd q).1.nx = true then 2 else 1,q.q,⟨(fd q).1.s,qQ now (fd q).1.u⟩⟩ else ⟨hits,3,q.q,lH⟩
def NP (nm:Int → ByteArray → List ByteArray) (pk:Qn → It × Bool) (fd:Qn → Ne.Nt × Bool) (now:Int):Nat → List ByteArray → List kR → Qn → Ch
 | 0,_,hits,q=>⟨hits,4,q.q,lH⟩
 | f + 1,met,hits,q=>match tl pk now q with
  | some h=>⟨hits ++ [h],0,q.q,lH⟩
  | none=>match al nm pk now q with
   | none=>fin fd now hits q
   | some (h,to)=>if 8 ≤ hits.length ∨ yc met to = true then ⟨hits ++ [h],4,q.q,lH⟩ else NP nm pk fd now f (met ++ [to]) (hits ++ [h]) ⟨to,q.t,q.c⟩
def BP (nm:Int → ByteArray → List ByteArray) (pk:Qn → It × Bool) (fd:Qn → Ne.Nt × Bool) (now:Int) (q:Qn):Ch:=NP nm pk fd now 9 [q.q] [] q
end Go.Proofs.Ytfokaoeinpnagaa.Kc
set_option maxRecDepth 4000
namespace Go.Proofs.Ytfokaoeinpnagaa.Kc
open Go Ev
variable {ext : Env} {F n:Nat} {θ:Th} {nm:Int → ByteArray → List ByteArray}
structure BQ (nm:Int → ByteArray → List ByteArray) (ext:Env):Prop where
 n0:∀ k q,q.size ≤ 1000000 → ext 29 [vi k,vs q] = some ([vl ((nm k q).map fB)],[vi k,vs q])
 n1:∀ k q,q.size ≤ 1000000 → ext 30 [vi k,vs q] = some ([vl ((nm k q).map fB)],[vi k,vs q])
theorem ZI (M:BQ nm ext) (k:Int) (q:ByteArray) (h:q.size ≤ 1000000):G ext F (n + 1) 29 [vi k,vs q] = some ([vl ((nm k q).map fB)],[vi k,vs q]):=(congrFun (nW rfl) _).trans (M.n0 k q h)
def vG (nm:Int → ByteArray → List ByteArray) (s:Se):ByteArray × Bool:=match tg nm s with
 | some x=>(x,true)
 | none=>(⟨#[]⟩,false)
theorem LV {s:Se} (h:s.t ≠ 5):vG nm s = (⟨#[]⟩,false):=by unfold vG tg;rw [if_neg h]
theorem Vs {s:Se} (h:s.d = []):vG nm s = (⟨#[]⟩,false):=by unfold vG tg;rw [h];by_cases h5:s.t = 5 <;> simp [h5]
theorem Pf {s:Se} {y:ByteArray} {d:List ByteArray} (h5:s.t = 5) (h:s.d = y :: d) (hn:nm 5 y = []):vG nm s = (⟨#[]⟩,false):=by unfold vG tg;rw [if_pos h5,h];show (match ((nm 5 y).head?:Option ByteArray) with | some x=>(x,true) | none=>(⟨#[]⟩,false)) = _;rw [hn];rfl
theorem Pg {s:Se} {y z:ByteArray} {d l:List ByteArray} (h5:s.t = 5) (h:s.d = y :: d) (hn:nm 5 y = z :: l):vG nm s = (z,true):=by unfold vG tg;rw [if_pos h5,h];show (match ((nm 5 y).head?:Option ByteArray) with | some x=>(x,true) | none=>(⟨#[]⟩,false)) = _;rw [hn];rfl
theorem qc (M:BQ nm ext) (s:Se) (hd:∀ y ∈ s.d,y.size ≤ 1000000):G ext F (n + 2) 10 [s.v] = some ([vs (vG nm s).1,vb (vG nm s).2],[s.v]):=by
 refine eD (cf:=c10) rfl ?_
 by_cases h5:s.t = 5
 ·have h5':decide (s.t = 5) = true:=decide_eq_true h5
  cases hy:s.d with
  | nil =>
   rw [Vs hy]
   simp only [Se.v,sP,hy,List.map_nil]
   simp only [c10,h5',List.length_nil,show decide (((0:Nat):Int) = 0) = true from rfl,go_sem,Nat.reduceAdd,Nat.reduceMul,Nat.reduceEqDiff,Nat.reduceBEq,Nat.reduceMod,Nat.reduceDiv,↓reduceIte,reduceCtorEq]
   simp [hy]
  | cons y ds =>
   have hlen:decide ((((List.map fB ds).length + 1:Nat):Int) = 0) = false:=by simp;omega
   have h1:=fun n=>ZI (F:=F) (n:=n) M 5 y (hd y (by rw [hy];simp))
   cases hz:nm 5 y with
   | nil =>
    rw [Pf h5 hy hz]
    rw [hz] at h1
    simp only [Se.v,sP,hy,List.map_cons,List.map_nil,fB] at h1 ⊢
    simp only [c10,h5',hlen,h1,List.getElem?_cons_zero,Int.toNat_zero,List.length_nil,show decide (((0:Nat):Int) = 0) = true from rfl,go_sem,Nat.reduceAdd,Nat.reduceMul,Nat.reduceEqDiff,Nat.reduceBEq,Nat.reduceMod,Nat.reduceDiv,↓reduceIte,reduceCtorEq]
    exact ⟨Int.le_refl _,by simp [hy,fB]⟩
   | cons z zs =>
    rw [Pg h5 hy hz]
    rw [hz] at h1
    have ZJ:decide ((((List.map fB zs).length + 1:Nat):Int) = 0) = false:=by simp;omega
    simp only [Se.v,sP,hy,List.map_cons,fB] at h1 ⊢
    simp only [c10,h5',hlen,ZJ,h1,List.getElem?_cons_zero,Int.toNat_zero,go_sem,Nat.reduceAdd,Nat.reduceMul,Nat.reduceEqDiff,Nat.reduceBEq,Nat.reduceMod,Nat.reduceDiv,↓reduceIte,reduceCtorEq]
    exact ⟨Int.le_refl _,Int.le_refl _,by simp [hy,fB]⟩
 ·have h5':decide (s.t = 5) = false:=decide_eq_false h5
  rw [LV h5]
  simp only [c10,h5',go_sem,Nat.reduceAdd,Nat.reduceMul,Nat.reduceEqDiff,Nat.reduceBEq,Nat.reduceMod,Nat.reduceDiv,↓reduceIte,reduceCtorEq]
abbrev Sv.tv (s:Sv):TV:=.ptr [.f (.int .i64 s.room),.mp Ah (s.m.map ent),.f (.sl (s.o.map rQ)),.f (.int .i64 s.ch)]
abbrev nvt (s:Ne.Nv):TV:=.ptr [.f (.int .i64 s.room),.mp Ne.Ah (s.m.map Ne.ent),.f (.sl (s.o.map rQ)),.f (.int .i64 s.ch)]
abbrev XB (s:Sv) (m:Ne.Nv) (now:Int):AV:=.agg [s.tv,nvt m,.f (.int .i64 now)]
def He (pk:Qn → It × Bool) (now:Int) (q:Qn):kR × Bool:=match tl pk now q with
 | some h=>(h,true)
 | none=>(lH,false)
theorem DW (C:nD ext) (s:Sv) (m:Ne.Nv) (now:Int) (q:Qn) (hd:∀ x ∈ s.m,x.d.length ≤ 1000000) (hu:∀ x ∈ s.m,x.u ≤ 4611686018427387904):G ext F (n + 4) 34 [XB s m now,q.v] = some ([(He (d9 s now) now q).1.v,vb (He (d9 s now) now q).2],[XB s m now,q.v]):=by
 refine eD (cf:=c34) rfl ?_
 have h1:=fun n=>O1 (ext:=ext) (F:=F) (n:=n) C s now q hd
 have hlu:=fun n=>G9 (ext:=ext) (F:=F) (n:=n) now (d9 s now q).1.u (by
  unfold d9
  split
  ·rename_i x ho
   split
   ·exact hu x (mW ho).2
   ·show (0:Int) ≤ _;omega
  ·show (0:Int) ≤ _;omega)
 unfold He tl
 cases hv:(d9 s now q).2 with
 | false =>
  rw [hv] at h1
  simp only [c34,h1,go_sem,Nat.reduceAdd,Nat.reduceMul,Nat.reduceEqDiff,Nat.reduceBEq,Nat.reduceMod,Nat.reduceDiv,↓reduceIte,reduceCtorEq]
  rfl
 | true =>
  rw [hv] at h1
  cases ht:O9 (d9 s now q).1.r with
  | false =>
   simp only [c34,h1,DV,ht,go_sem,Nat.reduceAdd,Nat.reduceMul,Nat.reduceEqDiff,Nat.reduceBEq,Nat.reduceMod,Nat.reduceDiv,↓reduceIte,reduceCtorEq]
   rfl
  | true =>
   simp only [c34,h1,DV,ht,hlu,go_sem,Nat.reduceAdd,Nat.reduceMul,Nat.reduceEqDiff,Nat.reduceBEq,Nat.reduceMod,Nat.reduceDiv,↓reduceIte,reduceCtorEq]
def SI (nm:Int → ByteArray → List ByteArray) (pk:Qn → It × Bool) (now:Int) (q:Qn):kR × (ByteArray × Bool):=if q.t = 5 then (lH,(⟨#[]⟩,false)) else ((He pk now ⟨q.q,5,q.c⟩).1,vG nm (He pk now ⟨q.q,5,q.c⟩).1.s)
theorem LW (M:BQ nm ext) (C:nD ext) (s:Sv) (m:Ne.Nv) (now:Int) (q:Qn) (hd:∀ x ∈ s.m,x.d.length ≤ 1000000) (hu:∀ x ∈ s.m,x.u ≤ 4611686018427387904) (hy:∀ x ∈ s.m,∀ y ∈ x.d,y.size ≤ 1000000):G ext F (n + 5) 35 [XB s m now,q.v] = some ([(SI nm (d9 s now) now q).1.v,vs (SI nm (d9 s now) now q).2.1,vb (SI nm (d9 s now) now q).2.2],[XB s m now,q.v]):=by
 refine eD (cf:=Sz) rfl ?_
 have h1:=fun n=>DW (F:=F) (n:=n) C s m now ⟨q.q,5,q.c⟩ hd hu
 have hsz:∀ y ∈ (He (d9 s now) now ⟨q.q,5,q.c⟩).1.s.d,y.size ≤ 1000000:=by
  have h0:∀ y ∈ (d9 s now ⟨q.q,5,q.c⟩).1.d,y.size ≤ 1000000:=by
   unfold d9
   split
   ·rename_i x ho
    split
    ·exact hy x (mW ho).2
    ·intro y h;cases h
   ·intro y h;cases h
  unfold He tl
  split
  ·rename_i h he
   split at he
   ·cases he;exact h0
   ·cases he
  ·intro y h;cases h
 have h2:=fun n=>qc (F:=F) (n:=n) M (He (d9 s now) now ⟨q.q,5,q.c⟩).1.s hsz
 unfold SI
 by_cases h5:q.t = 5
 ·have h5':decide (q.t = 5) = true:=decide_eq_true h5
  rw [if_pos h5]
  simp only [Sz,h5',go_sem,Nat.reduceAdd,Nat.reduceMul,Nat.reduceEqDiff,Nat.reduceBEq,Nat.reduceMod,Nat.reduceDiv,↓reduceIte,reduceCtorEq]
  try rfl
 ·have h5':decide (q.t = 5) = false:=decide_eq_false h5
  rw [if_neg h5]
  simp only [Sz,h5',h1,h2,go_sem,Nat.reduceAdd,Nat.reduceMul,Nat.reduceEqDiff,Nat.reduceBEq,Nat.reduceMod,Nat.reduceDiv,↓reduceIte,reduceCtorEq]
  try rfl
def LX (fd:Qn → Ne.Nt × Bool) (now:Int) (c:Ch) (q:Qn):Ch:=if (fd q).2 = true then ⟨c.hits,if (fd q).1.nx = true then 2 else 1,c.nm,⟨(fd q).1.s,qQ now (fd q).1.u⟩⟩ else ⟨c.hits,3,c.nm,c.wo⟩
theorem Ph (C:nD ext) (s:Sv) (m:Ne.Nv) (now:Int) (c:Ch) (q:Qn) (hF:200000000000001 ≤ F) (hd:∀ x ∈ m.m,x.s.d.length ≤ 1000000) (hu:∀ x ∈ m.m,x.u ≤ 4611686018427387904):G ext F (n + 4) 36 [XB s m now,c.v,q.v] = some ([(LX (Ne.gF m now) now c q).v],[XB s m now,c.v,q.v]):=by
 refine eD (cf:=Vi) rfl ?_
 have h1:=fun n=>Ne.LP (F:=F) (n:=n) C m now q hF hd
 have hlu:=fun n=>G9 (ext:=ext) (F:=F) (n:=n) now (Ne.gF m now q).1.u (by
  have h9:∀ b y,Ne.nof m.m now b = some y → y.u ≤ 4611686018427387904:=fun b y hy=>by
   unfold Ne.nof at hy
   split at hy
   ·rename_i y' ho
    split at hy
    ·cases hy;exact hu _ (Ne.mW ho).2
    ·cases hy
   ·cases hy
  unfold Ne.gF
  split
  ·rename_i y hy;exact h9 _ _ hy
  ·unfold Ne.ofR
   split
   ·rename_i y hy;exact h9 _ _ hy
   ·show (0:Int) ≤ _;omega)
 unfold LX
 cases hv:(Ne.gF m now q).2 with
 | false =>
  rw [hv] at h1
  simp only [Vi,h1,go_sem,Nat.reduceAdd,Nat.reduceMul,Nat.reduceEqDiff,Nat.reduceBEq,Nat.reduceMod,Nat.reduceDiv,↓reduceIte,reduceCtorEq]
  try rfl
 | true =>
  rw [hv] at h1
  cases hx:(Ne.gF m now q).1.nx
  all_goals
   simp only [Vi,h1,hx,hlu,go_sem,Nat.reduceAdd,Nat.reduceMul,Nat.reduceEqDiff,Nat.reduceBEq,Nat.reduceMod,Nat.reduceDiv,↓reduceIte,reduceCtorEq]
   try rfl
end Go.Proofs.Ytfokaoeinpnagaa.Kc
set_option maxRecDepth 4000
namespace Go.Proofs.Ytfokaoeinpnagaa.Kc
open Go Ev
variable {ext : Env} {F n:Nat} {θ:Th} {nm:Int → ByteArray → List ByteArray}
abbrev kR.k (x:kR):Qn:=⟨x.s.q,x.s.t,x.s.c⟩
theorem LY (c:Ch) (hl:c.hits.length ≤ 1000000) (hF:200000000000001 ≤ F):G ext F (n + 1) 13 [c.v] = some ([vl ((c.hits.map kR.k).map rQ)],[c.v]):=by
 refine eD (cf:=c13) rfl ?_
 simp only [c13,go_sem,Nat.reduceAdd,Nat.reduceMul,Nat.reduceEqDiff,Nat.reduceBEq,Nat.reduceMod,Nat.reduceDiv,↓reduceIte,reduceCtorEq]
 refine jS c.hits.length (fun i=>⟨[(3,PV.c (CV.one (PL.own 80000 (((c.hits.take i).map kR.k).map rQ).length))),(7,PV.c (CV.one (PL.f (FV.sl (c.hits.map rH))))),(8,PV.c (CV.one (PL.f (FV.int .i64 ((c.hits.map rH).length:Nat))))),(9,PV.c (CV.one (PL.f (FV.int .i64 i))))],[(80000,Ob.row 3 (((c.hits.take i).map kR.k).map rQ))]⟩) (fun i=>True) (by omega) rfl trivial (fun i hi hP=>?_) (fun hP=>?_)
 ·obtain ⟨x,hx,hd,ht,h0⟩:=at_ hi
  have hn:=nx hi (by omega)
  have hw:(c.hits.take i).length = i:=by simp;omega
  have hs:((c.hits.take (i + 1)).map kR.k).map rQ = ((c.hits.take i).map kR.k).map rQ ++ [[.str x.s.q,.int .i64 x.s.t,.int .i64 x.s.c]]:=by rw [List.take_add_one,hx];simp [rQ]
  simp only [List.length_map,List.getElem?_map,hd,hx,ht,h0,rH,hw,hn,go_sem,Nat.reduceAdd,Nat.reduceMul,Nat.reduceEqDiff,Nat.reduceBEq,Nat.reduceMod,Nat.reduceDiv,↓reduceIte,reduceCtorEq]
  rw [hs]
  exact ⟨by omega,by simp [hw];omega⟩
 ·have hd:=@end_ _ c.hits
  simp only [List.length_map,hd,go_sem,Nat.reduceAdd,Nat.reduceMul,Nat.reduceEqDiff,Nat.reduceBEq,Nat.reduceMod,Nat.reduceDiv,↓reduceIte,reduceCtorEq]
  rw [List.take_length]
def uQ (l:List ByteArray):List (KV × FC):=l.map fun s=>(.one (.str s),.one (.int .i64 1))
theorem Hf (l:List ByteArray) (s:ByteArray):vX (uQ l) (.one (.str s)) = l.findIdx? fun x=>decide (x = s):=by
 unfold vX uQ
 rw [List.map_map,List.findIdx?_map]
 refine congrArg (fun p=>List.findIdx? p l) (funext fun x=>?_)
 simp only [Function.comp,KV.one.injEq,SV.str.injEq]
theorem LZ {l:List ByteArray} {s:ByteArray} (h:yc l s = false):qZ (uQ l) (.one (.str s)) = none ∧ vY (uQ l) (.one (.str s)) (.one (.int .i64 1)) = uQ (l ++ [s]):=by
 have:l.findIdx? (fun x=>decide (x = s)) = none:=by
  refine List.findIdx?_eq_none_iff.mpr fun x hx=>?_
  unfold yc at h
  have:=List.any_eq_false.mp h x hx
  simpa using this
 unfold qZ vY
 rw [Hf,this]
 exact ⟨rfl,by simp [uQ]⟩
theorem Pj {l:List ByteArray} {s:ByteArray} (h:yc l s = true):qZ (uQ l) (.one (.str s)) = some (.one (.int .i64 1)):=by
 unfold qZ
 rw [Hf]
 cases hi:l.findIdx? (fun x=>decide (x = s)) with
 | none =>
  have h1:=List.findIdx?_eq_none_iff.mp hi
  unfold yc at h
  obtain ⟨x,hx,he⟩:=List.any_eq_true.mp h
  have:=h1 x hx
  rw [he] at this;cases this
 | some i =>
  obtain ⟨hi', -⟩:=List.findIdx?_eq_some_iff_getElem.mp hi
  show ((uQ l)[i]?.map fun p=>p.2) = _
  unfold uQ
  rw [List.getElem?_map,List.getElem?_eq_getElem hi']
  rfl
theorem Pk {pk:Qn → It × Bool} {now:Int} {q:Qn} (h:al nm pk now q = none):(SI nm pk now q).2.2 = false:=by
 unfold al at h
 unfold SI
 split
 ·rfl
 ·rename_i h5
  rw [if_neg h5] at h
  unfold He
  cases ht:tl pk now ⟨q.q,5,q.c⟩ with
  | none=>exact congrArg Prod.snd (LV (nm:=nm) (s:=lH.s) (by decide))
  | some x =>
   rw [ht] at h
   show (vG nm x.s).2 = false
   unfold vG
   cases hg:tg nm x.s with
   | none=>rfl
   | some to=>rw [Option.bind_some,hg] at h;cases h
theorem Pm {pk:Qn → It × Bool} {now:Int} {q:Qn} {x:kR} {to:ByteArray} (h:al nm pk now q = some (x,to)):SI nm pk now q = (x,(to,true)):=by
 unfold al at h
 unfold SI
 split at h
 ·cases h
 ·rename_i h5
  rw [if_neg h5]
  obtain ⟨y,h1,h2⟩:=zbm h
  obtain ⟨z,h3,h4⟩:=zmm h2
  cases h4
  unfold He
  rw [h1]
  show (x,vG nm x.s) = _
  unfold vG
  rw [h3]
theorem Pn {fd:Qn → Ne.Nt × Bool} {now:Int} {hits:List kR} {q:Qn}:LX fd now ⟨hits,0,q.q,lH⟩ q = fin fd now hits q:=by
 unfold LX fin;rfl
def fT (s:Sv) (m:Ne.Nv) (now:Int) (M:List ByteArray) (hits:List kR) (pn:ByteArray) (q:Qn):St:=match hits with
 | []=>⟨[(7,PV.c (CV.one (PL.ptr 160000 0))),(8,PV.c (CV.one (PL.ptr 180000 0))),(9,PV.c (CV.one (PL.ptr 200000 0))),(10,PV.c (CV.one (PL.ptr 220000 0))),(11,PV.c (CV.one (PL.mp 440000)))],[(20201,Ob.iK [PL.f (FV.int IntKind.i64 s.room),PL.mp 20205,PL.f (FV.sl (List.map rQ s.o)),PL.f (FV.int IntKind.i64 s.ch)]),(20205,Ob.map Ah (List.map ent s.m)),(40201,Ob.iK [PL.f (FV.int IntKind.i64 m.room),PL.mp 40205,PL.f (FV.sl (List.map rQ m.o)),PL.f (FV.int IntKind.i64 m.ch)]),(40205,Ob.map Ne.Ah (List.map Ne.ent m.m)),(160000,Ob.iK [PL.f (FV.str q.q),PL.f (FV.int IntKind.i64 q.t),PL.f (FV.int IntKind.i64 q.c)]),(180000,Ob.iK [PL.dM,PL.f (FV.int IntKind.i64 0),PL.f (FV.str ⟨#[]⟩),PL.f (FV.str ⟨#[]⟩),PL.f (FV.int IntKind.i64 0),PL.f (FV.int IntKind.i64 0),PL.dM,PL.f (FV.int IntKind.i64 0),PL.f (FV.int IntKind.i64 0)]),(200000,Ob.iK [PL.ptr 20201 0,PL.ptr 40201 0,PL.f (FV.int IntKind.i64 now)]),(220000,Ob.iK [PL.dM,PL.f (FV.int IntKind.i64 0),PL.f (FV.str pn),PL.f (FV.str ⟨#[]⟩),PL.f (FV.int IntKind.i64 0),PL.f (FV.int IntKind.i64 0),PL.dM,PL.f (FV.int IntKind.i64 0),PL.f (FV.int IntKind.i64 0)]),(440000,Ob.map (KS.one SK.str) (uQ M))]⟩
 | _=>⟨[(7,PV.c (CV.one (PL.ptr 160000 0))),(8,PV.c (CV.one (PL.ptr 180000 0))),(9,PV.c (CV.one (PL.ptr 200000 0))),(10,PV.c (CV.one (PL.ptr 220000 0))),(11,PV.c (CV.one (PL.mp 440000)))],[(20201,Ob.iK [PL.f (FV.int IntKind.i64 s.room),PL.mp 690004,PL.f (FV.sl (List.map rQ s.o)),PL.f (FV.int IntKind.i64 s.ch)]),(40201,Ob.iK [PL.f (FV.int IntKind.i64 m.room),PL.mp 690204,PL.f (FV.sl (List.map rQ m.o)),PL.f (FV.int IntKind.i64 m.ch)]),(160000,Ob.iK [PL.f (FV.str q.q),PL.f (FV.int IntKind.i64 q.t),PL.f (FV.int IntKind.i64 q.c)]),(180000,Ob.iK [PL.dM,PL.f (FV.int IntKind.i64 0),PL.f (FV.str ⟨#[]⟩),PL.f (FV.str ⟨#[]⟩),PL.f (FV.int IntKind.i64 0),PL.f (FV.int IntKind.i64 0),PL.dM,PL.f (FV.int IntKind.i64 0),PL.f (FV.int IntKind.i64 0)]),(200000,Ob.iK [PL.ptr 20201 0,PL.ptr 40201 0,PL.f (FV.int IntKind.i64 now)]),(220000,Ob.iK [PL.own 1240000 (hits.map rH).length,PL.f (FV.int IntKind.i64 0),PL.f (FV.str pn),PL.f (FV.str ⟨#[]⟩),PL.f (FV.int IntKind.i64 0),PL.f (FV.int IntKind.i64 0),PL.dM,PL.f (FV.int IntKind.i64 0),PL.f (FV.int IntKind.i64 0)]),(440000,Ob.map (KS.one SK.str) (uQ M)),(690004,Ob.map Ah (List.map ent s.m)),(690204,Ob.map Ne.Ah (List.map Ne.ent m.m)),(1240000,.row 6 (hits.map rH))]⟩
theorem BR (s:Sv) (m:Ne.Nv) (now:Int) (M:List ByteArray) (pn:ByteArray) (q:Qn):fT s m now M [] pn q = ⟨[(7,PV.c (CV.one (PL.ptr 160000 0))),(8,PV.c (CV.one (PL.ptr 180000 0))),(9,PV.c (CV.one (PL.ptr 200000 0))),(10,PV.c (CV.one (PL.ptr 220000 0))),(11,PV.c (CV.one (PL.mp 440000)))],[(20201,Ob.iK [PL.f (FV.int IntKind.i64 s.room),PL.mp 20205,PL.f (FV.sl (List.map rQ s.o)),PL.f (FV.int IntKind.i64 s.ch)]),(20205,Ob.map Ah (List.map ent s.m)),(40201,Ob.iK [PL.f (FV.int IntKind.i64 m.room),PL.mp 40205,PL.f (FV.sl (List.map rQ m.o)),PL.f (FV.int IntKind.i64 m.ch)]),(40205,Ob.map Ne.Ah (List.map Ne.ent m.m)),(160000,Ob.iK [PL.f (FV.str q.q),PL.f (FV.int IntKind.i64 q.t),PL.f (FV.int IntKind.i64 q.c)]),(180000,Ob.iK [PL.dM,PL.f (FV.int IntKind.i64 0),PL.f (FV.str ⟨#[]⟩),PL.f (FV.str ⟨#[]⟩),PL.f (FV.int IntKind.i64 0),PL.f (FV.int IntKind.i64 0),PL.dM,PL.f (FV.int IntKind.i64 0),PL.f (FV.int IntKind.i64 0)]),(200000,Ob.iK [PL.ptr 20201 0,PL.ptr 40201 0,PL.f (FV.int IntKind.i64 now)]),(220000,Ob.iK [PL.dM,PL.f (FV.int IntKind.i64 0),PL.f (FV.str pn),PL.f (FV.str ⟨#[]⟩),PL.f (FV.int IntKind.i64 0),PL.f (FV.int IntKind.i64 0),PL.dM,PL.f (FV.int IntKind.i64 0),PL.f (FV.int IntKind.i64 0)]),(440000,Ob.map (KS.one SK.str) (uQ M))]⟩:=rfl
theorem qd (s:Sv) (m:Ne.Nv) (now:Int) (M:List ByteArray) (hits:List kR) (pn:ByteArray) (q:Qn) (h:hits ≠ []):fT s m now M hits pn q = ⟨[(7,PV.c (CV.one (PL.ptr 160000 0))),(8,PV.c (CV.one (PL.ptr 180000 0))),(9,PV.c (CV.one (PL.ptr 200000 0))),(10,PV.c (CV.one (PL.ptr 220000 0))),(11,PV.c (CV.one (PL.mp 440000)))],[(20201,Ob.iK [PL.f (FV.int IntKind.i64 s.room),PL.mp 690004,PL.f (FV.sl (List.map rQ s.o)),PL.f (FV.int IntKind.i64 s.ch)]),(40201,Ob.iK [PL.f (FV.int IntKind.i64 m.room),PL.mp 690204,PL.f (FV.sl (List.map rQ m.o)),PL.f (FV.int IntKind.i64 m.ch)]),(160000,Ob.iK [PL.f (FV.str q.q),PL.f (FV.int IntKind.i64 q.t),PL.f (FV.int IntKind.i64 q.c)]),(180000,Ob.iK [PL.dM,PL.f (FV.int IntKind.i64 0),PL.f (FV.str ⟨#[]⟩),PL.f (FV.str ⟨#[]⟩),PL.f (FV.int IntKind.i64 0),PL.f (FV.int IntKind.i64 0),PL.dM,PL.f (FV.int IntKind.i64 0),PL.f (FV.int IntKind.i64 0)]),(200000,Ob.iK [PL.ptr 20201 0,PL.ptr 40201 0,PL.f (FV.int IntKind.i64 now)]),(220000,Ob.iK [PL.own 1240000 (hits.map rH).length,PL.f (FV.int IntKind.i64 0),PL.f (FV.str pn),PL.f (FV.str ⟨#[]⟩),PL.f (FV.int IntKind.i64 0),PL.f (FV.int IntKind.i64 0),PL.dM,PL.f (FV.int IntKind.i64 0),PL.f (FV.int IntKind.i64 0)]),(440000,Ob.map (KS.one SK.str) (uQ M)),(690004,Ob.map Ah (List.map ent s.m)),(690204,Ob.map Ne.Ah (List.map Ne.ent m.m)),(1240000,.row 6 (hits.map rH))]⟩:=by
 cases hits with
 | nil=>exact absurd rfl h
 | cons a l=>rfl
theorem Ai (hits:List kR):hits = [] ∨ hits ≠ []:=by cases hits <;> simp
set_option maxHeartbeats 16000000 in
theorem qg (O:BQ nm ext) (C:nD ext) (hF:200000000000001 ≤ F) (s:Sv) (m:Ne.Nv) (now:Int) (q:Qn) (hd:∀ x ∈ s.m,x.d.length ≤ 1000000) (hu:∀ x ∈ s.m,x.u ≤ 4611686018427387904) (hy:∀ x ∈ s.m,∀ y ∈ x.d,y.size ≤ 1000000) (hd2:∀ x ∈ m.m,x.s.d.length ≤ 1000000) (hu2:∀ x ∈ m.m,x.u ≤ 4611686018427387904) :
  G ext F (n + 6) 19 [s.v,m.v,vi now,q.v] = some ([(BP nm (d9 s now) (Ne.gF m now) now q).v],[s.v,m.v,vi now,q.v]):=by
 refine eD (cf:=c19) rfl ?_
 generalize hres:BP nm (d9 s now) (Ne.gF m now) now q = R
 simp only [c19,go_sem,Nat.reduceAdd,Nat.reduceMul,Nat.reduceEqDiff,Nat.reduceBEq,Nat.reduceMod,Nat.reduceDiv,↓reduceIte,reduceCtorEq]
 refine Lx 9 (fun x:List ByteArray × List kR × ByteArray × ByteArray=>fT s m now x.1 x.2.1 x.2.2.1 ⟨x.2.2.2,q.t,q.c⟩) (fun i x=>x.2.1.length = i ∧ i < 9 ∧ yc x.1 x.2.2.2 = false ∧ NP nm (d9 s now) (Ne.gF m now) now (9 - i) (x.1 ++ [x.2.2.2]) x.2.1 ⟨x.2.2.2,q.t,q.c⟩ = R) (by omega) ([],[],⟨#[]⟩,q.q) rfl ⟨rfl,by omega,rfl,hres⟩ (fun i x hi hP=>?_) (fun x hP=>absurd hP.2.1 (by omega))
 obtain ⟨M,hits,pn,Aj⟩:=x
 obtain ⟨hlen, -,hm,hf⟩:=hP
 simp only at hlen hm hf ⊢
 obtain ⟨f,hf9⟩:∃ f,9 - i = f + 1:=⟨8 - i,by omega⟩
 rw [hf9] at hf
 obtain ⟨k1,k2⟩:=LZ hm
 have hw1:IntKind.i64.wrap (0 + 1) = 1:=by decide
 have t1:=fun n=>DW (F:=F) (n:=n) C s m now ⟨Aj,q.t,q.c⟩ hd hu
 have a1:=fun n=>LW (F:=F) (n:=n) O C s m now ⟨Aj,q.t,q.c⟩ hd hu hy
 have e1:=fun n=>Ph (F:=F) (n:=n) C s m now ⟨hits,0,Aj,lH⟩ ⟨Aj,q.t,q.c⟩ hF hd2 hu2
 rw [show LX (Ne.gF m now) now ⟨hits,0,Aj,lH⟩ ⟨Aj,q.t,q.c⟩ = fin (Ne.gF m now) now hits ⟨Aj,q.t,q.c⟩ from Pn (q:=⟨Aj,q.t,q.c⟩)] at e1
 simp only [Ch.v,lH,BO,List.map_nil] at e1
 unfold NP at hf
 have hsz:(((hits.map rH).length:Nat) + 1) * 72 ≤ 140737488355328:=by rw [List.length_map];omega
 cases h1:tl (d9 s now) now ⟨Aj,q.t,q.c⟩ with
 | some h =>
  have et:He (d9 s now) now ⟨Aj,q.t,q.c⟩ = (h,true):=by unfold He;rw [h1]
  rw [et] at t1
  rw [h1] at hf
  subst hf
  rcases Ai hits with rfl | g1
  ·rw [BR]
   simp only [k1,k2,hw1,t1,Option.getD_none,go_sem,Nat.reduceAdd,Nat.reduceMul,Nat.reduceEqDiff,Nat.reduceBEq,Nat.reduceMod,Nat.reduceDiv,↓reduceIte,reduceCtorEq]
   exact ⟨by decide,rfl⟩
  ·rw [qd _ _ _ _ _ _ _ g1]
   simp only [k1,k2,hw1,t1,Option.getD_none,hsz,go_sem,Nat.reduceAdd,Nat.reduceMul,Nat.reduceEqDiff,Nat.reduceBEq,Nat.reduceMod,Nat.reduceDiv,↓reduceIte,reduceCtorEq]
   simp [rH,lH,BO]
 | none =>
  have et:He (d9 s now) now ⟨Aj,q.t,q.c⟩ = (lH,false):=by unfold He;rw [h1]
  rw [et] at t1
  rw [h1] at hf
  simp only [lH,BO,List.map_nil] at t1
  cases h2:al nm (d9 s now) now ⟨Aj,q.t,q.c⟩ with
  | none =>
   have ea:=Pk h2
   rw [h2] at hf
   subst hf
   rw [ea] at a1
   rcases Ai hits with rfl | g1
   ·rw [BR]
    simp only [List.map_nil] at e1
    simp only [k1,k2,hw1,t1,a1,e1,Option.getD_none,go_sem,Nat.reduceAdd,Nat.reduceMul,Nat.reduceEqDiff,Nat.reduceBEq,Nat.reduceMod,Nat.reduceDiv,↓reduceIte,reduceCtorEq]
   ·rw [qd _ _ _ _ _ _ _ g1]
    simp only [k1,k2,hw1,t1,a1,e1,Option.getD_none,go_sem,Nat.reduceAdd,Nat.reduceMul,Nat.reduceEqDiff,Nat.reduceBEq,Nat.reduceMod,Nat.reduceDiv,↓reduceIte,reduceCtorEq]
  | some p =>
   obtain ⟨h,to⟩:=p
   rw [Pm h2] at a1
   rw [h2] at hf
   simp only at hf
   have hml:((hits ++ [h]).map rH) = hits.map rH ++ [[FV.str h.s.q,FV.int IntKind.i64 h.s.t,FV.int IntKind.i64 h.s.c,FV.sl (List.map fB h.s.d),FV.int IntKind.i64 h.s.ttl,FV.int IntKind.i64 h.left]]:=by simp [rH]
   have hll:(hits.map rH).length = hits.length:=List.length_map _
   by_cases h8:8 ≤ hits.length
   ·rw [if_pos (.inl h8)] at hf
    subst hf
    have c8:decide ((8:Int) < (((hits.map rH).length + 1:Nat):Int)) = true:=decide_eq_true (by omega)
    rcases Ai hits with rfl | g1
    ·simp at h8
    ·rw [qd _ _ _ _ _ _ _ g1]
     simp only [k1,k2,hw1,t1,a1,Option.getD_none,hsz,c8,go_sem,Nat.reduceAdd,Nat.reduceMul,Nat.reduceEqDiff,Nat.reduceBEq,Nat.reduceMod,Nat.reduceDiv,↓reduceIte,reduceCtorEq]
     simp [rH,lH,BO]
   ·have c8:decide ((8:Int) < (((hits.map rH).length + 1:Nat):Int)) = false:=decide_eq_false (by omega)
    have c8':decide ((8:Int) < ((0 + 1:Nat):Int)) = false:=by decide
    have z1:decide ((0:Int) < 1) = true:=by decide
    have z0:decide ((0:Int) < 0) = false:=by decide
    cases hin:yc (M ++ [Aj]) to with
    | true =>
     rw [if_pos (.inr hin)] at hf
     subst hf
     have y1:=Pj hin
     rcases Ai hits with rfl | g1
     ·rw [BR]
      simp only [k1,k2,hw1,t1,a1,Option.getD_none,Option.getD_some,hsz,c8',y1,z1,List.length_cons,List.length_nil,go_sem,Nat.reduceAdd,Nat.reduceMul,Nat.reduceEqDiff,Nat.reduceBEq,Nat.reduceMod,Nat.reduceDiv,↓reduceIte,reduceCtorEq]
      exact ⟨by decide,rfl⟩
     ·rw [qd _ _ _ _ _ _ _ g1]
      simp only [k1,k2,hw1,t1,a1,Option.getD_none,Option.getD_some,hsz,c8,y1,z1,go_sem,Nat.reduceAdd,Nat.reduceMul,Nat.reduceEqDiff,Nat.reduceBEq,Nat.reduceMod,Nat.reduceDiv,↓reduceIte,reduceCtorEq]
      simp [rH,lH,BO]
    | false =>
     rw [if_neg (by rw [hin];simp;omega)] at hf
     have y1:=(LZ hin).1
     have hnext:(hits ++ [h]).length = i + 1 ∧ i + 1 < 9 ∧ yc (M ++ [Aj]) to = false ∧ NP nm (d9 s now) (Ne.gF m now) now (9 - (i + 1)) (M ++ [Aj] ++ [to]) (hits ++ [h]) ⟨to,q.t,q.c⟩ = R:=⟨by simp;omega,by omega,hin,by rw [show 9 - (i + 1) = f from by omega];exact hf⟩
     have g3:=fun pn' q'=>qd s m now (M ++ [Aj]) (hits ++ [h]) pn' q' (by simp)
     rcases Ai hits with rfl | g1
     ·rw [BR]
      simp only [k1,k2,hw1,t1,a1,Option.getD_none,Option.getD_some,hsz,c8',y1,z0,List.length_cons,List.length_nil,go_sem,Nat.reduceAdd,Nat.reduceMul,Nat.reduceEqDiff,Nat.reduceBEq,Nat.reduceMod,Nat.reduceDiv,↓reduceIte,reduceCtorEq]
      exact ⟨by decide,(M ++ [Aj],[] ++ [h],Aj,to),by rw [g3];rfl,hnext⟩
     ·rw [qd _ _ _ _ _ _ _ g1]
      simp only [k1,k2,hw1,t1,a1,Option.getD_none,Option.getD_some,hsz,c8,y1,z0,go_sem,Nat.reduceAdd,Nat.reduceMul,Nat.reduceEqDiff,Nat.reduceBEq,Nat.reduceMod,Nat.reduceDiv,↓reduceIte,reduceCtorEq]
      exact ⟨(M ++ [Aj],hits ++ [h],Aj,to),by rw [g3,hml];simp,hnext⟩
end Go.Proofs.Ytfokaoeinpnagaa.Kc
namespace Go.Proofs.Ytfokaoeinpnagaa.Kc
open Go Ev
variable {θ : Th} {gt:ByteArray → Int → Int → Int × Bool}
structure Pt where
 now:Int
 s:Se
 r:Int
 k:Qn
def rP (x:Pt):List FV:=[.int .i64 x.now,.str x.s.q,.int .i64 x.s.t,.int .i64 x.s.c,.sl (x.s.d.map fB),.int .i64 x.s.ttl,.int .i64 x.r,.str x.k.q,.int .i64 x.k.t,.int .i64 x.k.c]
abbrev Pt.v (x:Pt):AV:=.agg [.f (.int .i64 x.now),.f (.str x.s.q),.f (.int .i64 x.s.t),.f (.int .i64 x.s.c),.f (.sl (x.s.d.map fB)),.f (.int .i64 x.s.ttl),.f (.int .i64 x.r),.f (.str x.k.q),.f (.int .i64 x.k.t),.f (.int .i64 x.k.c)]
def s50 : Sv:=⟨50,[],[],0⟩
def m50 : Ne.Nv:=⟨50,[],[],0⟩
def Vt (θ:Th) (gt:ByteArray → Int → Int → Int × Bool) (a:Sv × Ne.Nv) (p:Pt):Sv × Ne.Nv:=if 0 < p.r then ((uN θ a.1 p.now p.s p.r).1,a.2) else (a.1,(Ne.rF θ gt a.2 p.now p.k (decide (p.r < 0)) p.s).1)
def j4 (θ:Th) (gt:ByteArray → Int → Int → Int × Bool) (l:List Pt):Sv × Ne.Nv:=l.foldl (Vt θ gt) (s50,m50)
theorem DX {l:List Pt} {p:Pt} {i:Nat} (h:l[i]? = some p):j4 θ gt (l.take (i + 1)) = Vt θ gt (j4 θ gt (l.take i)) p:=by
 unfold j4;rw [List.take_add_one,h,List.foldl_append];rfl
theorem uR : ∀ {g:List Qn} {l:List It},(g.foldl rid l).Sublist l
 | [],l=>List.Sublist.refl _
 | a :: g,l=>(uR (g:=g)).trans sS
theorem L6 {l:List It} {x:It}:(upd l x).length ≤ l.length + 1:=by
 rcases rE l x with ⟨-,hu⟩ | ⟨a,y,c,rfl, -, -,hu⟩ <;> rw [hu] <;> simp
theorem L8 {l:List It} {x y:It} (h:y ∈ upd l x):y = x ∨ y ∈ l:=by
 rcases rE l x with ⟨-,hu⟩ | ⟨a,z,c,rfl, -, -,hu⟩ <;> rw [hu] at h <;> simp at h ⊢
 ·rcases h with h | h <;> simp [h]
 ·rcases h with h | h | h <;> simp [h]
theorem vH : ∀ {g:List Qn} {l:List It},(ks l).Nodup → (ks (g.foldl rid l)).Nodup
 | [],l,h=>h
 | a :: g,l,h=>vH (g:=g) (uO h)
theorem vI : ∀ {g:List Qn} {l:List Ne.Nt},(Ne.ks l).Nodup → (Ne.ks (g.foldl Ne.rid l)).Nodup
 | [],l,h=>h
 | a :: g,l,h=>vI (g:=g) (Ne.uO h)
structure FS (l:List Pt) (i:Nat) (s:Sv):Prop where
 r:s.room = 50
 c:0 ≤ s.ch ∧ s.ch ≤ i
 o:s.o.length ≤ i
 m:s.m.length ≤ i
 it:∀ x ∈ s.m,∃ p ∈ l,0 < p.r ∧ x = p.s.it (fI p.now p.s.ttl) p.r
 l6:(ks s.m).Nodup
structure FN (θ:Th) (gt:ByteArray → Int → Int → Int × Bool) (l:List Pt) (i:Nat) (s:Ne.Nv):Prop where
 r:s.room = 50
 c:0 ≤ s.ch ∧ s.ch ≤ i
 o:s.o.length ≤ i
 m:s.m.length ≤ i
 it:∀ x ∈ s.m,∃ p ∈ l,x.s = p.s ∧ x.u = fI p.now (Ne.wm θ gt p.s).1 ∧ x.k.q = p.k.q
 l6:(Ne.ks s.m).Nodup
theorem FS.up {l:List Pt} {i:Nat} {s:Sv} (h:FS l i s):FS l (i + 1) s:=⟨h.r,by have:=h.c;omega,by have:=h.o;omega,by have:=h.m;omega,h.it,h.l6⟩
theorem FN.up {l:List Pt} {i:Nat} {s:Ne.Nv} (h:FN θ gt l i s):FN θ gt l (i + 1) s:=⟨h.r,by have:=h.c;omega,by have:=h.o;omega,by have:=h.m;omega,h.it,h.l6⟩
theorem FS.put {l:List Pt} {i:Nat} {s:Sv} (h:FS l i s) {p:Pt} (hp:p ∈ l) (h0:0 < p.r):FS l (i + 1) (uN θ s p.now p.s p.r).1:=by
 have hc:=h.c
 have hq:=@sQ s.o p.s.k
 have ho:=h.o
 have hm:=h.m
 have hu:=@L6 s.m (p.s.it (fI p.now p.s.ttl) p.r)
 unfold uN
 dsimp only
 split
 ·exact h.up
 ·refine ⟨h.r,by show 0 ≤ s.ch + 1 ∧ s.ch + 1 ≤ _;omega,?_,?_,fun y hy=>?_,vH (uP h.l6)⟩
  ·show (List.drop _ _).length ≤ _
   rw [List.length_drop,List.length_append,List.length_singleton];omega
  ·exact Nat.le_trans uR.length_le (by omega)
  ·rcases L8 (uR.subset hy) with rfl | h1
   ·exact ⟨p,hp,h0,rfl⟩
   ·exact h.it y h1
theorem FN.put {l:List Pt} {i:Nat} {s:Ne.Nv} (h:FN θ gt l i s) {p:Pt} (hp:p ∈ l) (b:Bool):FN θ gt l (i + 1) (Ne.rF θ gt s p.now p.k b p.s).1:=by
 have hc:=h.c
 have hq:=@sQ s.o (Ne.kn b p.k)
 have ho:=h.o
 have hm:=h.m
 unfold Ne.rF
 split
 ·exact h.up
 split
 ·exact h.up
 have hu:=@Ne.O5 s.m ⟨Ne.kn b p.k,b,p.s,fI p.now (Ne.wm θ gt p.s).1⟩
 refine ⟨h.r,by show 0 ≤ s.ch + 1 ∧ s.ch + 1 ≤ _;omega,?_,?_,fun y hy=>?_,vI (Ne.uP h.l6)⟩
 ·show (List.drop _ _).length ≤ _
  rw [List.length_drop,List.length_append,List.length_singleton];omega
 ·exact Nat.le_trans Ne.yt.length_le (by omega)
 ·rcases Ne.O6 (Ne.yt.subset hy) with rfl | h1
  ·refine ⟨p,hp,rfl,rfl,?_⟩
   show (Ne.kn b p.k).q = _
   unfold Ne.kn;cases b <;> rfl
  ·exact h.it y h1
structure FI (θ:Th) (gt:ByteArray → Int → Int → Int × Bool) (l:List Pt) (i:Nat) (a:Sv × Ne.Nv):Prop where
 s:FS l i a.1
 n:FN θ gt l i a.2
theorem fi0 (l:List Pt):FI θ gt l 0 (s50,m50):=⟨⟨rfl,⟨Int.le_refl _,Int.le_refl _⟩,Nat.le_refl _,Nat.le_refl _,(by intro x hx;cases hx),List.nodup_nil⟩,⟨rfl,⟨Int.le_refl _,Int.le_refl _⟩,Nat.le_refl _,Nat.le_refl _,(by intro x hx;cases hx),List.nodup_nil⟩⟩
theorem FI.Vt {l:List Pt} {i:Nat} {a:Sv × Ne.Nv} (h:FI θ gt l i a) {p:Pt} (hp:p ∈ l):FI θ gt l (i + 1) (Vt θ gt a p):=by
 unfold Kc.Vt
 split
 ·rename_i h0;exact ⟨h.s.put hp h0,h.n.up⟩
 ·exact ⟨h.s.up,h.n.put hp _⟩
theorem fi (l:List Pt):∀ i,i ≤ l.length → FI θ gt l i (j4 θ gt (l.take i))
 | 0,_=>fi0 l
 | i + 1,h=>by
  have hi:l[i]? = some l[i]:=List.getElem?_eq_getElem (by omega)
  rw [DX hi]
  exact (fi l i (by omega)).Vt (List.getElem_mem _)
theorem fiA (l:List Pt):FI θ gt l l.length (j4 θ gt l):=by
 have:=fi (θ:=θ) (gt:=gt) l l.length (Nat.le_refl _)
 rwa [List.take_length] at this
def wu (l:List Pt):Bool:=l.all fun x=>nC x.s.q x.s.d && decide (x.k.q.size ≤ 300)
theorem Jk {l:List Pt} {x:Pt} {i:Nat} (h:l[i]? = some x):wu (l.take (i + 1)) = (wu (l.take i) && (nC x.s.q x.s.d && decide (x.k.q.size ≤ 300))):=by
 unfold wu
 rw [List.take_add_one,h,List.all_append]
 simp
theorem Hg {l:List Pt} {x:Pt} {i:Nat} (h:l[i]? = some x) (hx:(nC x.s.q x.s.d && decide (x.k.q.size ≤ 300)) = false):wu l = false:=by
 unfold wu
 rw [List.all_eq_false]
 exact ⟨x,List.mem_of_getElem? h,by simp only [hx,Bool.false_eq_true,not_false_eq_true]⟩
theorem Jl {q:ByteArray} {d:List ByteArray} (h:nC q d = true):q.size ≤ 300 ∧ d.length ≤ 60 ∧ ∀ y ∈ d,y.size ≤ 2000:=by
 unfold nC DJ at h
 rw [Bool.and_eq_true,List.all_eq_true,decide_eq_true_eq] at h
 refine ⟨by omega,?_,fun y hy=>?_⟩
 ·cases hd:d with
  | nil=>simp
  | cons y d' =>
   have:=h.1 y (by rw [hd];simp)
   simp only [Bool.and_eq_true,decide_eq_true_eq] at this
   rw [hd] at this;omega
 ·have:=h.1 y hy
  simp only [Bool.and_eq_true,decide_eq_true_eq] at this
  omega
theorem wM {l:List Pt} {x:Pt} (h:wu l = true) (hx:x ∈ l):x.k.q.size ≤ 1000000 ∧ x.s.q.size ≤ 1000000 ∧ x.s.d.length ≤ 1000000 ∧ ∀ y ∈ x.s.d,y.size ≤ 1000000:=by
 have h1:=List.all_eq_true.mp h x hx
 rw [Bool.and_eq_true,decide_eq_true_eq] at h1
 obtain ⟨a,b,c⟩:=Jl h1.1
 exact ⟨by omega,by omega,by omega,fun y hy=>by have:=c y hy;omega⟩
theorem DY {now ttl:Int}:fI now ttl ≤ 4611686018427387904:=by
 unfold fI OV
 split
 ·rename_i h
  simp only [decide_eq_true_eq] at h
  split <;> omega
 ·omega
structure FW (a:Sv × Ne.Nv):Prop where
 hd:∀ x ∈ a.1.m,x.d.length ≤ 1000000
 hu:∀ x ∈ a.1.m,x.u ≤ 4611686018427387904
 hy:∀ x ∈ a.1.m,∀ y ∈ x.d,y.size ≤ 1000000
 hd2:∀ x ∈ a.2.m,x.s.d.length ≤ 1000000
 hu2:∀ x ∈ a.2.m,x.u ≤ 4611686018427387904
theorem FI.w {l:List Pt} {i:Nat} {a:Sv × Ne.Nv} (h:FI θ gt l i a) (hf:wu l = true):FW a:=by
 refine ⟨fun x hx=>?_,fun x hx=>?_,fun x hx=>?_,fun x hx=>?_,fun x hx=>?_⟩
 ·obtain ⟨p,hp, -,rfl⟩:=h.s.it x hx;exact (wM hf hp).2.2.1
 ·obtain ⟨p,hp, -,rfl⟩:=h.s.it x hx;exact DY
 ·obtain ⟨p,hp, -,rfl⟩:=h.s.it x hx;exact (wM hf hp).2.2.2
 ·obtain ⟨p,hp,h1, -⟩:=h.n.it x hx;rw [h1];exact (wM hf hp).2.2.1
 ·obtain ⟨p,hp, -,h1, -⟩:=h.n.it x hx;rw [h1];exact DY
theorem BS {s:Sv} {now:Int} {k:Qn} (h:(d9 s now k).2 = true):(d9 s now k).1 ∈ s.m ∧ (d9 s now k).1.k = k ∧ jV now (d9 s now k).1.u = true:=by
 unfold d9 at h ⊢
 cases ho:old s.m k with
 | none=>rw [ho] at h;cases h
 | some x =>
  rw [ho] at h
  dsimp only at h ⊢
  cases hl:jV now x.u with
  | false=>rw [hl] at h;cases h
  | true=>exact ⟨(mW ho).2,(mW ho).1,hl⟩
end Go.Proofs.Ytfokaoeinpnagaa.Kc
namespace Go.Proofs.Ytfokaoeinpnagaa.Kc
open Go Ev
variable {nm : Int → ByteArray → List ByteArray}
def XC : List Int → Int
 | []=>0
 | a :: l=>l.foldl min a
def lefts (c:Ch):List Int:=c.hits.map kR.left ++ if c.e = 1 ∨ c.e = 2 then [c.wo.left] else []
def sub (d:Int) (h:kR):kR:=⟨h.s,h.left - d⟩
end Go.Proofs.Ytfokaoeinpnagaa.Kc
set_option maxRecDepth 4000
namespace Go.Proofs.Ytfokaoeinpnagaa.Kc
open Go Ev
variable {ext : Env} {F n:Nat} {θ:Th} {nm:Int → ByteArray → List ByteArray} {gt:ByteArray → Int → Int → Int × Bool}
def ri (x:Int):List FV:=[.int .i64 x]
theorem L9 (c:Ch) (hl:c.hits.length ≤ 1000000) (hF:200000000000001 ≤ F):G ext F (n + 1) 15 [c.v] = some ([vi (XC (lefts c))],[c.v]):=by
 refine eD (cf:=c15) rfl ?_
 simp only [c15,go_sem,Nat.reduceAdd,Nat.reduceMul,Nat.reduceEqDiff,Nat.reduceBEq,Nat.reduceMod,Nat.reduceDiv,↓reduceIte,reduceCtorEq]
 refine jS c.hits.length (fun i=>⟨[(1,PV.c (CV.one (PL.ptr 40000 0))),(3,PV.c (CV.one (PL.own 80000 (((c.hits.take i).map kR.left).map ri).length))),(10,PV.c (CV.one (PL.f (FV.sl (c.hits.map rH))))),(11,PV.c (CV.one (PL.f (FV.int .i64 ((c.hits.map rH).length:Nat))))),(12,PV.c (CV.one (PL.f (FV.int .i64 i))))],[(40000,Ob.iK [PL.f (FV.sl (c.hits.map rH)),PL.f (FV.int .i64 c.e),PL.f (FV.str c.nm),PL.f (FV.str c.wo.s.q),PL.f (FV.int .i64 c.wo.s.t),PL.f (FV.int .i64 c.wo.s.c),PL.f (FV.sl (c.wo.s.d.map fB)),PL.f (FV.int .i64 c.wo.s.ttl),PL.f (FV.int .i64 c.wo.left)]),(80000,Ob.row 1 (((c.hits.take i).map kR.left).map ri))]⟩) (fun i=>True) (by omega) rfl trivial (fun i hi hP=>?_) (fun hP=>?_)
 ·obtain ⟨x,hx,hd,ht,h0⟩:=at_ hi
  have hn:=nx hi (by omega)
  have hw:(c.hits.take i).length = i:=by simp;omega
  have hs:((c.hits.take (i + 1)).map kR.left).map ri = ((c.hits.take i).map kR.left).map ri ++ [[.int .i64 x.left]]:=by rw [List.take_add_one,hx];simp [ri]
  simp only [List.length_map,List.getElem?_map,hd,hx,ht,h0,rH,hw,hn,go_sem,Nat.reduceAdd,Nat.reduceMul,Nat.reduceEqDiff,Nat.reduceBEq,Nat.reduceMod,Nat.reduceDiv,↓reduceIte,reduceCtorEq]
  rw [hs]
  exact ⟨by omega,by simp [hw];omega⟩
 ·have hd:=@end_ _ c.hits
  rw [List.take_length]
  by_cases e1:c.e = 1
  ·
   have XD:decide (c.e = 1) = true:=decide_eq_true e1
   have hL:lefts c = c.hits.map kR.left ++ [c.wo.left]:=by unfold lefts;rw [if_pos (.inl e1)]
   obtain ⟨a,l,hal⟩:∃ a l,lefts c = a :: l:=List.exists_cons_of_ne_nil (by rw [hL];simp)
   have hr:(c.hits.map kR.left).map ri ++ [[FV.int .i64 c.wo.left]] = ri a :: List.map ri l:=by rw [← List.map_cons,← hal,hL];simp [ri]
   have hlen:(a :: l).length = c.hits.length + 1:=by rw [← hal,hL];simp
   have hz:decide (((c.hits.length + 1:Nat):Int) = 0) = false:=by simp only [List.length_cons] at hlen;exact decide_eq_false (by omega)
   have hz0:(ri a :: List.map ri l)[0]? = some [FV.int .i64 a]:=rfl
   have hst:XC (lefts c) = (a :: l).foldl min a:=by rw [hal];show l.foldl min a = l.foldl min (min a a);rw [show min a a = a from by omega]
   have hlp:0 < (c.hits.length + 1:Nat):=by rw [← hlen];simp
   rw [hst]
   simp only [List.length_map,hd,XD,hr,hz,hz0,Int.toNat_zero,go_sem,Nat.reduceAdd,Nat.reduceMul,Nat.reduceEqDiff,Nat.reduceBEq,Nat.reduceMod,Nat.reduceDiv,↓reduceIte,reduceCtorEq]
   refine ⟨by omega,by omega,⟨by omega,by simp only [List.length_cons] at hlen;omega⟩,?_⟩
   refine jS (c.hits.length + 1) (fun i=>⟨[(6,PV.c (CV.one (PL.f (FV.int .i64 (((a :: l).take i).foldl min a))))),(42,PV.c (CV.one (PL.own 80000 (c.hits.length + 1)))),(43,PV.c (CV.one (PL.f (FV.int .i64 ((c.hits.length + 1:Nat):Int))))),(44,PV.c (CV.one (PL.f (FV.int .i64 i))))],[(80000,Ob.row 1 (ri a :: List.map ri l))]⟩) (fun i=>True) (by omega) rfl trivial (fun i hi hP=>?_) (fun hP=>?_)
   ·obtain ⟨x,hx,hd',ht,h0⟩:=at_ (l:=a :: l) (i:=i) (by omega)
    rw [hlen] at hd'
    have hn:=nx hi (by omega)
    have ZK:(ri a :: List.map ri l)[i]? = some [FV.int .i64 x]:=by show ((a :: l).map ri)[i]? = _;rw [List.getElem?_map,hx];rfl
    have hf:((a :: l).take (i + 1)).foldl min a = if x < ((a :: l).take i).foldl min a then x else ((a :: l).take i).foldl min a:=by rw [List.take_add_one,hx,List.foldl_append];show min _ x = _;split <;> omega
    rw [hf]
    simp only [hd',ZK,ht,h0,hn,go_sem,Nat.reduceAdd,Nat.reduceMul,Nat.reduceEqDiff,Nat.reduceBEq,Nat.reduceMod,Nat.reduceDiv,↓reduceIte,reduceCtorEq]
    try simp only [List.length_cons] at hlen
    exact ⟨by omega,by simp only [List.length_map] <;> omega⟩
   ·have hd':=@end_ _ (a :: l)
    rw [hlen] at hd'
    rw [← hlen,List.take_length]
    rw [hlen]
    simp only [hd',go_sem,Nat.reduceAdd,Nat.reduceMul,Nat.reduceEqDiff,Nat.reduceBEq,Nat.reduceMod,Nat.reduceDiv,↓reduceIte,reduceCtorEq]
  by_cases e2:c.e = 2
  ·
   have XD:decide (c.e = 1) = false:=decide_eq_false e1
   have e2':decide (c.e = 2) = true:=decide_eq_true e2
   have hL:lefts c = c.hits.map kR.left ++ [c.wo.left]:=by unfold lefts;rw [if_pos (.inr e2)]
   obtain ⟨a,l,hal⟩:∃ a l,lefts c = a :: l:=List.exists_cons_of_ne_nil (by rw [hL];simp)
   have hr:(c.hits.map kR.left).map ri ++ [[FV.int .i64 c.wo.left]] = ri a :: List.map ri l:=by rw [← List.map_cons,← hal,hL];simp [ri]
   have hlen:(a :: l).length = c.hits.length + 1:=by rw [← hal,hL];simp
   have hz:decide (((c.hits.length + 1:Nat):Int) = 0) = false:=by simp only [List.length_cons] at hlen;exact decide_eq_false (by omega)
   have hz0:(ri a :: List.map ri l)[0]? = some [FV.int .i64 a]:=rfl
   have hst:XC (lefts c) = (a :: l).foldl min a:=by rw [hal];show l.foldl min a = l.foldl min (min a a);rw [show min a a = a from by omega]
   have hlp:0 < (c.hits.length + 1:Nat):=by rw [← hlen];simp
   rw [hst]
   simp only [List.length_map,hd,XD,e2',hr,hz,hz0,Int.toNat_zero,go_sem,Nat.reduceAdd,Nat.reduceMul,Nat.reduceEqDiff,Nat.reduceBEq,Nat.reduceMod,Nat.reduceDiv,↓reduceIte,reduceCtorEq]
   refine ⟨by omega,by omega,⟨by omega,by simp only [List.length_cons] at hlen;omega⟩,?_⟩
   refine jS (c.hits.length + 1) (fun i=>⟨[(6,PV.c (CV.one (PL.f (FV.int .i64 (((a :: l).take i).foldl min a))))),(42,PV.c (CV.one (PL.own 80000 (c.hits.length + 1)))),(43,PV.c (CV.one (PL.f (FV.int .i64 ((c.hits.length + 1:Nat):Int))))),(44,PV.c (CV.one (PL.f (FV.int .i64 i))))],[(80000,Ob.row 1 (ri a :: List.map ri l))]⟩) (fun i=>True) (by omega) rfl trivial (fun i hi hP=>?_) (fun hP=>?_)
   ·obtain ⟨x,hx,hd',ht,h0⟩:=at_ (l:=a :: l) (i:=i) (by omega)
    rw [hlen] at hd'
    have hn:=nx hi (by omega)
    have ZK:(ri a :: List.map ri l)[i]? = some [FV.int .i64 x]:=by show ((a :: l).map ri)[i]? = _;rw [List.getElem?_map,hx];rfl
    have hf:((a :: l).take (i + 1)).foldl min a = if x < ((a :: l).take i).foldl min a then x else ((a :: l).take i).foldl min a:=by rw [List.take_add_one,hx,List.foldl_append];show min _ x = _;split <;> omega
    rw [hf]
    simp only [hd',ZK,ht,h0,hn,go_sem,Nat.reduceAdd,Nat.reduceMul,Nat.reduceEqDiff,Nat.reduceBEq,Nat.reduceMod,Nat.reduceDiv,↓reduceIte,reduceCtorEq]
    try simp only [List.length_cons] at hlen
    exact ⟨by omega,by simp only [List.length_map] <;> omega⟩
   ·have hd':=@end_ _ (a :: l)
    rw [hlen] at hd'
    rw [← hlen,List.take_length]
    rw [hlen]
    simp only [hd',go_sem,Nat.reduceAdd,Nat.reduceMul,Nat.reduceEqDiff,Nat.reduceBEq,Nat.reduceMod,Nat.reduceDiv,↓reduceIte,reduceCtorEq]
  ·
   have XD:decide (c.e = 1) = false:=decide_eq_false e1
   have e2':decide (c.e = 2) = false:=decide_eq_false e2
   have hL:lefts c = c.hits.map kR.left:=by unfold lefts;rw [if_neg (fun h=>h.elim e1 e2)];simp
   rcases Ai c.hits with hh | hh
   ·
    rw [show lefts c = [] by rw [hL,hh];rfl]
    have hz0:decide (((c.hits.length:Nat):Int) = 0) = true:=by rw [hh];rfl
    have hz1:decide ((0:Int) < (c.hits.length:Int)) = false:=by rw [hh];rfl
    simp only [List.length_map,hd,XD,e2',hz0,go_sem,Nat.reduceAdd,Nat.reduceMul,Nat.reduceEqDiff,Nat.reduceBEq,Nat.reduceMod,Nat.reduceDiv,↓reduceIte,reduceCtorEq]
    rfl
   ·
    obtain ⟨a,l,hal⟩:∃ a l,lefts c = a :: l:=List.exists_cons_of_ne_nil (by rw [hL];simpa using hh)
    have hr:(c.hits.map kR.left).map ri = ri a :: List.map ri l:=by rw [← List.map_cons,← hal,hL]
    have hlen:(a :: l).length = l.length + 1:=rfl
    have agJ:l.length + 1 = c.hits.length:=by rw [← List.length_cons (a:=a),← hal,hL];simp
    have hz:decide (((l.length + 1:Nat):Int) = 0) = false:=by simp only [List.length_cons] at hlen;exact decide_eq_false (by omega)
    have hz0:(ri a :: List.map ri l)[0]? = some [FV.int .i64 a]:=rfl
    have hst:XC (lefts c) = (a :: l).foldl min a:=by rw [hal];show l.foldl min a = l.foldl min (min a a);rw [show min a a = a from by omega]
    have hlp:0 < (l.length + 1:Nat):=by rw [← hlen];simp
    rw [hst]
    simp only [List.length_map,hd,XD,e2',hr,hz,hz0,Int.toNat_zero,go_sem,Nat.reduceAdd,Nat.reduceMul,Nat.reduceEqDiff,Nat.reduceBEq,Nat.reduceMod,Nat.reduceDiv,↓reduceIte,reduceCtorEq]
    refine ⟨by omega,by omega,?_⟩
    refine jS (l.length + 1) (fun i=>⟨[(6,PV.c (CV.one (PL.f (FV.int .i64 (((a :: l).take i).foldl min a))))),(42,PV.c (CV.one (PL.own 80000 (l.length + 1)))),(43,PV.c (CV.one (PL.f (FV.int .i64 ((l.length + 1:Nat):Int))))),(44,PV.c (CV.one (PL.f (FV.int .i64 i))))],[(80000,Ob.row 1 (ri a :: List.map ri l))]⟩) (fun i=>True) (by omega) rfl trivial (fun i hi hP=>?_) (fun hP=>?_)
    ·obtain ⟨x,hx,hd',ht,h0⟩:=at_ (l:=a :: l) (i:=i) (by omega)
     rw [hlen] at hd'
     have hn:=nx hi (by omega)
     have ZK:(ri a :: List.map ri l)[i]? = some [FV.int .i64 x]:=by show ((a :: l).map ri)[i]? = _;rw [List.getElem?_map,hx];rfl
     have hf:((a :: l).take (i + 1)).foldl min a = if x < ((a :: l).take i).foldl min a then x else ((a :: l).take i).foldl min a:=by rw [List.take_add_one,hx,List.foldl_append];show min _ x = _;split <;> omega
     rw [hf]
     simp only [hd',ZK,ht,h0,hn,go_sem,Nat.reduceAdd,Nat.reduceMul,Nat.reduceEqDiff,Nat.reduceBEq,Nat.reduceMod,Nat.reduceDiv,↓reduceIte,reduceCtorEq]
     try simp only [List.length_cons] at hlen
     exact ⟨by omega,by simp only [List.length_map] <;> omega⟩
    ·have hd':=@end_ _ (a :: l)
     rw [hlen] at hd'
     rw [← hlen,List.take_length]
     rw [hlen]
     simp only [hd',go_sem,Nat.reduceAdd,Nat.reduceMul,Nat.reduceEqDiff,Nat.reduceBEq,Nat.reduceMod,Nat.reduceDiv,↓reduceIte,reduceCtorEq]
theorem FP (l:List Pt) (m:Int) (hl:l.length ≤ 200000000000000) (hd:∀ x ∈ l,x.s.d.length ≤ 200000000000000) (hF:200000000000001 ≤ F):G ext F (n + 2) 17 [vl (l.map rP),vi m] = some ([vi (if wu l = true ∧ (l.length:Int) ≤ m then 1 else 0)],[vl (l.map rP),vi m]):=by
 refine eD (cf:=c17) rfl ?_
 simp only [c17,go_sem,Nat.reduceAdd,Nat.reduceMul,Nat.reduceEqDiff,Nat.reduceBEq,Nat.reduceMod,Nat.reduceDiv,↓reduceIte,reduceCtorEq]
 refine jS l.length (fun i=>⟨[(0,PV.c (CV.one (PL.f (FV.sl (l.map rP))))),(1,PV.c (CV.one (PL.f (FV.int .i64 m)))),(5,PV.c (CV.one (PL.f (FV.int .i64 i))))],[]⟩) (fun i=>wu (l.take i) = true) (by omega) rfl (by simp [wu]) (fun i hi hP=>?_) (fun hP=>?_)
 ·obtain ⟨x,hx,hlt,ht,h0⟩:=at_ hi
  have hn:=nx hi (Nat.le_trans hl (by decide))
  have hs:=fun n=>Ls (ext:=ext) (F:=F) (n:=n) x.s.q x.s.t x.s.c x.s.d x.s.ttl (hd x (List.mem_of_getElem? hx)) hF
  cases h1:nC x.s.q x.s.d with
  | false =>
   simp only [List.length_map,List.getElem?_map,hlt,hx,ht,h0,rP,hs,h1,go_sem,Nat.reduceAdd,Nat.reduceMul,Nat.reduceEqDiff,Nat.reduceBEq,Nat.reduceMod,Nat.reduceDiv,↓reduceIte,reduceCtorEq]
   rw [Hg hx (by rw [h1];rfl)];rfl
  | true =>
   by_cases h3:x.k.q.size ≤ 300
   ·have h3':decide ((300:Int) < (x.k.q.size:Int)) = false:=decide_eq_false (by omega)
    simp only [List.length_map,List.getElem?_map,hlt,hx,ht,h0,hn,rP,hs,h1,h3',go_sem,Nat.reduceAdd,Nat.reduceMul,Nat.reduceEqDiff,Nat.reduceBEq,Nat.reduceMod,Nat.reduceDiv,↓reduceIte,reduceCtorEq]
    rw [Jk hx,hP,h1,decide_eq_true h3];rfl
   ·have h3':decide ((300:Int) < (x.k.q.size:Int)) = true:=decide_eq_true (by omega)
    simp only [List.length_map,List.getElem?_map,hlt,hx,ht,h0,hn,rP,hs,h1,h3',go_sem,Nat.reduceAdd,Nat.reduceMul,Nat.reduceEqDiff,Nat.reduceBEq,Nat.reduceMod,Nat.reduceDiv,↓reduceIte,reduceCtorEq]
    rw [Hg hx (by rw [h1,decide_eq_false h3];rfl)];rfl
 ·have hd:=@end_ _ l
  rw [List.take_length] at hP
  by_cases hm:(l.length:Int) ≤ m
  ·have hm':decide (m < (l.length:Int)) = false:=decide_eq_false (by omega)
   simp only [List.length_map,hd,hm',go_sem,Nat.reduceAdd,Nat.reduceMul,Nat.reduceEqDiff,Nat.reduceBEq,Nat.reduceMod,Nat.reduceDiv,↓reduceIte,reduceCtorEq]
   rw [if_pos ⟨hP,hm⟩]
  ·have hm':decide (m < (l.length:Int)) = true:=decide_eq_true (by omega)
   simp only [List.length_map,hd,hm',go_sem,Nat.reduceAdd,Nat.reduceMul,Nat.reduceEqDiff,Nat.reduceBEq,Nat.reduceMod,Nat.reduceDiv,↓reduceIte,reduceCtorEq]
   rw [if_neg (fun h=>hm h.2)]
theorem Vu (a b:ByteArray):G ext F (n + 1) 22 [vs a,vs b] = some ([(Se.v ⟨a,5,1,[b],7⟩)],[vs a,vs b]):=by
 refine eD (cf:=Ki) rfl ?_
 simp only [Ki,go_sem,Nat.reduceAdd,Nat.reduceMul,Nat.reduceEqDiff,Nat.reduceBEq,Nat.reduceMod,Nat.reduceDiv,↓reduceIte,reduceCtorEq]
 rfl
theorem lV (T:θ.Ok ext) (O:Ne.FD gt ext) (C:nD ext) (Q:DN θ ext) (hF:200000000000001 ≤ F) (l:List Pt) (hl:l.length ≤ 1000) (hf:wu l = true):G ext F (n + 7) 18 [vl (l.map rP)] = some ([(j4 θ gt l).1.v,(j4 θ gt l).2.v],[vl (l.map rP)]):=by
 refine eD (cf:=c18) rfl ?_
 have hn:=fun n=>Vn (ext:=ext) (F:=F) (n:=n) 50
 have hm:=fun n=>Ne.O7 (ext:=ext) (F:=F) (n:=n) 50
 rw [if_neg (by decide),yg] at hn
 rw [if_neg (by decide),Ne.LJ] at hm
 simp only [c18,hn,hm,go_sem,Nat.reduceAdd,Nat.reduceMul,Nat.reduceEqDiff,Nat.reduceBEq,Nat.reduceMod,Nat.reduceDiv,↓reduceIte,reduceCtorEq]
 refine jS l.length (fun i=>⟨[(0,PV.c (CV.one (PL.f (FV.sl (List.map rP l))))),(4,PV.c (CV.one (PL.ptr 160200 0))),(5,PV.c (CV.one (PL.ptr 180200 0))),(6,PV.c (CV.one (PL.f (FV.int IntKind.i64 i))))],[(160200,Ob.iK [PL.f (FV.int IntKind.i64 (j4 θ gt (l.take i)).1.room),PL.mp 160204,PL.f (FV.sl ((j4 θ gt (l.take i)).1.o.map rQ)),PL.f (FV.int IntKind.i64 (j4 θ gt (l.take i)).1.ch)]),(160204,Ob.map Ah ((j4 θ gt (l.take i)).1.m.map ent)),(180200,Ob.iK [PL.f (FV.int IntKind.i64 (j4 θ gt (l.take i)).2.room),PL.mp 180204,PL.f (FV.sl ((j4 θ gt (l.take i)).2.o.map rQ)),PL.f (FV.int IntKind.i64 (j4 θ gt (l.take i)).2.ch)]),(180204,Ob.map Ne.Ah ((j4 θ gt (l.take i)).2.m.map Ne.ent))]⟩) (fun i=>True) (by omega) rfl trivial (fun i hi hP=>?_) (fun hP=>?_)
 ·obtain ⟨x,hx,hlt,ht,h0⟩:=at_ hi
  have hn:=nx hi (Nat.le_trans hl (by decide))
  have hI:=fi (θ:=θ) (gt:=gt) l i (by omega)
  rw [DX hx]
  generalize j4 θ gt (l.take i) = a at hI ⊢
  obtain ⟨s,m⟩:=a
  have hz:=wM hf (List.mem_of_getElem? hx)
  have hsr:=hI.s.r
  have hsc:=hI.s.c
  have hso:=hI.s.o
  have hsm:=hI.s.m
  have hnr:=hI.n.r
  have hnc:=hI.n.c
  have hno:=hI.n.o
  simp only at hsr hsc hso hsm hnr hnc hno
  unfold Vt
  by_cases hr:0 < x.r
  ·rw [if_pos hr]
   have hr':decide (0 < x.r) = true:=decide_eq_true hr
   have p1:=fun n=>Vp (F:=F) (n:=n) Q s x.now x.s x.r (by omega) (by omega) (by omega) (by omega) hz.2.1 hz.2.2.1 hz.2.2.2
   simp only [Sv.v,Se.v,sP] at p1
   simp only [List.length_map,List.getElem?_map,hlt,hx,ht,h0,hn,rP,hr',p1,go_sem,Nat.reduceAdd,Nat.reduceMul,Nat.reduceEqDiff,Nat.reduceBEq,Nat.reduceMod,Nat.reduceDiv,↓reduceIte,reduceCtorEq]
   done
  ·rw [if_neg hr]
   have hr':decide (0 < x.r) = false:=decide_eq_false hr
   have p1:=fun n=>Ne.O8 (F:=F) (n:=n) T O C m x.now x.k (decide (x.r < 0)) x.s hF (by omega) (by omega) (by omega) hz.1 hz.2.1 hz.2.2.1 hz.2.2.2
   simp only [Ne.Nv.v,Se.v,sP] at p1
   simp only [List.length_map,List.getElem?_map,hlt,hx,ht,h0,hn,rP,hr',p1,go_sem,Nat.reduceAdd,Nat.reduceMul,Nat.reduceEqDiff,Nat.reduceBEq,Nat.reduceMod,Nat.reduceDiv,↓reduceIte,reduceCtorEq]
   done
 ·have hd:=@end_ _ l
  rw [List.take_length]
  simp only [List.length_map,hd,go_sem,Nat.reduceAdd,Nat.reduceMul,Nat.reduceEqDiff,Nat.reduceBEq,Nat.reduceMod,Nat.reduceDiv,↓reduceIte,reduceCtorEq]
  done
end Go.Proofs.Ytfokaoeinpnagaa.Kc
set_option maxRecDepth 4000
namespace Go.Proofs.Ytfokaoeinpnagaa.Kc
open Go Ev
variable {ext : Env} {F n:Nat} {θ:Th} {nm:Int → ByteArray → List ByteArray} {gt:ByteArray → Int → Int → Int × Bool}
abbrev Jm (now:Int):AV:=.agg [.ig,.ig,.f (.int .i64 now)]
theorem DZ (now:Int) (q:Qn):G ext F (n + 4) 34 [Jm now,q.v] = some ([lH.v,vb false],[Jm now,q.v]):=by
 refine eD (cf:=c34) rfl ?_
 have h1:=fun n=>Ji (ext:=ext) (F:=F) (n:=n) now q
 simp only [c34,h1,go_sem,Nat.reduceAdd,Nat.reduceMul,Nat.reduceEqDiff,Nat.reduceBEq,Nat.reduceMod,Nat.reduceDiv,↓reduceIte,reduceCtorEq]
 try rfl
theorem Jo (M:BQ nm ext) (now:Int) (q:Qn):G ext F (n + 5) 35 [Jm now,q.v] = some ([lH.v,vs ⟨#[]⟩,vb false],[Jm now,q.v]):=by
 refine eD (cf:=Sz) rfl ?_
 have h1:=fun n=>DZ (ext:=ext) (F:=F) (n:=n) now ⟨q.q,5,q.c⟩
 have h2:=fun n=>qc (F:=F) (n:=n) M lH.s (by intro y h;cases h)
 rw [show vG nm lH.s = (⟨#[]⟩,false) from LV (by decide)] at h2
 simp only [lH,BO,Se.v,sP,List.map_nil] at h1 h2
 by_cases h5:q.t = 5
 ·have h5':decide (q.t = 5) = true:=decide_eq_true h5
  simp only [Sz,h5',go_sem,Nat.reduceAdd,Nat.reduceMul,Nat.reduceEqDiff,Nat.reduceBEq,Nat.reduceMod,Nat.reduceDiv,↓reduceIte,reduceCtorEq]
  try rfl
 ·have h5':decide (q.t = 5) = false:=decide_eq_false h5
  simp only [Sz,h5',h1,h2,go_sem,Nat.reduceAdd,Nat.reduceMul,Nat.reduceEqDiff,Nat.reduceBEq,Nat.reduceMod,Nat.reduceDiv,↓reduceIte,reduceCtorEq]
  try rfl
theorem Po (now:Int) (c:Ch) (q:Qn):G ext F (n + 4) 36 [Jm now,c.v,q.v] = some ([(Ch.v ⟨c.hits,3,c.nm,c.wo⟩)],[Jm now,c.v,q.v]):=by
 refine eD (cf:=Vi) rfl ?_
 have h1:=fun n=>Ne.FH (ext:=ext) (F:=F) (n:=n) now q
 simp only [Vi,h1,go_sem,Nat.reduceAdd,Nat.reduceMul,Nat.reduceEqDiff,Nat.reduceBEq,Nat.reduceMod,Nat.reduceDiv,↓reduceIte,reduceCtorEq]
 try rfl
theorem FQ (O:BQ nm ext) (hF:200000000000001 ≤ F) (now:Int) (q:Qn):G ext F (n + 6) 19 [.one .ig,.one .ig,vi now,q.v] = some ([(Ch.v ⟨[],3,q.q,lH⟩)],[.one .ig,.one .ig,vi now,q.v]):=by
 refine eD (cf:=c19) rfl ?_
 have hw1:IntKind.i64.wrap (0 + 1) = 1:=by decide
 have t1:=fun n=>DZ (ext:=ext) (F:=F) (n:=n) now q
 have a1:=fun n=>Jo (F:=F) (n:=n) O now q
 have e1:=fun n=>Po (ext:=ext) (F:=F) (n:=n) now ⟨[],0,q.q,lH⟩ q
 simp only [Ch.v,kR.v,lH,BO,List.map_nil] at t1 a1 e1 ⊢
 simp only [c19,go_sem,Nat.reduceAdd,Nat.reduceMul,Nat.reduceEqDiff,Nat.reduceBEq,Nat.reduceMod,Nat.reduceDiv,↓reduceIte,reduceCtorEq]
 refine Lx 1 (fun _:Unit=>⟨[(7,PV.c (CV.one (PL.ptr 160000 0))),(8,PV.c (CV.one (PL.ptr 180000 0))),(9,PV.c (CV.one (PL.ptr 200000 0))),(10,PV.c (CV.one (PL.ptr 220000 0))),(11,PV.c (CV.one (PL.mp 440000)))],[(160000,Ob.iK [PL.f (FV.str q.q),PL.f (FV.int IntKind.i64 q.t),PL.f (FV.int IntKind.i64 q.c)]),(180000,Ob.iK [PL.dM,PL.f (FV.int IntKind.i64 0),PL.f (FV.str ⟨#[]⟩),PL.f (FV.str ⟨#[]⟩),PL.f (FV.int IntKind.i64 0),PL.f (FV.int IntKind.i64 0),PL.dM,PL.f (FV.int IntKind.i64 0),PL.f (FV.int IntKind.i64 0)]),(200000,Ob.iK [PL.ig,PL.ig,PL.f (FV.int IntKind.i64 now)]),(220000,Ob.iK [PL.dM,PL.f (FV.int IntKind.i64 0),PL.f (FV.str ⟨#[]⟩),PL.f (FV.str ⟨#[]⟩),PL.f (FV.int IntKind.i64 0),PL.f (FV.int IntKind.i64 0),PL.dM,PL.f (FV.int IntKind.i64 0),PL.f (FV.int IntKind.i64 0)]),(440000,Ob.map (KS.one SK.str) [])]⟩) (fun i _=>i = 0) (by omega) () rfl rfl (fun i x hi hP=>?_) (fun x hP=>absurd hP (by decide))
 simp only [hw1,t1,a1,e1,qZ,vY,vX,List.map_nil,List.findIdx?_nil,Option.getD_none,Option.bind_none,Option.map_none,go_sem,Nat.reduceAdd,Nat.reduceMul,Nat.reduceEqDiff,Nat.reduceBEq,Nat.reduceMod,Nat.reduceDiv,↓reduceIte,reduceCtorEq]
abbrev nd_ : ByteArray:=⟨#[1,100,0]⟩
abbrev Vv : ByteArray:=⟨#[1,101,0]⟩
abbrev XE : Qn:=⟨⟨#[]⟩,0,0⟩
abbrev L5 : List Pt:=[⟨0,⟨na,5,1,[nb],7⟩,5,XE⟩,⟨0,⟨nb,1,1,[dd],5⟩,3,XE⟩,⟨0,⟨O4,5,1,[nd_],7⟩,5,XE⟩,⟨0,⟨nd_,5,1,[O4],7⟩,5,XE⟩,⟨0,⟨Vv,5,1,[na],7⟩,2,XE⟩]
abbrev CX (θ:Th) (nm:Int → ByteArray → List ByteArray) (gt:ByteArray → Int → Int → Int × Bool) (q:ByteArray):Ch:=BP nm (d9 (j4 θ gt L5).1 2) (Ne.gF (j4 θ gt L5).2 2) 2 ⟨q,1,1⟩
structure Ma (θ:Th) (nm:Int → ByteArray → List ByteArray) (gt:ByteArray → Int → Int → Int × Bool):Prop where
 a1:(CX θ nm gt na).hits.length = 2
 a2:(CX θ nm gt na).e = 0
 a3:(CX θ nm gt na).nm = nb
 a4:XC (lefts (CX θ nm gt na)) = 3
 c1:(CX θ nm gt O4).e = 4
 c2:(CX θ nm gt O4).hits.length = 2
 e1:(CX θ nm gt Vv).e = 3
 e2:(CX θ nm gt Vv).hits.length = 0
 t1:vG nm ⟨na,5,1,[nb],7⟩ = (nb,true)
set_option maxHeartbeats 4000000 in
theorem Jp (T:θ.Ok ext) (O:Ne.FD gt ext) (C:nD ext) (Q:DN θ ext) (M:BQ nm ext) (L:Ma θ nm gt) (hF:200000000000001 ≤ F):G ext F (n + 8) 9 [] = some ([vb true],[]):=by
 refine eD (cf:=c9) rfl ?_
 have f:=fun n=>lV (F:=F) (n:=n) T O C Q hF L5 (by decide) (by decide)
 have W:=(fiA (θ:=θ) (gt:=gt) L5).w (by decide)
 have g1:=fun n=>qg (F:=F) (n:=n) M C hF (j4 θ gt L5).1 (j4 θ gt L5).2 2 ⟨na,1,1⟩ W.hd W.hu W.hy W.hd2 W.hu2
 have g2:=fun n=>qg (F:=F) (n:=n) M C hF (j4 θ gt L5).1 (j4 θ gt L5).2 2 ⟨O4,1,1⟩ W.hd W.hu W.hy W.hd2 W.hu2
 have g3:=fun n=>qg (F:=F) (n:=n) M C hF (j4 θ gt L5).1 (j4 θ gt L5).2 2 ⟨Vv,1,1⟩ W.hd W.hu W.hy W.hd2 W.hu2
 have a1:(BP nm (d9 (j4 θ gt L5).1 2) (Ne.gF (j4 θ gt L5).2 2) 2 ⟨na,1,1⟩).hits.length = 2:=L.a1
 have a2:(BP nm (d9 (j4 θ gt L5).1 2) (Ne.gF (j4 θ gt L5).2 2) 2 ⟨na,1,1⟩).e = 0:=L.a2
 have a3:(BP nm (d9 (j4 θ gt L5).1 2) (Ne.gF (j4 θ gt L5).2 2) 2 ⟨na,1,1⟩).nm = nb:=L.a3
 have a4:XC (lefts (BP nm (d9 (j4 θ gt L5).1 2) (Ne.gF (j4 θ gt L5).2 2) 2 ⟨na,1,1⟩)) = 3:=L.a4
 have c1:(BP nm (d9 (j4 θ gt L5).1 2) (Ne.gF (j4 θ gt L5).2 2) 2 ⟨O4,1,1⟩).e = 4:=L.c1
 have c2:(BP nm (d9 (j4 θ gt L5).1 2) (Ne.gF (j4 θ gt L5).2 2) 2 ⟨O4,1,1⟩).hits.length = 2:=L.c2
 have e1:(BP nm (d9 (j4 θ gt L5).1 2) (Ne.gF (j4 θ gt L5).2 2) 2 ⟨Vv,1,1⟩).e = 3:=L.e1
 have e2:(BP nm (d9 (j4 θ gt L5).1 2) (Ne.gF (j4 θ gt L5).2 2) 2 ⟨Vv,1,1⟩).hits.length = 0:=L.e2
 generalize BP nm (d9 (j4 θ gt L5).1 2) (Ne.gF (j4 θ gt L5).2 2) 2 ⟨na,1,1⟩ = A at g1 a1 a2 a3 a4
 generalize BP nm (d9 (j4 θ gt L5).1 2) (Ne.gF (j4 θ gt L5).2 2) 2 ⟨O4,1,1⟩ = B at g2 c1 c2
 generalize BP nm (d9 (j4 θ gt L5).1 2) (Ne.gF (j4 θ gt L5).2 2) 2 ⟨Vv,1,1⟩ = D at g3 e1 e2
 have l1:=fun n=>L9 (ext:=ext) (F:=F) (n:=n) A (by omega) hF
 have k1:=fun n=>LY (ext:=ext) (F:=F) (n:=n) A (by omega) hF
 rw [a4] at l1
 have t1:=fun n=>qc (F:=F) (n:=n) M ⟨na,5,1,[nb],7⟩ (by intro y hy;rw [List.mem_singleton] at hy;subst hy;decide)
 rw [L.t1] at t1
 have n1:=fun n=>FQ (F:=F) (n:=n) M hF 0 XE
 have s:=fun n a b=>Vu (ext:=ext) (F:=F) (n:=n) a b
 generalize (j4 θ gt L5).1 = S at f g1 g2 g3
 generalize (j4 θ gt L5).2 = N at f g1 g2 g3
 simp only [Se.v,sP,Ch.v,kR.v,List.map_cons,List.map_nil,rP,fB,lH,BO] at f t1 n1 s
 simp only [Ch.v,a2,a3] at l1 k1
 have i2:((A.hits.length:Nat):Int) = 2:=by omega
 have i3:((B.hits.length:Nat):Int) = 2:=by omega
 have i4:((D.hits.length:Nat):Int) = 0:=by omega
 simp only [c9,f,s,g1,g2,g3,l1,k1,t1,n1,a2,a3,c1,e1,List.length_map,i2,i3,i4,decide_true,go_sem,Nat.reduceAdd,Nat.reduceMul,Nat.reduceEqDiff,Nat.reduceBEq,Nat.reduceMod,Nat.reduceDiv,↓reduceIte,reduceCtorEq]
 done
end Go.Proofs.Ytfokaoeinpnagaa.Kc
namespace Go.Proofs.Ytfokaoeinpnagaa.Kc
open Go Ev
variable {nm : Int → ByteArray → List ByteArray} {pk:Qn → It × Bool} {fd:Qn → Ne.Nt × Bool} {now:Int}
inductive Path (nm:Int → ByteArray → List ByteArray) (c:Int) (a:ByteArray):List kR → ByteArray → Prop
 | nil:Path nm c a [] a
 | snoc {hits:List kR} {b to:ByteArray} {h:kR}:Path nm c a hits b → h.s.q = b → h.s.t = 5 → h.s.c = c → 1 ≤ h.left → tg nm h.s = some to → Path nm c a (hits ++ [h]) to
structure Mc (pk:Qn → It × Bool) (now:Int):Prop where
 key:∀ q,(pk q).2 = true → (pk q).1.q = q.q ∧ (pk q).1.t = q.t ∧ (pk q).1.c = q.c
 live:∀ q,(pk q).2 = true → jV now (pk q).1.u = true
theorem Md {now u:Int} (h:jV now u = true):1 ≤ qQ now u:=by
 unfold qQ
 rw [if_pos h]
 unfold jV at h
 rw [Bool.and_eq_true,decide_eq_true_eq] at h
 split <;> omega
theorem SL (hp:Mc pk now) {q:Qn} {h:kR} (ht:tl pk now q = some h):h.s.q = q.q ∧ h.s.t = q.t ∧ h.s.c = q.c ∧ 1 ≤ h.left:=by
 unfold tl at ht
 split at ht
 ·rename_i hc
  cases ht
  obtain ⟨k1,k2,k3⟩:=hp.key q hc.1
  exact ⟨k1,k2,k3,Md (hp.live q hc.1)⟩
 ·cases ht
theorem ZL (hp:Mc pk now) {q:Qn} {h:kR} {to:ByteArray} (ht:al nm pk now q = some (h,to)):q.t ≠ 5 ∧ h.s.q = q.q ∧ h.s.t = 5 ∧ h.s.c = q.c ∧ 1 ≤ h.left ∧ tg nm h.s = some to:=by
 unfold al at ht
 split at ht
 ·cases ht
 rename_i h5
 obtain ⟨h',h1,h2⟩:=zbm ht
 obtain ⟨to',h3,h4⟩:=zmm h2
 cases h4
 obtain ⟨k1,k2,k3,k4⟩:=SL hp h1
 exact ⟨h5,k1,k2,k3,k4,h3⟩
structure Lnk (nm:Int → ByteArray → List ByteArray) (q:Qn) (c:Ch):Prop where
 len:c.hits.length ≤ 9
 e:0 ≤ c.e ∧ c.e ≤ 4
 found:c.e = 0 → ∃ hits h,c.hits = hits ++ [h] ∧ Path nm q.c q.q hits c.nm ∧ h.s.q = c.nm ∧ h.s.t = q.t ∧ h.s.c = q.c ∧ 1 ≤ h.left ∧ (hits ≠ [] → q.t ≠ 5)
 long:c.e = 4 → q.t ≠ 5 ∧ c.hits ≠ [] ∧ ∃ to,Path nm q.c q.q c.hits to
 rest:c.e ≠ 0 → c.e ≠ 4 → Path nm q.c q.q c.hits c.nm ∧ (c.hits ≠ [] → q.t ≠ 5)
theorem Hl (hp:Mc pk now) (q0:Qn):∀ (f:Nat) (met:List ByteArray) (hits:List kR) (q:Qn),hits.length + f = 9 → 1 ≤ f → q.t = q0.t → q.c = q0.c → Path nm q0.c q0.q hits q.q → (hits ≠ [] → q0.t ≠ 5) → Lnk nm q0 (NP nm pk fd now f met hits q)
 | 0,_,_,_,_,h,_,_,_,_=>by omega
 | f + 1,met,hits,q,hl,_,ht,hc,hP,hn=>by
  unfold NP
  cases h1:tl pk now q with
  | some h =>
   obtain ⟨k1,k2,k3,k4⟩:=SL hp h1
   refine ⟨by show (hits ++ [h]).length ≤ 9;simp;omega,by show (0:Int) ≤ 0 ∧ (0:Int) ≤ 4;omega,fun _=>⟨hits,h,rfl,hP,k1,by rw [k2,ht],by rw [k3,hc],k4,hn⟩,fun e=>(by cases e),fun e=>absurd rfl e⟩
  | none =>
   cases h2:al nm pk now q with
   | none =>
    dsimp only
    unfold fin
    split
    ·refine ⟨by show hits.length ≤ 9;omega,?_,fun e=>?_,fun e=>?_,fun _ _=>⟨hP,hn⟩⟩
     ·show 0 ≤ (if _ then (2:Int) else 1) ∧ (if _ then (2:Int) else 1) ≤ 4
      split <;> omega
     ·exfalso
      have e':(if (fd q).1.nx = true then (2:Int) else 1) = 0:=e
      split at e' <;> omega
     ·exfalso
      have e':(if (fd q).1.nx = true then (2:Int) else 1) = 4:=e
      split at e' <;> omega
    ·exact ⟨by show hits.length ≤ 9;omega,by show (0:Int) ≤ 3 ∧ (3:Int) ≤ 4;omega,fun e=>absurd (show (3:Int) = 0 from e) (by decide),fun e=>absurd (show (3:Int) = 4 from e) (by decide),fun _ _=>⟨hP,hn⟩⟩
   | some p =>
    obtain ⟨h,to⟩:=p
    obtain ⟨k0,k1,k2,k3,k4,k5⟩:=ZL hp h2
    have hP':Path nm q0.c q0.q (hits ++ [h]) to:=.snoc hP k1 k2 (by rw [k3,hc]) k4 k5
    have hn':q0.t ≠ 5:=by rw [← ht];exact k0
    dsimp only
    split
    ·exact ⟨by show (hits ++ [h]).length ≤ 9;simp;omega,by show (0:Int) ≤ 4 ∧ (4:Int) ≤ 4;omega,fun e=>absurd (show (4:Int) = 0 from e) (by decide),fun _=>⟨hn',by simp,to,hP'⟩,fun _ e=>absurd rfl e⟩
    ·rename_i hm
     have h8:hits.length < 8:=by
      have:¬ 8 ≤ hits.length:=fun h=>hm (.inl h)
      omega
     exact Hl hp q0 f (met ++ [to]) (hits ++ [h]) ⟨to,q.t,q.c⟩ (by simp;omega) (by omega) ht hc hP' (fun _=>hn')
theorem Pp (hp:Mc pk now) (q:Qn):Lnk nm q (BP nm pk fd now q):=Hl hp q 9 [q.q] [] q rfl (by omega) rfl rfl .nil (fun h=>absurd rfl h)
end Go.Proofs.Ytfokaoeinpnagaa.Kc
namespace Go.Proofs.Ytfokaoeinpnagaa.Kc
open Go Ev
variable {nm : Int → ByteArray → List ByteArray}
def Pq (nm:Int → ByteArray → List ByteArray) (a:ByteArray) (hits:List kR):Nat → ByteArray
 | 0=>a
 | i + 1=>match hits[i]? with
  | some h=>(vG nm h.s).1
  | none=>⟨#[]⟩
theorem yx {a:ByteArray} {hits:List kR} {i:Nat}:Pq nm a hits (i + 1) = match hits[i]? with | some h=>(vG nm h.s).1 | none=>⟨#[]⟩:=rfl
theorem sV {a:ByteArray} {hits:List kR} {h:kR}:∀ {i:Nat},i ≤ hits.length → Pq nm a (hits ++ [h]) i = Pq nm a hits i
 | 0,_=>rfl
 | i + 1,hi=>by
  rw [yx,yx,List.getElem?_append_left (by omega)]
theorem Ho {c:Int} {a b:ByteArray} {hits:List kR} (hP:Path nm c a hits b):(∀ i h,hits[i]? = some h → h.s.q = Pq nm a hits i ∧ h.s.t = 5 ∧ h.s.c = c ∧ 1 ≤ h.left ∧ (vG nm h.s).2 = true) ∧ Pq nm a hits hits.length = b:=by
 induction hP with
 | nil=>exact ⟨fun i h hi=>by simp at hi,rfl⟩
 | snoc hP h1 h2 h3 h4 h5 ih =>
  rename_i hits b to h
  have ht:vG nm h.s = (to,true):=by unfold vG;rw [h5]
  refine ⟨fun i x hx=>?_,?_⟩
  ·by_cases hi:i < hits.length
   ·rw [List.getElem?_append_left hi] at hx
    rw [sV (by omega)]
    exact ih.1 i x hx
   ·have hl:=(List.getElem?_eq_some_iff.mp hx).1
    rw [List.length_append,List.length_singleton] at hl
    obtain rfl:i = hits.length:=by omega
    rw [List.getElem?_append_right (Nat.le_refl _),Nat.sub_self] at hx
    cases hx
    rw [sV (Nat.le_refl _),ih.2]
    exact ⟨h1,h2,h3,h4,by rw [ht]⟩
  ·rw [List.length_append,List.length_singleton,yx]
   rw [List.getElem?_append_right (Nat.le_refl _),Nat.sub_self]
   show (vG nm h.s).1 = _
   rw [ht]
def FR (nm:Int → ByteArray → List ByteArray) (a:ByteArray) (c:Ch) (i:Nat):ByteArray:=if i = c.hits.length ∧ c.e = 0 then Pq nm a c.hits (i - 1) else Pq nm a c.hits i
structure ZM (nm:Int → ByteArray → List ByteArray) (q:Qn) (c:Ch):Prop where
 len:c.hits.length ≤ 9
 e:0 ≤ c.e ∧ c.e ≤ 4
 key:∀ i h,c.hits[i]? = some h → h.s.q = Pq nm q.q c.hits i ∧ h.s.c = q.c ∧ 1 ≤ h.left
 last:∀ i h,c.hits[i]? = some h → i + 1 = c.hits.length → c.e = 0 → h.s.t = q.t
 mid:∀ i h,c.hits[i]? = some h → ¬ (i + 1 = c.hits.length ∧ c.e = 0) → h.s.t = 5 ∧ (vG nm h.s).2 = true ∧ q.t ≠ 5
 found:c.e = 0 → c.hits ≠ []
 long:c.e = 4 → c.hits ≠ []
 name:c.e ≠ 4 → c.nm = FR nm q.q c c.hits.length
theorem ZN {q:Qn} {c:Ch} (h:Lnk nm q c):ZM nm q c:=by
 by_cases h0:c.e = 0
 ·obtain ⟨hits,x,e1,hP,k1,k2,k3,k4,k5⟩:=h.found h0
  obtain ⟨p1,p2⟩:=Ho hP
  have hl:c.hits.length = hits.length + 1:=by rw [e1];simp
  have FT:∀ i y,c.hits[i]? = some y → (i < hits.length ∧ hits[i]? = some y) ∨ (i = hits.length ∧ y = x):=fun i y hy=>by
   have hb:=(List.getElem?_eq_some_iff.mp hy).1
   rw [e1] at hy
   by_cases hi:i < hits.length
   ·rw [List.getElem?_append_left hi] at hy;exact .inl ⟨hi,hy⟩
   ·obtain rfl:i = hits.length:=by omega
    rw [List.getElem?_append_right (Nat.le_refl _),Nat.sub_self] at hy
    cases hy
    exact .inr ⟨rfl,rfl⟩
  refine ⟨h.len,h.e,fun i y hy=>?_,fun i y hy hi _=>?_,fun i y hy hi=>?_,fun _=>by rw [e1];simp,fun e=>by omega,fun _=>?_⟩
  ·rcases FT i y hy with ⟨hi,hy'⟩ | ⟨rfl,rfl⟩
   ·obtain ⟨g1,g2,g3,g4,g5⟩:=p1 i y hy'
    rw [e1,sV (by omega)]
    exact ⟨g1,g3,g4⟩
   ·rw [e1,sV (Nat.le_refl _),p2]
    exact ⟨k1,k3,k4⟩
  ·rcases FT i y hy with ⟨hi',hy'⟩ | ⟨rfl,rfl⟩
   ·omega
   ·exact k2
  ·rcases FT i y hy with ⟨hi',hy'⟩ | ⟨rfl,rfl⟩
   ·obtain ⟨g1,g2,g3,g4,g5⟩:=p1 i y hy'
    exact ⟨g2,g5,k5 (by intro e;rw [e] at hi';simp at hi')⟩
   ·exact absurd ⟨hl.symm,h0⟩ hi
  ·unfold FR
   rw [if_pos ⟨rfl,h0⟩,hl,Nat.add_sub_cancel,e1,sV (Nat.le_refl _),p2]
 ·have main:∃ b,Path nm q.c q.q c.hits b ∧ (c.hits ≠ [] → q.t ≠ 5) ∧ (c.e ≠ 4 → b = c.nm) ∧ (c.e = 4 → c.hits ≠ []):=by
   by_cases h4:c.e = 4
   ·obtain ⟨g1,g2,to,g3⟩:=h.long h4
    exact ⟨to,g3,fun _=>g1,fun e=>absurd h4 e,fun _=>g2⟩
   ·obtain ⟨g1,g2⟩:=h.rest h0 h4
    exact ⟨_,g1,g2,fun _=>rfl,fun e=>absurd e h4⟩
  obtain ⟨b,hP,g1,g2,g3⟩:=main
  obtain ⟨p1,p2⟩:=Ho hP
  refine ⟨h.len,h.e,fun i y hy=>?_,fun i y hy hi e=>absurd e h0,fun i y hy hi=>?_,fun e=>absurd e h0,g3,fun e=>?_⟩
  ·obtain ⟨k1,k2,k3,k4,k5⟩:=p1 i y hy
   exact ⟨k1,k3,k4⟩
  ·obtain ⟨k1,k2,k3,k4,k5⟩:=p1 i y hy
   exact ⟨k2,k5,g1 (by intro e;rw [e] at hy;simp at hy)⟩
  ·unfold FR
   rw [if_neg (fun x=>h0 x.2),p2,g2 e]
theorem ZO (s:Sv) (now:Int):Mc (d9 s now) now where
 key q h:=by
  obtain ⟨-,h1, -⟩:=BS h
  exact ⟨congrArg Qn.q h1,congrArg Qn.t h1,congrArg Qn.c h1⟩
 live q h:=(BS h).2.2
theorem ZP (s:Sv) (fd:Qn → Ne.Nt × Bool) (now:Int) (q:Qn):ZM nm q (BP nm (d9 s now) fd now q):=ZN (Pp (ZO s now) q)
theorem Me {a:ByteArray} {c:Ch} {i:Nat} (h:i < c.hits.length):FR nm a c i = Pq nm a c.hits i:=by
 unfold FR;rw [if_neg (fun x=>by have:=x.1;omega)]
theorem Pv {a:ByteArray} {c:Ch} {i:Nat} {h:kR} (hi:c.hits[i]? = some h) (hn:¬ (i + 1 = c.hits.length ∧ c.e = 0)):FR nm a c (i + 1) = (vG nm h.s).1:=by
 unfold FR
 rw [if_neg hn]
 show (match c.hits[i]? with | some h=>(vG nm h.s).1 | none=>⟨#[]⟩) = _
 rw [hi]
theorem Mf {a:ByteArray} {c:Ch} {i:Nat} (hi:i + 1 = c.hits.length) (h0:c.e = 0):FR nm a c (i + 1) = FR nm a c i:=by
 rw [Me (show i < c.hits.length by omega)]
 unfold FR
 rw [if_pos ⟨hi,h0⟩]
 rfl
theorem SN {s:Sv} {now:Int} {q:Qn} {h:kR} (hy:∀ x ∈ s.m,∀ y ∈ x.d,y.size ≤ 1000000) (ht:tl (d9 s now) now q = some h):∀ y ∈ h.s.d,y.size ≤ 1000000:=by
 unfold tl at ht
 split at ht
 ·rename_i hc
  cases ht
  exact hy _ (BS hc.1).1
 ·cases ht
theorem Mg {s:Sv} {now:Int} {fd:Qn → Ne.Nt × Bool} (hy:∀ x ∈ s.m,∀ y ∈ x.d,y.size ≤ 1000000):∀ (f:Nat) (met:List ByteArray) (hits:List kR) (q:Qn),(∀ h ∈ hits,∀ y ∈ h.s.d,y.size ≤ 1000000) → ∀ h ∈ (NP nm (d9 s now) fd now f met hits q).hits,∀ y ∈ h.s.d,y.size ≤ 1000000
 | 0,met,hits,q,hh=>by unfold NP;exact hh
 | f + 1,met,hits,q,hh=>by
  have app:∀ x:kR,(∀ y ∈ x.s.d,y.size ≤ 1000000) → ∀ h ∈ hits ++ [x],∀ y ∈ h.s.d,y.size ≤ 1000000:=fun x hx h hm=>by
   rcases List.mem_append.mp hm with hm | hm
   ·exact hh h hm
   ·rw [List.mem_singleton] at hm;subst hm;exact hx
  unfold NP
  cases h1:tl (d9 s now) now q with
  | some x=>exact app x (SN hy h1)
  | none =>
   cases h2:al nm (d9 s now) now q with
   | none =>
    dsimp only
    unfold fin
    split <;> exact hh
   | some p =>
    obtain ⟨x,to⟩:=p
    have hx:∀ y ∈ x.s.d,y.size ≤ 1000000:=by
     unfold al at h2
     split at h2
     ·cases h2
     obtain ⟨z,g1,g2⟩:=zbm h2
     obtain ⟨v,g3,g4⟩:=zmm g2
     cases g4
     exact SN hy g1
    dsimp only
    split
    ·exact app x hx
    ·exact Mg hy f _ _ _ (app x hx)
theorem Pw {s:Sv} {now:Int} {fd:Qn → Ne.Nt × Bool} {q:Qn} (hy:∀ x ∈ s.m,∀ y ∈ x.d,y.size ≤ 1000000):∀ h ∈ (BP nm (d9 s now) fd now q).hits,∀ y ∈ h.s.d,y.size ≤ 1000000:=Mg hy 9 _ _ _ (by simp)
end Go.Proofs.Ytfokaoeinpnagaa.Kc
set_option maxRecDepth 4000
namespace Go.Proofs.Ytfokaoeinpnagaa.Kc
open Go Ev
variable {ext : Env} {F n:Nat} {θ:Th} {nm:Int → ByteArray → List ByteArray} {gt:ByteArray → Int → Int → Int × Bool}
theorem ZR {a:ByteArray} {c:Ch}:FR nm a c 0 = a:=by unfold FR;split <;> rfl
set_option maxHeartbeats 16000000 in
theorem zF (T:θ.Ok ext) (O:Ne.FD gt ext) (C:nD ext) (Q:DN θ ext) (M:BQ nm ext) (L:Ma θ nm gt) (hF:200000000000001 ≤ F) (l:List Pt) (now:Int) (q:Qn) (hl:l.length ≤ 200000000000000) (hd:∀ x ∈ l,x.s.d.length ≤ 200000000000000):G ext F (n + 9) 6 [vl (l.map rP),vi now,q.v] = some ([vb true],[vl (l.map rP),vi now,q.v]):=by
 refine eD (cf:=c6) rfl ?_
 have hs:=fun n=>FP (ext:=ext) (F:=F) (n:=n) l 40 hl hd hF
 have hv:=fun n=>Jp (F:=F) (n:=n) T O C Q M L hF
 by_cases h1:wu l = true ∧ (l.length:Int) ≤ 40
 ·rw [if_pos h1] at hs
  have z10:decide ((1:Int) = 0) = false:=rfl
  by_cases h3:q.q.size ≤ 300
  ·have h3':decide ((300:Int) < (q.q.size:Int)) = false:=decide_eq_false (by omega)
   have W:=(fiA (θ:=θ) (gt:=gt) l).w h1.1
   have hso:=(fiA (θ:=θ) (gt:=gt) l).s.o
   have f:=fun n=>lV (F:=F) (n:=n) T O C Q hF l (by omega) h1.1
   have g:=fun n=>qg (F:=F) (n:=n) M C hF (j4 θ gt l).1 (j4 θ gt l).2 now q W.hd W.hu W.hy W.hd2 W.hu2
   have hA:=ZP (nm:=nm) (j4 θ gt l).1 (Ne.gF (j4 θ gt l).2 now) now q
   have hsz:∀ h ∈ (BP nm (d9 (j4 θ gt l).1 now) (Ne.gF (j4 θ gt l).2 now) now q).hits,∀ y ∈ h.s.d,y.size ≤ 1000000:=Pw W.hy
   have k1:=fun n=>LG (ext:=ext) (F:=F) (n:=n) C (some (j4 θ gt l).1) (by rintro s ⟨⟩;omega)
   have k3:=fun n=>Lu (ext:=ext) (F:=F) (n:=n) (j4 θ gt l).1.o (j4 θ gt l).1.o (by omega) hF
   rw [decide_eq_true rfl] at k3
   rw [yg] at k1
   generalize BP nm (d9 (j4 θ gt l).1 now) (Ne.gF (j4 θ gt l).2 now) now q = A at g hA hsz
   generalize (j4 θ gt l).1 = S at f g k1 k3
   generalize (j4 θ gt l).2 = N at f g
   simp only [c6,hs,z10,h3',f,g,k1,go_sem,Nat.reduceAdd,Nat.reduceMul,Nat.reduceEqDiff,Nat.reduceBEq,Nat.reduceMod,Nat.reduceDiv,↓reduceIte,reduceCtorEq]
   have hlen:=hA.len
   have he:=hA.e
   have hwr:IntKind.i64.wrap ((A.hits.length:Int) - 1) = (A.hits.length:Int) - 1:=zC (by omega) (by omega)
   refine jS A.hits.length (fun i=>⟨[(5,PV.c (CV.one (PL.ptr 120000 0))),(7,PV.c (CV.one (PL.ptr 600200 0))),(9,PV.c (CV.one (PL.f (FV.sl (List.map rQ S.o))))),(10,PV.c (CV.one (PL.ptr 220000 0))),(11,PV.c (CV.one (PL.f (FV.str (FR nm q.q A i))))),(12,PV.c (CV.one (PL.f (FV.int IntKind.i64 i))))],[(120000,Ob.iK [PL.f (FV.str q.q),PL.f (FV.int IntKind.i64 q.t),PL.f (FV.int IntKind.i64 q.c)]),(220000,Ob.iK [PL.f (FV.sl (List.map rH A.hits)),PL.f (FV.int IntKind.i64 A.e),PL.f (FV.str A.nm),PL.f (FV.str A.wo.s.q),PL.f (FV.int IntKind.i64 A.wo.s.t),PL.f (FV.int IntKind.i64 A.wo.s.c),PL.f (FV.sl (List.map fB A.wo.s.d)),PL.f (FV.int IntKind.i64 A.wo.s.ttl),PL.f (FV.int IntKind.i64 A.wo.left)]),(600200,Ob.iK [PL.f (FV.int IntKind.i64 S.room),PL.mp 600204,PL.f (FV.sl (List.map rQ S.o)),PL.f (FV.int IntKind.i64 S.ch)]),(600204,Ob.map Ah (List.map ent S.m)),(602200,Ob.iK [PL.f (FV.int IntKind.i64 N.room),PL.mp 602204,PL.f (FV.sl (List.map rQ N.o)),PL.f (FV.int IntKind.i64 N.ch)]),(602204,Ob.map Ne.Ah (List.map Ne.ent N.m))]⟩) (fun i=>True) (by omega) (by rw [ZR];rfl) trivial (fun i hi hP=>?_) (fun hP=>?_)
   ·obtain ⟨x,hx,hlt,ht,h0⟩:=at_ hi
    have hn:=nx hi (by omega)
    obtain ⟨y1,y2,y3⟩:=hA.key i x hx
    rw [← Me hi] at y1
    have y1':decide (x.s.q = FR nm q.q A i) = true:=decide_eq_true y1
    have y2':decide (x.s.c = q.c) = true:=decide_eq_true y2
    have y3':decide (x.left < 1) = false:=decide_eq_false (by omega)
    by_cases hla:i + 1 = A.hits.length ∧ A.e = 0
    ·have XF:decide ((i:Int) = (A.hits.length:Int) - 1) = true:=decide_eq_true (by omega)
     have y5':decide (x.s.t = q.t) = true:=decide_eq_true (hA.last i x hx hla.1 hla.2)
     have y6':decide (A.e = 0) = true:=decide_eq_true hla.2
     rw [Mf hla.1 hla.2]
     by_cases y7:x.s.t = 5
     ·have XG:decide (x.s.t = 5) = true:=decide_eq_true y7
      simp only [List.length_map,List.getElem?_map,hlt,hx,ht,h0,hn,rH,hwr,y1',y2',y3',XF,y5',y6',XG,go_sem,Nat.reduceAdd,Nat.reduceMul,Nat.reduceEqDiff,Nat.reduceBEq,Nat.reduceMod,Nat.reduceDiv,↓reduceIte,reduceCtorEq]
      done
     ·have XG:decide (x.s.t = 5) = false:=decide_eq_false y7
      simp only [List.length_map,List.getElem?_map,hlt,hx,ht,h0,hn,rH,hwr,y1',y2',y3',XF,y5',y6',XG,go_sem,Nat.reduceAdd,Nat.reduceMul,Nat.reduceEqDiff,Nat.reduceBEq,Nat.reduceMod,Nat.reduceDiv,↓reduceIte,reduceCtorEq]
      done
    ·obtain ⟨z1,z2,z3⟩:=hA.mid i x hx hla
     have XG:decide (x.s.t = 5) = true:=decide_eq_true z1
     have z3':decide (q.t = 5) = false:=decide_eq_false z3
     have tg':=fun n=>qc (F:=F) (n:=n) M x.s (hsz x (List.mem_of_getElem? hx))
     rw [z2] at tg'
     simp only [Se.v,sP] at tg'
     rw [Pv hx hla]
     by_cases hb:i + 1 = A.hits.length
     ·have XF:decide ((i:Int) = (A.hits.length:Int) - 1) = true:=decide_eq_true (by omega)
      have y6':decide (A.e = 0) = false:=decide_eq_false (fun e=>hla ⟨hb,e⟩)
      simp only [List.length_map,List.getElem?_map,hlt,hx,ht,h0,hn,rH,hwr,y1',y2',y3',XF,y6',XG,z3',tg',go_sem,Nat.reduceAdd,Nat.reduceMul,Nat.reduceEqDiff,Nat.reduceBEq,Nat.reduceMod,Nat.reduceDiv,↓reduceIte,reduceCtorEq]
      done
     ·have XF:decide ((i:Int) = (A.hits.length:Int) - 1) = false:=decide_eq_false (by omega)
      simp only [List.length_map,List.getElem?_map,hlt,hx,ht,h0,hn,rH,hwr,y1',y2',y3',XF,XG,z3',tg',go_sem,Nat.reduceAdd,Nat.reduceMul,Nat.reduceEqDiff,Nat.reduceBEq,Nat.reduceMod,Nat.reduceDiv,↓reduceIte,reduceCtorEq]
      done
   ·have hde:=@end_ _ A.hits
    have c9:decide ((A.hits.length:Int) ≤ 9) = true:=decide_eq_true (by omega)
    by_cases e4:A.e = 4
    ·have e4':decide (A.e = 4) = true:=decide_eq_true e4
     have ZT:decide (A.e = 0) = false:=decide_eq_false (by omega)
     have p0:decide ((0:Int) < (A.hits.length:Int)) = true:=decide_eq_true (by have:=List.length_pos_iff.mpr (hA.long e4);omega)
     simp only [List.length_map,hde,e4',ZT,p0,c9,k1,k3,hv,go_sem,Nat.reduceAdd,Nat.reduceMul,Nat.reduceEqDiff,Nat.reduceBEq,Nat.reduceMod,Nat.reduceDiv,↓reduceIte,reduceCtorEq]
     done
    ·have e4':decide (A.e = 4) = false:=decide_eq_false e4
     have en:decide (A.nm = FR nm q.q A A.hits.length) = true:=decide_eq_true (hA.name e4)
     by_cases e0:A.e = 0
     ·have ZT:decide (A.e = 0) = true:=decide_eq_true e0
      have p0:decide ((0:Int) < (A.hits.length:Int)) = true:=decide_eq_true (by have:=List.length_pos_iff.mpr (hA.found e0);omega)
      simp only [List.length_map,hde,e4',ZT,en,p0,c9,k1,k3,hv,go_sem,Nat.reduceAdd,Nat.reduceMul,Nat.reduceEqDiff,Nat.reduceBEq,Nat.reduceMod,Nat.reduceDiv,↓reduceIte,reduceCtorEq]
      done
     ·have ZT:decide (A.e = 0) = false:=decide_eq_false e0
      simp only [List.length_map,hde,e4',ZT,en,c9,k1,k3,hv,go_sem,Nat.reduceAdd,Nat.reduceMul,Nat.reduceEqDiff,Nat.reduceBEq,Nat.reduceMod,Nat.reduceDiv,↓reduceIte,reduceCtorEq]
      done
  ·have h3':decide ((300:Int) < (q.q.size:Int)) = true:=decide_eq_true (by omega)
   simp only [c6,hs,z10,hv,h3',go_sem,Nat.reduceAdd,Nat.reduceMul,Nat.reduceEqDiff,Nat.reduceBEq,Nat.reduceMod,Nat.reduceDiv,↓reduceIte,reduceCtorEq]
 ·rw [if_neg h1] at hs
  simp only [c6,hs,hv,go_sem,Nat.reduceAdd,Nat.reduceMul,Nat.reduceEqDiff,Nat.reduceBEq,Nat.reduceMod,Nat.reduceDiv,↓reduceIte,reduceCtorEq]
end Go.Proofs.Ytfokaoeinpnagaa.Kc
set_option maxRecDepth 4000
namespace Go.Proofs.Ytfokaoeinpnagaa.Ev
open Go
section
variable {Γ : Env} {F s c1 c2:Nat} {ca cb cc:CC} {D:St → Option St} {cf:CF} {fJ:List AV} {σ:St}
@[go_sem ↓] theorem afj {k:List AV × List AV → Prop} {u:Tok k}:W k u (LQ Γ F ca cb s D cf fJ) ↔ fJ.length = cf.np ∧ W (fun e=>W (fun p=>p.1 = .iX ∧ W (fun t=>W (fun q=>(∀ id,q.1 ≠ .ext id) ∧ W (fun t=>W (fun b=>W (fun l=>W (fun r=>k (r.1,b.1)) ⟨⟩ (mh cf.ro b.2 l)) ⟨⟩ (slots b.2 cf.res)) ⟨⟩ (jQ t e.1 fJ)) ⟨⟩ (D q.2)) ⟨⟩ (ev Γ F cb t)) ⟨⟩ (some ⟨put p.2.tm s (.c (.one .any)),p.2.ob⟩)) ⟨⟩ (ev Γ F ca e.2)) ⟨⟩ (enter cf.bo 0 [] ⟨[],[]⟩ fJ):=by
 simp only [LQ,dN,dw,bq,bH,ne_eq,Decidable.not_not]
 refine and_congr Iff.rfl (cK fun e=>cK fun p=>?_)
 obtain ⟨o,σ'⟩:=p
 cases o with
 | iX =>
  simp only [true_and,bq]
  refine cK fun q=>?_
  obtain ⟨o,σ'⟩:=q
  cases o with
  | ext i=>simp [jm]
  | iX=>simp only [reduceCtorEq,not_false_eq_true,implies_true,true_and,bq,bX]
  | ret=>simp only [reduceCtorEq,not_false_eq_true,implies_true,true_and,bq,bX]
 | ext i=>simp [jm]
 | ret=>simp [jm]
def ds0 (ob:List (Nat × Ob)):Option PV → Option PV → Option St
 | some x,some y=>some ⟨[(0,x),(1,y)],ob⟩
 | _,_=>none
@[go_sem] theorem ZU {ob:List (Nat × Ob)} {x y:PV}:ds0 ob (some x) (some y) = some ⟨[(0,x),(1,y)],ob⟩:=rfl
@[go_sem ↓] theorem agK {k:St → Prop} {u:Tok k}:W k u (ZF Γ F cc c1 c2 σ) ↔ W (fun t=>W (fun p=>(∀ id,p.1 ≠ .ext id) ∧ W (fun z=>k ⟨[(c1,z)],p.2.ob⟩) ⟨⟩ (get p.2.tm 0)) ⟨⟩ (ev Γ F cc t)) ⟨⟩ (ds0 σ.ob (get σ.tm c1) (get σ.tm c2)):=by
 unfold ZF ds0
 cases h1:get σ.tm c1 with
 | none=>simp only [dN,jm]
 | some x =>
  cases h2:get σ.tm c2 with
  | none=>simp only [dN,jm,bH]
  | some y =>
   simp only [dN,bH,bq]
   refine cK fun p=>?_
   obtain ⟨o,σ'⟩:=p
   cases o with
   | ext i=>simp [jm]
   | iX=>simp only [ne_eq,reduceCtorEq,not_false_eq_true,implies_true,true_and,bX]
   | ret=>simp only [ne_eq,reduceCtorEq,not_false_eq_true,implies_true,true_and,bX]
end
end Go.Proofs.Ytfokaoeinpnagaa.Ev
namespace Go.Proofs.Ytfokaoeinpnagaa.Kc
open Go Ev
variable {ext : Env} {F n:Nat} {θ:Th}
def pA : CC:=(.seq (.reg [⟨(some 4),none,(.box 52 (.t 0))⟩,⟨(some 6),none,(.box 27 (.t 2))⟩,⟨(some 8),none,(.alloc 59 [(.f (.int .i64 0))])⟩] [1,3,4,6,8]) (.rT [⟨⟨(some 14),none,(.load 5 true (.t 6))⟩,[200000]⟩,⟨⟨(some 15),none,(.mv (.t 1))⟩,[200000]⟩,⟨⟨(some 16),none,(.fa 4 (.t 6))⟩,[200000]⟩,⟨⟨(some 17),none,(.load 1 false (.t 16))⟩,[200000]⟩,⟨⟨(some 18),none,(.call false 39 [(.t 15),(.t 17)])⟩,[200000]⟩,⟨⟨(some 19),none,(.mv (.t 3))⟩,[200000]⟩,⟨⟨(some 20),none,(.build [(.f (.str ⟨#[]⟩)),(.f (.int .i64 0)),(.f (.int .i64 0)),.dM,(.f (.int .i64 0)),(.f (.int .i64 0)),(.f (.int .i64 0))] [⟨0,⟨5,(.t 14)⟩⟩,⟨5,⟨1,(.t 18)⟩⟩,⟨6,⟨1,(.t 19)⟩⟩])⟩,[200000]⟩,⟨⟨(some 9),none,(.alloc 95 [(.f (.str ⟨#[]⟩)),(.f (.int .i64 0)),(.f (.int .i64 0)),.dM,(.f (.int .i64 0)),(.f (.int .i64 0)),(.f (.int .i64 0))])⟩,[]⟩] [] [] [⟨none,none,(.store 7 (.t 9) (.t 20))⟩] [1,4,6,8,9]))
def pB : CC:=(.seq (.seq (.reg [⟨(some 22),none,(.load 1 false (.t 4))⟩,⟨(some 23),none,(.mv (.t 1))⟩,⟨(some 24),none,(.load 7 true (.t 9))⟩,⟨(some 25),none,(.call false 41 [(.t 22),(.t 23),(.t 24)])⟩,⟨none,none,(.store 1 (.t 8) (.t 25))⟩] [4,6,8,9]) (.seq (.reg [⟨(some 26),none,(.load 1 false (.t 8))⟩,⟨(some 27),none,(.cmp .ne (.t 26) (.k (.one (.f (.int .i64 0)))))⟩] [4,6,8,9,27]) (.cond (.t 27) (.seq (.reg [⟨(some 28),none,(.load 1 false (.t 8))⟩,⟨none,none,(.store 1 (.t 8) (.t 28))⟩] [4,8]) .ret) .skip))) (.seq (.rT [⟨⟨(some 29),none,(.load 1 false (.t 4))⟩,[]⟩,⟨⟨(some 30),none,(.lN (.t 29))⟩,[]⟩,⟨⟨(some 31),none,(.fa 1 (.t 30))⟩,[]⟩,⟨⟨(some 32),none,(.load 1 false (.t 31))⟩,[]⟩,⟨⟨(some 33),none,(.fa 0 (.t 6))⟩,[]⟩,⟨⟨(some 34),none,(.load 3 true (.t 33))⟩,[]⟩,⟨⟨(some 35),none,(.load 7 true (.t 9))⟩,[]⟩,⟨⟨(some 36),none,(.call false 42 [(.t 35)])⟩,[]⟩] [] [] [⟨none,none,(.wT (.agg [.str,(.int .i64),(.int .i64)]) (.t 32) (.t 34) (.t 36))⟩] [4,6,8]) (.seq (.rT [⟨⟨(some 38),none,(.load 1 false (.t 4))⟩,[]⟩,⟨⟨(some 39),none,(.lN (.t 38))⟩,[]⟩,⟨⟨(some 40),none,(.fa 2 (.t 39))⟩,[]⟩,⟨⟨(some 41),none,(.load 1 false (.t 40))⟩,[]⟩,⟨⟨(some 42),none,(.fa 0 (.t 6))⟩,[]⟩,⟨⟨(some 43),none,(.load 3 true (.t 42))⟩,[]⟩,⟨⟨(some 44),none,(.call false 44 [(.t 41),(.t 43)])⟩,[]⟩,⟨⟨(some 45),none,(.load 1 false (.t 4))⟩,[]⟩,⟨⟨(some 46),none,(.lN (.t 45))⟩,[]⟩,⟨⟨(some 47),none,(.fa 0 (.t 46))⟩,[]⟩,⟨⟨(some 48),none,(.load 1 false (.t 47))⟩,[]⟩,⟨⟨(some 49),none,(.call false 43 [(.t 44),(.t 48)])⟩,[]⟩,⟨⟨(some 37),none,(.mv (.t 49))⟩,[]⟩,⟨⟨(some 50),none,(.ext (.t 37) 0)⟩,[]⟩,⟨⟨(some 51),none,(.ext (.t 37) 1)⟩,[]⟩,⟨⟨(some 10),none,(.mv (.t 50))⟩,[]⟩] [] [] [⟨(some 11),none,(.mv (.t 51))⟩] [4,8,10,11]) (.seq (.seq (.reg [⟨(some 52),none,(.mv (.t 11))⟩,⟨(some 53),none,(.fU (.t 52))⟩,⟨(some 54),none,(.mv (.k (.one (.f (.int .i64 0)))))⟩] [4,8,10,52,53,54]) (.block 0 (.loop [4,8,10,52,53,54] [20201,20205,20208,100000,180000,530002,530004,530006,530008,530010,530012,530014,530016,530202,530204,530206,530208,530210,530212,530214,530216,530402,530404,530406,530408,530410,530412,530414,530416,530602,530604,530606,530608,530610,530612,530614,530616,530802,530804,530806,530808,530810,530812,530814,530816,531002,531004,531006,531008,531010,531012,531014,531016,1000200,1002200] [] (.seq (.reg [⟨(some 55),none,(.cmp .lt (.t 54) (.t 53))⟩] [4,8,10,52,53,54,55]) (.seq (.cond (.t 55) .skip (.exit 0)) (.seq (.block 1 (.seq (.reg [⟨(some 56),none,(.ia 3 (.t 52) (.t 54))⟩,⟨(some 57),none,(.load 3 true (.t 56))⟩,⟨(some 13),none,(.alloc 24 [(.f (.str ⟨#[]⟩)),(.f (.int .i64 0)),(.f (.int .i64 0))])⟩,⟨none,none,(.store 3 (.t 13) (.t 57))⟩] [4,8,10,13,52,53,54]) (.rT [⟨⟨(some 58),none,(.load 1 false (.t 4))⟩,[]⟩,⟨⟨(some 59),none,(.lN (.t 58))⟩,[]⟩,⟨⟨(some 60),none,(.fa 1 (.t 59))⟩,[]⟩,⟨⟨(some 61),none,(.load 1 false (.t 60))⟩,[]⟩,⟨⟨(some 62),none,(.load 3 true (.t 13))⟩,[]⟩] [] [] [⟨none,none,(.del (.agg [.str,(.int .i64),(.int .i64)]) (.t 61) (.t 62))⟩] [4,8,10,52,53,54]))) (.reg [⟨(some 63),none,(.ar .add (.t 54) (.k (.one (.f (.int .i64 1)))))⟩,⟨(some 54),none,(.mv (.t 63))⟩] [4,8,10,52,53,54]))))))) (.seq (.reg [⟨(some 64),none,(.load 1 false (.t 4))⟩,⟨(some 65),none,(.mv (.t 10))⟩,⟨(some 66),none,(.lN (.t 64))⟩,⟨(some 67),none,(.fa 2 (.t 66))⟩,⟨none,none,(.store 1 (.t 67) (.t 65))⟩] [4,8]) (.seq (.reg [⟨none,none,(.store 1 (.t 8) (.k (.one (.f (.int .i64 0)))))⟩] [4,8]) .ret))))))
def Mh : CF:=⟨4,[(.cell 8 1 false)],[],[],.skip⟩
def ZV : CF:=⟨2,[],[],[],(.seq (.reg [⟨(some 2),none,(.load 1 false (.t 0))⟩,⟨(some 3),none,(.cmp .eq (.t 2) (.k (.one (.f (.int .i64 0)))))⟩] [0,1,3]) (.cond (.t 3) (.reg [⟨(some 4),none,(.load 1 false (.t 1))⟩,⟨(some 5),none,(.lN (.t 4))⟩,⟨(some 6),none,(.fa 3 (.t 5))⟩,⟨(some 7),none,(.load 1 false (.t 6))⟩,⟨(some 8),none,(.ar .add (.t 7) (.k (.one (.f (.int .i64 1)))))⟩,⟨(some 9),none,(.lN (.t 4))⟩,⟨(some 10),none,(.fa 3 (.t 9))⟩,⟨none,none,(.store 1 (.t 10) (.t 8))⟩] [0]) .skip))⟩
noncomputable abbrev vJ (ext:Env) (F n:Nat):List AV → Option (List AV × List AV):=LQ (G ext F n) F pA pB 21 (ZF (G ext F n) F ZV.body 8 4) Mh
theorem Mj (now:Int) (x:Se) (r:Int):vJ ext F (n + 9) [.one .ig,vi now,x.v,vi r] = some ([vi 1],[.one .ig,vi now,x.v,vi r]):=by
 refine Lf ?_
 have hu:=fun n=>xZ (ext:=ext) (F:=F) (n:=n) now x.ttl
 have hm:=fun n=>LH (ext:=ext) (F:=F) (n:=n) now (x.it (fI now x.ttl) r)
 simp only [vJ,pA,pB,Mh,ZV,hu,hm,Int.reduceEq,go_sem,Nat.reduceAdd,Nat.reduceMul,Nat.reduceEqDiff,Nat.reduceBEq,Nat.reduceMod,Nat.reduceDiv,↓reduceIte,reduceCtorEq]
theorem Mk (T:θ.Ok ext) (C:nD ext) (s:Sv) (now:Int) (x:Se) (r:Int) (hF:200000000000001 ≤ F) (h1:0 ≤ s.room ∧ s.room ≤ 1000000) (h2:0 ≤ s.ch ∧ s.ch ≤ 1000000000000) (h3:s.o.length ≤ 100000) (h4:x.q.size ≤ 1000000) (h5:x.d.length ≤ 1000000) (h6:∀ y ∈ x.d,y.size ≤ 1000000):vJ ext F (n + 9) [s.v,vi now,x.v,vi r] = some ([vi (uN θ s now x r).2],[(uN θ s now x r).1.v,vi now,x.v,vi r]):=by
 refine Lf ?_
 have hu:=fun n=>xZ (ext:=ext) (F:=F) (n:=n) now x.ttl
 have hm:=fun n=>Vo (F:=F) (n:=n) T s now (x.it (fI now x.ttl) r) hF h4 h5 h6
 by_cases h0:Jj θ s now (x.it (fI now x.ttl) r) = 0
 ·have hw:IntKind.i64.wrap (s.ch + 1) = s.ch + 1:=zC (by omega) (by omega)
  have hcl:=fun n=>DL (ext:=ext) (F:=F) (n:=n) C (x.it (fI now x.ttl) r) h5
  have hq:=@sQ s.o x.k
  have ht:=fun n=>DK (ext:=ext) (F:=F) (n:=n) C s.o x.k (by omega) hF
  have hc:=fun n=>LC (ext:=ext) (F:=F) (n:=n) C (CS s.o x.k ++ [x.k]) s.room (by simp;omega) (by omega) hF
  have hup:=yj s.m (x.it (fI now x.ttl) r)
  simp only [kq,rI] at hup
  rw [h0] at hm
  have he:uN θ s now x r = (⟨s.room,((CS s.o x.k ++ [x.k]).take ((CS s.o x.k ++ [x.k]).length - s.room.toNat)).foldl rid (upd s.m (x.it (fI now x.ttl) r)),(CS s.o x.k ++ [x.k]).drop ((CS s.o x.k ++ [x.k]).length - s.room.toNat),s.ch + 1⟩,0):=by
   unfold uN
   simp only [ne_eq,h0,not_true_eq_false,if_false]
  rw [he]
  generalize X6:CS s.o x.k ++ [x.k] = t at ht hc ⊢
  generalize t.drop (t.length - s.room.toNat) = td at hc ⊢
  generalize ZA:t.take (t.length - s.room.toNat) = tt at hc ⊢
  have htl:tt.length ≤ 1000000:=by rw [← ZA,List.length_take,← X6,List.length_append,List.length_singleton];omega
  generalize hM:upd s.m (x.it (fI now x.ttl) r) = M at hup ⊢
  simp only [vJ,pA,pB,Mh,ZV,hu,hm,Int.reduceEq,hcl,ht,hc,hup,hw,go_sem,Nat.reduceAdd,Nat.reduceMul,Nat.reduceEqDiff,Nat.reduceBEq,Nat.reduceMod,Nat.reduceDiv,↓reduceIte,reduceCtorEq]
  refine jS tt.length (fun i=>⟨[(4,PV.c (CV.one (PL.ptr 100000 0))),(8,PV.c (CV.one (PL.ptr 180000 0))),(10,PV.c (CV.one (PL.f (FV.sl (List.map rQ td))))),(52,PV.c (CV.one (PL.f (FV.sl (List.map rQ tt))))),(53,PV.c (CV.one (PL.f (FV.int IntKind.i64 ↑(List.map rQ tt).length)))),(54,PV.c (CV.one (PL.f (FV.int IntKind.i64 i))))],[(20201,Ob.iK [PL.f (FV.int IntKind.i64 s.room),PL.mp 530004,PL.f (FV.sl (List.map rQ s.o)),PL.f (FV.int IntKind.i64 s.ch)]),(100000,Ob.iK [PL.ptr 20201 0]),(180000,Ob.iK [PL.f (FV.int IntKind.i64 0)]),(530004,Ob.map Ah (((tt.take i).foldl rid M).map ent))]⟩) (fun _=>True) (by omega) rfl trivial (fun i hi _=>?_) (fun _=>?_)
  ·obtain ⟨k,hx,hlt,hit,h00⟩:=at_ hi
   have hn':=nx hi (by omega)
   have hdl:=yh ((tt.take i).foldl rid M) k
   have hfo:(tt.take (i + 1)).foldl rid M = rid ((tt.take i).foldl rid M) k:=by rw [List.take_add_one,hx,List.foldl_append];rfl
   simp only [List.length_map,List.getElem?_map,hlt,hx,hit,h00,hn',rQ,hdl,go_sem,Nat.reduceAdd,Nat.reduceMul,Nat.reduceEqDiff,Nat.reduceBEq,Nat.reduceMod,Nat.reduceDiv,↓reduceIte,reduceCtorEq]
   rw [hfo]
  ·have hd:=@end_ _ tt
   simp only [List.length_map,hd,hw,List.take_length,Int.reduceEq,go_sem,Nat.reduceAdd,Nat.reduceMul,Nat.reduceEqDiff,Nat.reduceBEq,Nat.reduceMod,Nat.reduceDiv,↓reduceIte,reduceCtorEq]
   done
 ·have he:uN θ s now x r = (s,Jj θ s now (x.it (fI now x.ttl) r)):=by
   unfold uN
   simp only [ne_eq,h0,not_false_eq_true,if_true]
  rw [he]
  simp only [vJ,pA,pB,Mh,ZV,hu,hm,Int.reduceEq,h0,go_sem,Nat.reduceAdd,Nat.reduceMul,Nat.reduceEqDiff,Nat.reduceBEq,Nat.reduceMod,Nat.reduceDiv,↓reduceIte,reduceCtorEq]
end Go.Proofs.Ytfokaoeinpnagaa.Kc
namespace Go.Proofs.Ytfokaoeinpnagaa.Ev
open Go
def FU (P:Program):List Field → Nat → Bool
 | [],_=>true
 | f :: fs,i=>(f.name != "_") && (f.offset == i) && (EM P f.type).isSome && FU P fs (i + 1)
def okT (P:Program) (t:TypeId):Bool:=!P.eqGuardType P.depth t && match P.underlying t with
 | some (.struct fs)=>!P.stoodInHeld t && FU P fs.toList 0
 | some (.int _)=>true
 | some .string=>true
 | some .bool=>true
 | _=>false
section
variable {P : Program} {t:TypeId} {w:World}
theorem uS {k:SK} (h:EM P t = some k):(∃ i,P.underlying t = some (.int i) ∧ k = .int i) ∨ (P.underlying t = some .bool ∧ k = .bool) ∨ (P.underlying t = some .string ∧ k = .str):=by
 unfold EM at h
 split at h <;> simp_all
theorem SQ {d:Nat} {k:SK} (h:EM P t = some k) {a b:SV} (ha:a.sk = k) (hb:b.sk = k):(Op.equalIn (d + 1) t (encS a) (encS b)).run P w = .ok (decide (a = b)) w:=by
 rcases uS h with ⟨i,hu,rfl⟩ | ⟨hu,rfl⟩ | ⟨hu,rfl⟩
 ·cases a <;> cases b <;> simp_all [SV.sk,encS,Op.equalIn,run_underlying hu]
  rw [Bool.eq_iff_iff];simp
 ·cases a <;> cases b <;> simp_all [SV.sk,encS,Op.equalIn,run_underlying hu]
  rw [Bool.eq_iff_iff];simp
 ·cases a <;> cases b <;> simp_all [SV.sk,encS,Op.equalIn,run_underlying hu]
  exact Mq.uF _ _
theorem BU {k:SK} (h:EM P t = some k) {xs:Array Value} {o:Nat} {v:Value} (hx:xs[o]? = some v):(part t xs o).run P w = .ok v w:=by
 rcases uS h with ⟨i,hu,rfl⟩ | ⟨hu,rfl⟩ | ⟨hu,rfl⟩ <;> simp [part,isAgg,run_underlying hu,hx]
theorem Ak {d:Nat} {xs ys:Array Value}:∀ {fs:List Field} {i:Nat} {ks:List SK} {ZZ9 bs:List SV},FU P fs i = true → I5 P fs = some ks → ZZ9.map SV.sk = ks → bs.map SV.sk = ks → (∀ j:Nat,xs[i + j]? = ZZ9[j]?.map encS) → (∀ j:Nat,ys[i + j]? = bs[j]?.map encS) →
  (Op.eqFields (d + 1) xs ys fs).run P w = .ok (decide (ZZ9 = bs)) w
 | [],i,ks,ZZ9,bs,_,hk,ha,hb,_,_=>by
  cases hk
  simp only [List.map_eq_nil_iff] at ha hb
  subst ha;subst hb
  simp [Op.eqFields]
 | f :: fs,i,ks,ZZ9,bs,hf,hk,ha,hb,hx,hy=>by
  obtain ⟨k,h1,h2⟩:=zbm hk
  obtain ⟨l,h3,rfl⟩:=zmm h2
  unfold FU at hf
  simp only [Bool.and_eq_true,bne_iff_ne,ne_eq,beq_iff_eq] at hf
  obtain ⟨⟨⟨f1,f2⟩,f3⟩,f4⟩:=hf
  cases ZZ9 with
  | nil=>simp at ha
  | cons a ZZ9 =>
  cases bs with
  | nil=>simp at hb
  | cons b bs =>
  simp only [List.map_cons,List.cons.injEq] at ha hb
  have ex:xs[f.offset]? = some (encS a):=by rw [f2];simpa using hx 0
  have ey:ys[f.offset]? = some (encS b):=by rw [f2];simpa using hy 0
  have ih:=Ak (d:=d) f4 h3 ha.2 hb.2 (fun j=>by have:=hx (j + 1);rw [show i + 1 + j = i + (j + 1) from by omega];simpa using this) (fun j=>by have:=hy (j + 1);rw [show i + 1 + j = i + (j + 1) from by omega];simpa using this)
  unfold Op.eqFields
  rw [if_pos f1]
  simp only [Sem.run_bind,BU h1 ex,BU h1 ey,Result.andThen_ok,SQ h1 ha.1 hb.1,List.cons.injEq]
  by_cases hab:a = b
  ·subst hab;simp [ih]
  ·simp [hab]
theorem Px {e:Bool} {n:Nat} {k:SK} (h:EM P t = some k) {a:SV} (ha:a.sk = k):(Instr.checkKey e (n + 1) t (encS a)).run P w = .ok () w:=by
 rcases uS h with ⟨i,hu,rfl⟩ | ⟨hu,rfl⟩ | ⟨hu,rfl⟩ <;> cases a <;> simp_all [SV.sk,encS,Instr.checkKey,run_underlying hu]
theorem D5 {e:Bool} {n:Nat} {cs:Array Value}:∀ {fs:List Field} {i:Nat} {ks:List SK} {ZZ9:List SV},FU P fs i = true → I5 P fs = some ks → ZZ9.map SV.sk = ks → (∀ j:Nat,cs[i + j]? = ZZ9[j]?.map encS) →
  (forIn fs PUnit.unit (fun (f:Field) (_:PUnit)=>(do
   if f.name ≠ "_" then Instr.checkKey e (n + 1) f.type (← part f.type cs f.offset)
   pure (ForInStep.yield PUnit.unit):Sem (ForInStep PUnit)))).run P w = .ok PUnit.unit w
 | [],i,ks,ZZ9,_,_,_,_=>by simp
 | f :: fs,i,ks,ZZ9,hf,hk,ha,hx=>by
  obtain ⟨k,h1,h2⟩:=zbm hk
  obtain ⟨l,h3,rfl⟩:=zmm h2
  unfold FU at hf
  simp only [Bool.and_eq_true,bne_iff_ne,ne_eq,beq_iff_eq] at hf
  obtain ⟨⟨⟨f1,f2⟩,f3⟩,f4⟩:=hf
  cases ZZ9 with
  | nil=>simp at ha
  | cons a ZZ9 =>
  simp only [List.map_cons,List.cons.injEq] at ha
  have ex:cs[f.offset]? = some (encS a):=by rw [f2];simpa using hx 0
  have ih:=D5 (e:=e) (n:=n) f4 h3 ha.2 (fun j=>by have:=hx (j + 1);rw [show i + 1 + j = i + (j + 1) from by omega];simpa using this)
  rw [List.forIn_cons]
  simp only [if_pos f1,Sem.run_bind,BU h1 ex,Result.andThen_ok,Px h1 ha.1,Sem.run_pure]
  exact ih
theorem Py {e:Bool} {n:Nat} {fs:Array Field} {ks:List SK} {ZZ9:List SV} (hu:P.underlying t = some (.struct fs)) (hf:FU P fs.toList 0 = true) (hk:I5 P fs.toList = some ks) (ha:ZZ9.map SV.sk = ks):(Instr.checkKey e (n + 2) t (.agg (ZZ9.map encS).toArray)).run P w = .ok () w:=by
 have:=D5 (w:=w) (e:=e) (n:=n) hf hk ha (cs:=(ZZ9.map encS).toArray) (fun j=>by simp)
 unfold Instr.checkKey
 simp only [Sem.run_bind,run_underlying hu,Result.andThen_ok]
 rw [← Array.forIn_toList]
 simp only [ne_eq,ite_not] at this ⊢
 simp at this ⊢
 rw [this]
 rfl
theorem Pz {n:Nat} {ZZ9:List SV} (hs:∀ (n:Nat) (a:SV),Instr.sameBits n (encS a) (encS a) = true):Instr.sameBits (n + 1) (.agg (ZZ9.map encS).toArray) (.agg (ZZ9.map encS).toArray) = true:=by
 unfold Instr.sameBits
 simp only [beq_self_eq_true,Bool.true_and,List.all_eq_true]
 intro p hp
 have:∀ (l:List Value) (p:Value × Value),p ∈ l.zip l → p.1 = p.2 ∧ p.1 ∈ l:=by
  intro l
  induction l with
  | nil=>intro p hp;simp at hp
  | cons x l ih =>
   intro p hp
   rcases List.mem_cons.mp hp with rfl | hp
   ·exact ⟨rfl,by simp⟩
   ·exact ⟨(ih p hp).1,List.mem_cons_of_mem _ (ih p hp).2⟩
 obtain ⟨h1,h2⟩:=this _ _ hp
 obtain ⟨x,y⟩:=p
 simp only at h1 h2
 subst h1
 simp only [List.mem_map] at h2
 obtain ⟨s,_,rfl⟩:=h2
 exact hs _ s
theorem Hq {n:Nat} (a:SV):Instr.sameBits n (encS a) (encS a) = true:=by
 cases a <;> simp [encS,Instr.sameBits]
 rw [Mq.uF];simp
theorem D6 {ks:List SK} {a:KV} (h:a.ks = .agg ks):∃ ZZ9,a = .agg ZZ9 ∧ ZZ9.map SV.sk = ks:=by
 cases a with
 | one x=>cases h
 | agg ZZ9=>exact ⟨ZZ9,rfl,by simpa [KV.ks] using h⟩
theorem Al {k:SK} {a:KV} (h:a.ks = .one k):∃ x,a = .one x ∧ x.sk = k:=by
 cases a with
 | one x=>exact ⟨x,rfl,by simpa [KV.ks] using h⟩
 | agg ZZ9=>cases h
theorem PD {n:Nat} {d:TypeDesc} (hu:P.underlying t = some d) (hd:∀ ms,d ≠ .interface ms):(Op.eqGuardIn (n + 1) t .nilIface .nilIface).run P w = .ok false w:=by
 unfold Op.eqGuardIn
 simp only [Sem.run_bind,run_underlying hu,Result.andThen_ok]
 cases d <;> first | rfl | exact absurd rfl (hd _)
theorem BX {d:TypeDesc} (hu:P.underlying t = some d) (hd:∀ ms,d ≠ .interface ms) (w:World):(Op.eqGuardIn Op.maxDepth t .nilIface .nilIface).run P w = .ok false w:=by
 unfold Op.maxDepth
 exact PD hu hd
set_option maxHeartbeats 2000000 in
theorem Vw (h:okT P t = true):lD P t:=by
 unfold okT at h
 rw [Bool.and_eq_true] at h
 obtain ⟨hg,h⟩:=h
 have hg':P.eqGuardType P.depth t = false:=by simpa using hg
 have gd:(∀ w,(Op.eqGuardIn Op.maxDepth t .nilIface .nilIface).run P w = .ok false w) → ∀ op x y,∀ (a b:Value) (w:World),(eqGuard op t x y a b).run P w = .ok () w:=by
  intro hn op x y a b w
  have key:(Sem.run P (match a,b with
   | .nilIface,.nilIface=>do
    if (x matches .const _) || (y matches .const _) then return
    if ← Op.eqGuardIn Op.maxDepth t a b then unsupported (.noEntry "binop/eql: two nil values of an interface type with methods, neither of them the literal nil")
   | .agg _,.agg _=>do
    if !(← program).eqGuardType (← program).depth t then return
    if ← Op.eqGuardIn Op.maxDepth t a b then unsupported (.noEntry "binop/eql: two nil values of an interface type with methods, in a part of a struct or an array")
   | _,_=>pure ()) w) = .ok () w:=by
   cases a <;> cases b <;> first | rfl | (simp only [Sem.run_bind,run_program,Result.andThen_ok,hg'];rfl) | skip
   cases x <;> cases y <;> first | rfl | simp [hn]
  unfold eqGuard
  split
  ·exact key
  ·exact key
  ·rfl
 cases hu:P.underlying t with
 | none=>rw [hu] at h;cases h
 | some d =>
  rw [hu] at h
  have sc:∀ k,EM P t = some k → xA P t = some (.one k) → (∀ w,(Op.eqGuardIn Op.maxDepth t .nilIface .nilIface).run P w = .ok false w) → (∀ a:SV,a.sk = k → MapKept.IsKey d (encS a)) → (∀ a b:SV,a.sk = k → b.sk = k → Instr.sameNow d (encS a) (encS b) = some (decide (a = b))) → lD P t:=by
   intro k hk hks hn h1 h2
   have hcase:∀ {sh},xA P t = some sh → sh = .one k:=fun e=>by rw [hks] at e;cases e;rfl
   refine ⟨fun sh e=>?_,fun sh e a b w ha hb=>?_,gd hn⟩
   ·obtain rfl:=hcase e
    refine Mq.Key.NY hu (fun a ha=>?_) (fun a b ha hb=>?_) (fun a ha=>?_)
    ·obtain ⟨x,rfl,hx⟩:=Al ha;exact h1 x hx
    ·obtain ⟨x,rfl,hx⟩:=Al ha
     obtain ⟨y,rfl,hy⟩:=Al hb
     simp only [nH,KV.one.injEq]
     exact h2 x y hx hy
    ·obtain ⟨x,rfl,hx⟩:=Al ha;exact Hq x
   ·obtain rfl:=hcase e
    obtain ⟨x,rfl,hx⟩:=Al ha
    obtain ⟨y,rfl,hy⟩:=Al hb
    simp only [nH,KV.one.injEq]
    unfold Op.equal Op.maxDepth
    exact SQ hk hx hy
  cases d with
  | int i =>
   refine sc (.int i) (by simp [EM,hu]) (by simp [xA,EM,hu]) (BX hu (fun _ h=>by cases h)) (fun a ha=>?_) (fun a b ha hb=>?_)
   ·cases a <;> simp_all [SV.sk,encS,MapKept.IsKey]
   ·cases a <;> cases b <;> simp_all [SV.sk,encS,Instr.sameNow]
    rw [Bool.eq_iff_iff];simp
  | bool =>
   refine sc .bool (by simp [EM,hu]) (by simp [xA,EM,hu]) (BX hu (fun _ h=>by cases h)) (fun a ha=>?_) (fun a b ha hb=>?_)
   ·cases a <;> simp_all [SV.sk,encS,MapKept.IsKey]
   ·cases a <;> cases b <;> simp_all [SV.sk,encS,Instr.sameNow]
    rw [Bool.eq_iff_iff];simp
  | string =>
   refine sc .str (by simp [EM,hu]) (by simp [xA,EM,hu]) (BX hu (fun _ h=>by cases h)) (fun a ha=>?_) (fun a b ha hb=>?_)
   ·cases a <;> simp_all [SV.sk,encS,MapKept.IsKey]
   ·cases a <;> cases b <;> simp_all [SV.sk,encS,Instr.sameNow]
    exact Mq.uF _ _
  | struct fs =>
   simp only [Bool.and_eq_true,Bool.not_eq_true'] at h
   have hcase:∀ {sh},xA P t = some sh → ∃ ks,I5 P fs.toList = some ks ∧ sh = .agg ks:=fun e=>by
    unfold xA at e
    rw [hu] at e
    obtain ⟨ks,h1,h2⟩:=zmm e
    exact ⟨ks,h1,h2.symm⟩
   have idx:∀ (ZZ9:List SV) (j:Nat),((ZZ9.map encS).toArray)[0 + j]? = ZZ9[j]?.map encS:=fun ZZ9 j=>by simp
   have heq:∀ sh,xA P t = some sh → ∀ (a b:KV) (w:World),a.ks = sh → b.ks = sh → (Op.equal t (nH a) (nH b)).run P w = .ok (decide (a = b)) w:=by
    intro sh e a b w ha hb
    obtain ⟨ks,hks,rfl⟩:=hcase e
    obtain ⟨ZZ9,rfl,ha1⟩:=D6 ha
    obtain ⟨bs,rfl,hb1⟩:=D6 hb
    have hf:P.fieldsOf t = fs:=by simp [Program.fieldsOf,hu]
    unfold Op.equal Op.maxDepth
    simp only [nH,KV.agg.injEq]
    rw [run_equalIn_struct (P:=P) w _ t _ _ (by rw [hf];exact hu) h.1,hf]
    exact Ak h.2 hks ha1 hb1 (idx ZZ9) (idx bs)
   refine ⟨fun sh e=>?_,heq,gd (BX hu (fun _ h=>by cases h))⟩
   ·obtain ⟨ks,hks,rfl⟩:=hcase e
    refine Mq.Key.Kq hu (fun e' a w ha=>?_) (fun a b w ha hb=>heq _ e a b w ha hb) (fun a ha=>?_) (fun a ha=>?_)
    ·obtain ⟨ZZ9,rfl,ha1⟩:=D6 ha
     exact Py (n:=9998) hu h.2 hks ha1
    ·obtain ⟨ZZ9,rfl,ha1⟩:=D6 ha
     exact Pz (n:=9999) (fun n a=>Hq a)
    ·obtain ⟨ZZ9,rfl,ha1⟩:=D6 ha
     exact ⟨_,rfl⟩
  | _=>simp at h
end
end Go.Proofs.Ytfokaoeinpnagaa.Ev
set_option maxRecDepth 100000
namespace Go.Proofs.Ytfokaoeinpnagaa.Kc
open Go Go.RowKit Go.Proofs Ev
theorem eqs : ∀ t ∈ [3,9,24],lD Try.prog t:=by
 intro t ht
 simp only [List.mem_cons,List.not_mem_nil,or_false] at ht
 rcases ht with rfl | rfl | rfl <;> exact Vw (by kernel_rfl)
theorem mixed : Try.prog.follows .mixedOrders = true:=by kernel_rfl
theorem PE : iJ Try.prog fun _ _=>none:=fun f fJ rs rD h=>by cases h
theorem Jq : eB Try.prog fun _ _=>none:=fun f fJ r h=>by cases h
def Vx : CF:=⟨1,[(.t 2)],[],[],(.seq (.reg [⟨(some 2),none,(.mv (.k (.one .dM)))⟩] [0]) (.seq (.seq (.reg [⟨(some 3),none,(.mv (.t 0))⟩,⟨(some 4),none,(.A8 false (.t 3))⟩] [0,4]) (.cond (.t 4) (.seq (.reg [⟨(some 2),none,(.mv (.k (.one .dM)))⟩] [2]) .ret) .skip)) (.seq (.reg [⟨(some 5),none,(.wI 9 1 0 [] [])⟩,⟨(some 6),none,(.mv (.t 0))⟩,⟨(some 7),none,(.app 9 1 16 (.t 5) (.t 6))⟩,⟨(some 2),none,(.mv (.t 7))⟩] [2]) .ret)))⟩
def Vy : CF:=⟨1,[(.t 2)],[some 3],[],(.seq (.reg [⟨(some 2),none,(.mv (.k (.one .dM)))⟩] [0]) (.seq (.seq (.reg [⟨(some 3),none,(.mv (.t 0))⟩,⟨(some 4),none,(.A8 false (.t 3))⟩] [0,4]) (.cond (.t 4) (.seq (.reg [⟨(some 2),none,(.mv (.k (.one .dM)))⟩] [2]) .ret) .skip)) (.seq (.reg [⟨(some 5),none,(.wI 24 3 0 [] [])⟩,⟨(some 6),none,(.mv (.t 0))⟩,⟨(some 7),none,(.app 24 3 32 (.t 5) (.t 6))⟩,⟨(some 2),none,(.mv (.t 7))⟩] [2]) .ret)))⟩
theorem PG {f:FuncId} {cf:CF} {Γ:Env} (h:kK Try.prog f cf) (h1:iJ Try.prog Γ) (h2:eB Try.prog Γ) (F:Nat):Sat Try.prog f (Ka Γ F cf):=by
 obtain ⟨fn,c,X,hints,rest,e1,_,e2,e3,e4,e5,e6⟩:=h.ok
 exact Af mixed e3 h1 h2 e1 e2 e4 e5 e6 F
theorem PI : kK Try.prog 68 Vx:=⟨Try.f68,_,⟨[3,9,24],[],[],[85]⟩,[⟨[0],[],[]⟩,⟨[0,4],[],[]⟩,⟨[2],[],[]⟩,⟨[2],[],[]⟩],[],by kernel_rfl,by kernel_rfl,rfl,eqs,by kernel_rfl,by kernel_rfl,by decide⟩
theorem PK : kK Try.prog 45 Vy:=⟨Try.f45,_,⟨[3,9,24],[],[],[85]⟩,[⟨[0],[],[]⟩,⟨[0,4],[],[]⟩,⟨[2],[],[]⟩,⟨[2],[],[]⟩],[],by kernel_rfl,by kernel_rfl,rfl,eqs,by kernel_rfl,by kernel_rfl,by decide⟩
theorem PN (r:List FV) (l:List (List FV)) (h:l.length < 1000000) (hl:(r :: l).all (fun r=>r.length == 1) = true):Ka (fun _ _=>none) 10 Vx [vl (r :: l)] = some ([vl (r :: l)],[vl (r :: l)]):=by
 refine Lf ?_
 rw [List.all_cons,Bool.and_eq_true] at hl
 simp only [Vx,hl.1,hl.2,List.all_cons,go_sem,Nat.reduceAdd,Nat.reduceMul,Nat.reduceEqDiff,Nat.reduceBEq,Nat.reduceMod,Nat.reduceDiv,↓reduceIte,reduceCtorEq]
 omega
theorem PO (r:List FV) (l:List (List FV)) (h:l.length < 1000000) (hl:(r :: l).all (fun r=>r.length == 3) = true):Ka (fun _ _=>none) 10 Vy [vl (r :: l)] = some ([.one (.own 3 (r :: l))],[vl (r :: l)]):=by
 refine Lf ?_
 rw [List.all_cons,Bool.and_eq_true] at hl
 simp only [Vy,hl.1,hl.2,List.all_cons,go_sem,Nat.reduceAdd,Nat.reduceMul,Nat.reduceEqDiff,Nat.reduceBEq,Nat.reduceMod,Nat.reduceDiv,↓reduceIte,reduceCtorEq]
 omega
theorem wN {t e:TypeId} (hu:Try.prog.underlying t = some (.slice e)) (p:Option Addr) (c:Nat) (w:World):(binOp .eql t (.slice p 0 c) (.slice none 0 0)).run Try.prog w = .ok (.bool p.isNone) w:=by
 have:=run_equal_slice_nil w t e p 0 c hu
 simp only [binOp,Sem.run_bind,this,Result.andThen_ok,Sem.run_pure]
theorem D7 {t ty e:TypeId} {i:TypeInfo} (hu:Try.prog.underlying t = some (.slice e)) (hi:Try.prog.info? e = some i) (a b:Addr) (c:Nat) (w:World):(Builtin.append_ #[t,t] ty #[.slice (some b) 0 0,.slice (some a) 0 c]).run Try.prog w = .ok (.slice (some b) 0 0) w:=by
 have h1:∀ w,(Builtin.lenOf (.slice (some a) 0 c)).run Try.prog w = .ok 0 w:=fun _=>rfl
 have h2:=fun w=>run_firstCells_some (P:=Try.prog) w i.size 0 a 0 c [] (by simp) (by simp)
 simp [Builtin.append_,run_underlying hu,sizeOf,typeInfo,hi,storeCells,h1,h2]
theorem Ml (c:Nat) (w:World):Calls Try.prog 68 #[.slice none 0 c] w fun e w'=>e = .returned (.slice none 0 0) ∧ w' = w:=by
 have heq:=wN (t:=25) (e:=9) (by kernel_rfl) none c
 go_enter Try.func68,Try.ntmps68
 go_wp2
 go_ret
 exact ⟨rfl,rfl⟩
theorem Mr (a:Addr) (c:Nat) (w:World):Calls Try.prog 68 #[.slice (some a) 0 c] w fun e w'=>e = .returned (.slice (some ⟨w.heap.size,0,none⟩) 0 0) ∧ w' = w.alloc (.cells #[] 9):=by
 have heq:=wN (t:=25) (e:=9) (by kernel_rfl) (some a) c
 obtain ⟨i,hi⟩:=Option.isSome_iff_exists.mp (show (Try.prog.info? 9).isSome = true by kernel_rfl)
 have hap:=fun b w=>D7 (t:=25) (ty:=25) (e:=9) (by kernel_rfl) hi a b c w
 go_enter Try.func68,Try.ntmps68
 go_wp2
 go_ret
 exact ⟨rfl,rfl⟩
theorem Ms (c:Nat) (w:World):Calls Try.prog 45 #[.slice none 0 c] w fun e w'=>e = .returned (.slice none 0 0) ∧ w' = w:=by
 have heq:=wN (t:=41) (e:=24) (by kernel_rfl) none c
 go_enter Try.func45,Try.ntmps45
 go_wp2
 go_ret
 exact ⟨rfl,rfl⟩
theorem Mt (a:Addr) (c:Nat) (w:World):Calls Try.prog 45 #[.slice (some a) 0 c] w fun e w'=>e = .returned (.slice (some ⟨w.heap.size,0,none⟩) 0 0) ∧ w' = w.alloc (.cells #[] 24):=by
 have heq:=wN (t:=41) (e:=24) (by kernel_rfl) (some a) c
 obtain ⟨i,hi⟩:=Option.isSome_iff_exists.mp (show (Try.prog.info? 24).isSome = true by kernel_rfl)
 have hap:=fun b w=>D7 (t:=41) (ty:=41) (e:=24) (by kernel_rfl) hi a b c w
 go_enter Try.func45,Try.ntmps45
 go_wp2
 go_ret
 exact ⟨rfl,rfl⟩
def PS (sz:Nat) (own:Bool) (fJ:List AV):Option (List AV × List AV):=match fJ with
 | [.one (.f (.sl rows))]=>if rows.length ≤ 1000000 ∧ rows.all (fun r=>r.length == sz) = true then some ([.one (if own then .own sz rows else .f (.sl rows))],fJ) else none
 | _=>none
theorem FX (w:World) (o:Obj):w.heap.size ≤ (w.alloc o).heap.size ∧ (∀ b,b < w.heap.size → (w.alloc o).heap[b]? = w.heap[b]?) ∧ (w.alloc o).heap[w.heap.size]? = some o ∧ (w.alloc o).heap.size = w.heap.size + 1:=by
 obtain ⟨h1,h2,h3⟩:=nI w o
 exact ⟨by omega,h2,h1,h3⟩
theorem Hr {f:FuncId} {cf:CF} {sz e:Nat} {own:Bool} (h0:0 < sz) (he:kK Try.prog f cf) (hrun:∀ (r:List FV) (l:List (List FV)),l.length < 1000000 → (r :: l).all (fun r=>r.length == sz) = true → Ka (fun _ _=>none) 10 cf [vl (r :: l)] = some ([.one (if own then .own sz (r :: l) else .f (.sl (r :: l)))],[vl (r :: l)]))
  (hn:∀ (c:Nat) (w:World),Calls Try.prog f #[.slice none 0 c] w fun e w'=>e = .returned (.slice none 0 0) ∧ w' = w)
  (hs:∀ (a:Addr) (c:Nat) (w:World),Calls Try.prog f #[.slice (some a) 0 c] w fun e' w'=>e' = .returned (.slice (some ⟨w.heap.size,0,none⟩) 0 0) ∧ w' = w.alloc (.cells #[] e)):Sat Try.prog f (PS sz own):=by
 intro fJ rs rD hg
 unfold PS at hg
 split at hg
 ·rename_i rows
  split at hg
  ·rename_i hc
   cases hg
   cases rows with
   | cons r l =>
    exact PG he PE Jq 10 _ _ _ (hrun r l (by have:=hc.1;simp at this;omega) hc.2)
   | nil =>
    intro Fz w vals bs ha hnd hap hfz
    match vals,ha with
    | [v],⟨b1,b2,h1,h2,e0⟩ =>
    obtain ⟨hv,rfl⟩:=h1
    obtain rfl:b2 = []:=h2
    subst e0
    simp only [fu] at hv
    obtain ⟨A,c,rfl,hle,hbig,_⟩:=hv
    have hrep:∀ (w':World) (v:Value),(∃ A,v = .slice A 0 0) → fu Fz w' (.sl []) v:=fun w' v ⟨A,hA⟩=>by
     simp only [fu];exact ⟨A,0,by rw [hA];rfl,Nat.le_refl _,by simp,.inl trivial⟩
    have hbk:∀ (w':World),fO Fz w' [vl []] [.slice A ([]:List (List FV)).length c] []:=fun w' =>
     ⟨[],[],⟨by simp only [fu];exact ⟨A,c,rfl,hle,hbig,.inl trivial⟩,rfl⟩,rfl,rfl⟩
    cases A with
    | none =>
     refine (hn c w).mono fun e' w' ⟨e1,e2⟩=>?_
     subst e2
     refine ⟨Fz,[.slice none 0 0],[],[],e1,fun _ h=>h,fun b hb=>⟨hfz b hb,.inl hb⟩,Nat.le_refl _,fun _ _ _=>rfl,⟨rfl,rfl⟩,hbk w',?_,by simp,fun b hb=>by simp at hb⟩
     cases own with
     | true=>exact ⟨[],[],⟨h0,0,[],none,0,rfl,World.ownsRow_nil w' _ _ _,rfl,rfl⟩,rfl,rfl⟩
     | false=>exact ⟨[],[],⟨hrep w' _ ⟨none,rfl⟩,rfl⟩,rfl,rfl⟩
    | some a =>
     refine (hs a c w).mono fun e' w' ⟨e1,e2⟩=>?_
     subst e2
     obtain ⟨k1,k2,k3,k4⟩:=FX w (.cells #[] e)
     cases own with
     | true =>
      refine ⟨Fz,[.slice (some ⟨w.heap.size,0,none⟩) 0 0],[],[w.heap.size],e1,fun _ h=>h,fun b hb=>⟨Nat.lt_of_lt_of_le (hfz b hb) k1,.inl hb⟩,k1,fun b hb _=>k2 b hb,⟨rfl,rfl⟩,hbk _,?_,by simp,fun b hb=>?_⟩
      ·refine ⟨[w.heap.size],[],⟨h0,e,[],_,0,rfl,⟨by simp,.inr ⟨w.heap.size,0,#[],rfl,Nat.zero_le _,k3,Nat.le_refl _,by simp [maxLen],by simp,by simp⟩⟩,rfl,rfl⟩,rfl,rfl⟩
      ·simp at hb
       subst hb
       exact ⟨fun hf=>by have:=hfz _ hf;omega,by omega,.inr (Nat.le_refl _)⟩
     | false =>
      exact ⟨Fz,[.slice (some ⟨w.heap.size,0,none⟩) 0 0],[],[],e1,fun _ h=>h,fun b hb=>⟨Nat.lt_of_lt_of_le (hfz b hb) k1,.inl hb⟩,k1,fun b hb _=>k2 b hb,⟨rfl,rfl⟩,hbk _,⟨[],[],⟨hrep _ _ ⟨_,rfl⟩,rfl⟩,rfl,rfl⟩,by simp,fun b hb=>by simp at hb⟩
  ·cases hg
 ·cases hg
theorem PU : Sat Try.prog 68 (PS 1 false):=Hr (by decide) PI PN Ml Mr
theorem PW : Sat Try.prog 45 (PS 3 true):=Hr (by decide) PK PO Ms Mt
end Go.Proofs.Ytfokaoeinpnagaa.Kc

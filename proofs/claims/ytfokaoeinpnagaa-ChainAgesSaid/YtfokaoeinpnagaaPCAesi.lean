/- A part of the proof of ChainAges: cut, joined and given short names by a program of this session (wip/tools/pack.py); Lean checks it. No condition. -/
import Derived.Test.YtfokaoeinpnagaaPCAesh
import Derived.Test.YtfokaoeinpnagaaPCAesf
import Derived.Below
import Derived.Defers
import Derived.Maps.RangeRun
import Derived.Test.YtfokaoeinpnagaaPCAesd
import Derived.Laws.StructEq
set_option linter.unusedSectionVars false
set_option linter.unusedSimpArgs false
set_option linter.unusedVariables false
set_option maxRecDepth 4000
namespace Go.Proofs.Ytfokaoeinpnagaa.Kc
open Go Ev
variable {ext : Env} {F n:Nat} {θ:Th}
abbrev C9 : KS:=.agg [.str,.int .i64,.int .i64]
abbrev kq (k:Qn):KV:=.agg [.str k.q,.int .i64 k.t,.int .i64 k.c]
def ent (x:It):KV × FC:=(kq x.k,.agg (rI x))
structure Sv where
 room:Int
 m:List It
 o:List Qn
 ch:Int
abbrev Sv.v (s:Sv):AV:=.one (.ptr [.f (.int .i64 s.room),.mp C9 (s.m.map ent),.f (.sl (s.o.map rQ)),.f (.int .i64 s.ch)])
def svo : Option Sv → AV
 | some s=>s.v
 | none=>.one .iy
theorem L6 (s:Sv):svo (some s) = s.v:=rfl
theorem FQ {a b:Qn}:kq a = kq b ↔ a = b:=by
 constructor
 ·intro h;simp only [kq,KV.agg.injEq,List.cons.injEq,SV.str.injEq,SV.int.injEq] at h
  cases a;cases b;simp_all
 ·rintro rfl;rfl
theorem mG (l:List It) (k:Qn):wm (l.map ent) (kq k) = l.findIdx? fun x=>decide (x.k = k):=by
 unfold wm
 rw [List.map_map,List.findIdx?_map]
 refine congrArg (fun p=>List.findIdx? p l) (funext fun x=>?_)
 simp only [Function.comp,ent]
 by_cases h:x.k = k
 ·simp [h]
 ·have:¬ kq x.k = kq k:=fun e=>h (FQ.mp e)
  simp only [this,h,decide_false]
theorem pI (l:List It) (k:Qn):q8 (l.map ent) (kq k) = (old l k).map fun x=>.agg (rI x):=by
 have hf:old l k = (l.findIdx? fun x=>decide (x.k = k)).bind fun i=>l[i]?:=List.find?_eq_bind_findIdx?_getElem? ..
 unfold q8
 rw [mG,hf]
 cases l.findIdx? fun x=>decide (x.k = k) with
 | none=>rfl
 | some i=>simp only [Option.bind_some,List.getElem?_map];cases l[i]? <;> rfl
theorem yx (l:List It) (k:Qn):Bf (l.map ent) (kq k) = (rid l k).map ent:=by
 unfold Bf rid
 rw [mG,List.eraseP_eq_eraseIdx]
 cases l.findIdx? fun x=>decide (x.k = k) with
 | none=>rfl
 | some i=>simp [List.eraseIdx_eq_take_drop_succ,List.map_take,List.map_drop]
def upd (l:List It) (x:It):List It:=match l.findIdx? fun y=>decide (y.k = x.k) with
 | some i=>l.set i x
 | none=>l ++ [x]
theorem yA (l:List It) (x:It):wo (l.map ent) (kq x.k) (.agg (rI x)) = (upd l x).map ent:=by
 unfold wo upd
 rw [mG]
 cases l.findIdx? fun y=>decide (y.k = x.k) with
 | none=>simp [ent]
 | some i=>simp [List.map_set,ent]
theorem Vx (room:Int):G ext F (n + 1) 31 [vi room] = some ([svo (if room < 1 ∨ 1000 < room then none else some ⟨room,[],[],0⟩)],[vi room]):=by
 refine eT (cf:=c31) rfl ?_
 simp only [c31,go_sem,Nat.reduceAdd,Nat.reduceMul,Nat.reduceEqDiff,Nat.reduceBEq,Nat.reduceMod,Nat.reduceDiv,↓reduceIte,reduceCtorEq]
 repeat' (refine eP (fun h=>?_) (fun h=>?_) <;> simp only [h,go_sem,Nat.reduceAdd,Nat.reduceMul,Nat.reduceEqDiff,Nat.reduceBEq,Nat.reduceMod,Nat.reduceDiv,↓reduceIte,reduceCtorEq])
 all_goals (simp only [decide_eq_true_eq,decide_eq_false_iff_not] at *)
 all_goals first | rw [if_pos (by omega)] | rw [if_neg (by omega)]
 all_goals rfl
theorem DX (C:nM ext) (x:It) (hx:x.d.length ≤ 1000000):G ext F (n + 2) 42 [x.v] = some ([x.v],[x.v]):=by
 refine eT (cf:=c42) rfl ?_
 have h1:=fun n=>SX (F:=F) (n:=n) C x.d hx
 simp only [c42,h1,go_sem,Nat.reduceAdd,Nat.reduceMul,Nat.reduceEqDiff,Nat.reduceBEq,Nat.reduceMod,Nat.reduceDiv,↓reduceIte,reduceCtorEq]
def cZ (s:Sv) (now:Int) (k:Qn):It × Bool:=match old s.m k with
 | some x=>if gJ now x.u then (x,true) else (it0,false)
 | none=>(it0,false)
theorem Ju (now:Int) (k:Qn):G ext F (n + 3) 60 [.one .iy,vi now,vq k.q k.t k.c] = some ([it0.v,vb false],[.one .iy,vi now,vq k.q k.t k.c]):=by
 refine eT (cf:=Vr) rfl ?_
 simp only [Vr,go_sem,Nat.reduceAdd,Nat.reduceMul,Nat.reduceEqDiff,Nat.reduceBEq,Nat.reduceMod,Nat.reduceDiv,↓reduceIte,reduceCtorEq]
 rfl
theorem Pj (C:nM ext) (s:Sv) (now:Int) (k:Qn) (hd:∀ x ∈ s.m,x.d.length ≤ 1000000):G ext F (n + 3) 60 [s.v,vi now,vq k.q k.t k.c] = some ([(cZ s now k).1.v,vb (cZ s now k).2],[s.v,vi now,vq k.q k.t k.c]):=by
 refine eT (cf:=Vr) rfl ?_
 have hk:=pI s.m k
 unfold cZ
 cases ho:old s.m k with
 | none =>
  rw [ho] at hk
  simp only [Vr,hk,Option.map_none,Option.isSome_none,go_sem,Nat.reduceAdd,Nat.reduceMul,Nat.reduceEqDiff,Nat.reduceBEq,Nat.reduceMod,Nat.reduceDiv,↓reduceIte,reduceCtorEq]
  rfl
 | some x =>
  rw [ho] at hk
  have h1:=fun n=>DX (F:=F) (n:=n) C x (hd x (List.mem_of_find?_eq_some ho))
  cases hv:gJ now x.u
  all_goals
   simp only [Vr,hk,Option.map_some,Option.isSome_some,rI,jG,hv,h1,go_sem,Nat.reduceAdd,Nat.reduceMul,Nat.reduceEqDiff,Nat.reduceBEq,Nat.reduceMod,Nat.reduceDiv,↓reduceIte,reduceCtorEq]
  rfl
def Jv (θ:Th) (s:Sv) (now:Int) (x:It):Int :=
 if x.u < 0 ∨ θ.set x.q x.t x.c x.d x.ttl = false ∨ x.r < 1 ∨ 5 < x.r then 1
 else if gJ now x.u = false then 14
 else match old s.m x.k with
  | some o=>if LK o.r (gJ now o.u) x.r = false then 10 else 0
  | none=>0
theorem L8 (now:Int) (x:It):G ext F (n + 4) 41 [.one .iy,vi now,x.v] = some ([vi 1],[.one .iy,vi now,x.v]):=by
 refine eT (cf:=Jr) rfl ?_
 simp only [Jr,go_sem,Nat.reduceAdd,Nat.reduceMul,Nat.reduceEqDiff,Nat.reduceBEq,Nat.reduceMod,Nat.reduceDiv,↓reduceIte,reduceCtorEq]
theorem Vy (T:θ.Ok ext) (s:Sv) (now:Int) (x:It) (hF:200000000000001 ≤ F) (hq:x.q.size ≤ 1000000) (hn:x.d.length ≤ 1000000) (hd:∀ y ∈ x.d,y.size ≤ 1000000):G ext F (n + 4) 41 [s.v,vi now,x.v] = some ([vi (Jv θ s now x)],[s.v,vi now,x.v]):=by
 refine eT (cf:=Jr) rfl ?_
 have hk:=pI s.m x.k
 have h1:=fun n=>Am (ext:=ext) (F:=F) (n:=n) T x.q x.t x.c x.d x.ttl (by omega) hF hq hd
 unfold Jv
 cases hold:old s.m x.k with
 | none =>
  rw [hold] at hk
  simp only [Jr,h1,hk,jG,Option.map_none,Option.isSome_none,go_sem,Nat.reduceAdd,Nat.reduceMul,Nat.reduceEqDiff,Nat.reduceBEq,Nat.reduceMod,Nat.reduceDiv,↓reduceIte,reduceCtorEq]
  repeat' (refine eP (fun h=>?_) (fun h=>?_) <;> simp only [h,h1,hk,jG,Option.map_none,Option.isSome_none,go_sem,Nat.reduceAdd,Nat.reduceMul,Nat.reduceEqDiff,Nat.reduceBEq,Nat.reduceMod,Nat.reduceDiv,↓reduceIte,reduceCtorEq])
  all_goals clear h1 hk
  all_goals simp only [decide_eq_true_eq,decide_eq_false_iff_not] at *
  all_goals simp [*]
 | some o =>
  rw [hold] at hk
  simp only [Jr,h1,hk,jG,Ho,Option.map_some,Option.isSome_some,rI,go_sem,Nat.reduceAdd,Nat.reduceMul,Nat.reduceEqDiff,Nat.reduceBEq,Nat.reduceMod,Nat.reduceDiv,↓reduceIte,reduceCtorEq]
  repeat' (refine eP (fun h=>?_) (fun h=>?_) <;> simp only [h,h1,hk,jG,Ho,Option.map_some,Option.isSome_some,rI,go_sem,Nat.reduceAdd,Nat.reduceMul,Nat.reduceEqDiff,Nat.reduceBEq,Nat.reduceMod,Nat.reduceDiv,↓reduceIte,reduceCtorEq])
  all_goals clear h1 hk
  all_goals simp only [decide_eq_true_eq,decide_eq_false_iff_not] at *
  all_goals simp [*]
end Go.Proofs.Ytfokaoeinpnagaa.Kc
set_option maxRecDepth 4000
namespace Go.Proofs.Ytfokaoeinpnagaa.Kc
open Go Ev
variable {ext : Env} {F n:Nat} {θ:Th}
abbrev Se.it (x:Se) (u r:Int):It:=⟨x.q,x.t,x.c,x.d,x.ttl,u,r⟩
def uQ (θ:Th) (s:Sv) (now:Int) (x:Se) (r:Int):Sv × Int :=
 let it:=x.it (fD now x.ttl) r
 if Jv θ s now it ≠ 0 then (s,Jv θ s now it)
 else
  let t:=C8 s.o x.k ++ [x.k]
  (⟨s.room,(t.take (t.length - s.room.toNat)).foldl rid (upd s.m it),t.drop (t.length - s.room.toNat),s.ch + 1⟩,0)
structure DY (θ:Th) (ext:Env):Prop where
 p0:∀ now x r,ext 21 [.one .iy,vi now,Se.v x,vi r] = some ([vi 1],[.one .iy,vi now,x.v,vi r])
 p1:∀ (s:Sv) now (x:Se) r,0 ≤ s.room ∧ s.room ≤ 1000000 → 0 ≤ s.ch ∧ s.ch ≤ 1000000000000 → s.o.length ≤ 100000 → s.m.length ≤ 100000 → x.q.size ≤ 1000000 → x.d.length ≤ 1000000 → (∀ y ∈ x.d,y.size ≤ 1000000) →
  ext 21 [s.v,vi now,x.v,vi r] = some ([vi (uQ θ s now x r).2],[(uQ θ s now x r).1.v,vi now,x.v,vi r])
theorem Vz (Q:DY θ ext) (s:Sv) (now:Int) (x:Se) (r:Int) (h1:0 ≤ s.room ∧ s.room ≤ 1000000) (h2:0 ≤ s.ch ∧ s.ch ≤ 1000000000000) (h3:s.o.length ≤ 100000) (h3':s.m.length ≤ 100000) (h4:x.q.size ≤ 1000000) (h5:x.d.length ≤ 1000000) (h6:∀ y ∈ x.d,y.size ≤ 1000000):G ext F (n + 1) 21 [s.v,vi now,x.v,vi r] = some ([vi (uQ θ s now x r).2],[(uQ θ s now x r).1.v,vi now,x.v,vi r]):=(congrFun (nZ rfl) _).trans (Q.p1 s now x r h1 h2 h3 h3' h4 h5 h6)
abbrev na : ByteArray:=⟨#[1,97,0]⟩
abbrev nb : ByteArray:=⟨#[1,98,0]⟩
abbrev Pk : ByteArray:=⟨#[1,99,0]⟩
abbrev dd : ByteArray:=⟨#[49,49,49,49]⟩
abbrev sa : Se:=⟨na,1,1,[dd],5⟩
abbrev sb : Se:=⟨nb,1,1,[dd],5⟩
abbrev sc : Se:=⟨Pk,1,1,[dd],5⟩
abbrev sz : Se:=⟨na,1,1,[dd],0⟩
abbrev t0 : Sv:=⟨2,[],[],0⟩
abbrev t1 : Sv:=⟨2,[sa.it 6 5],[sa.k],1⟩
abbrev t2 : Sv:=⟨2,[sa.it 6 5,sb.it 6 3],[sa.k,sb.k],2⟩
abbrev t3 : Sv:=⟨2,[sa.it 6 5,sb.it 6 3],[sb.k,sa.k],2⟩
abbrev t4 : Sv:=⟨2,[sa.it 6 5,sc.it 7 1],[sa.k,sc.k],3⟩
abbrev t5 : Sv:=⟨2,[sc.it 7 1],[sc.k],4⟩
end Go.Proofs.Ytfokaoeinpnagaa.Kc
namespace Go.Proofs.Ytfokaoeinpnagaa.Kc
open Go Ev
variable {θ : Th}
abbrev ks (l:List It):List Qn:=l.map It.k
theorem lY {l:List It} {b:Qn} {x:It} (h:old l b = some x):x.k = b ∧ x ∈ l:=⟨by simpa using List.find?_some h,List.mem_of_find?_eq_some h⟩
theorem sU {l:List It} {a:Qn}:(rid l a).Sublist l:=List.eraseP_sublist ..
theorem uR {l:List It} {a:Qn} (h:(ks l).Nodup):(ks (rid l a)).Nodup:=(sU.map _).nodup h
theorem rF (l:List It) (x:It):(x.k ∉ ks l ∧ upd l x = l ++ [x]) ∨ ∃ a y b,l = a ++ y :: b ∧ y.k = x.k ∧ x.k ∉ ks a ∧ upd l x = a ++ x :: b:=by
 unfold upd
 cases h:l.findIdx? fun y=>decide (y.k = x.k) with
 | none =>
  refine .inl ⟨fun hm=>?_,rfl⟩
  obtain ⟨y,hy,hk⟩:=List.mem_map.mp hm
  have:=List.findIdx?_eq_none_iff.mp h y hy
  simp [hk] at this
 | some i =>
  obtain ⟨hi,hx,hb⟩:=List.findIdx?_eq_some_iff_getElem.mp h
  refine .inr ⟨l.take i,l[i],l.drop (i + 1),?_,by simpa using hx,fun hm=>?_,?_⟩
  ·rw [List.getElem_cons_drop,List.take_append_drop]
  ·obtain ⟨y,hy,hk⟩:=List.mem_map.mp hm
   obtain ⟨j,hj,rfl⟩:=List.mem_take_iff_getElem.mp hy
   have:=hb j (by omega)
   simp [hk] at this
  ·simp only [List.set_eq_take_append_cons_drop,hi,if_true]
theorem uS {l:List It} {x:It} (h:(ks l).Nodup):(ks (upd l x)).Nodup:=by
 rcases rF l x with ⟨hn,hu⟩ | ⟨a,y,c,rfl,hy,ha,hu⟩
 ·rw [hu]
  simp only [ks,List.map_append,List.map_cons,List.map_nil]
  refine List.nodup_append.mpr ⟨h,List.pairwise_singleton _ _,fun p hp q hq=>?_⟩
  rw [List.mem_singleton] at hq;subst hq;rintro rfl;exact hn hp
 ·rw [hu]
  have:ks (a ++ x :: c) = ks (a ++ y :: c):=by simp [ks,hy]
  rw [this];exact h
end Go.Proofs.Ytfokaoeinpnagaa.Kc
set_option maxRecDepth 4000
namespace Go.Proofs.Ytfokaoeinpnagaa.Kc.Ne
open Go Ev
variable {ext : Env} {F n:Nat} {θ:Th}
structure Nt where
 k:Qn
 nx:Bool
 s:Se
 u:Int
 deriving DecidableEq
def rN (x:Nt):List FV:=[.str x.k.q,.int .i64 x.k.t,.int .i64 x.k.c,.bool x.nx,.str x.s.q,.int .i64 x.s.t,.int .i64 x.s.c,.sl (x.s.d.map fC),.int .i64 x.s.ttl,.int .i64 x.u]
abbrev Nt.v (x:Nt):AV:=.agg [.f (.str x.k.q),.f (.int .i64 x.k.t),.f (.int .i64 x.k.c),.f (.bool x.nx),.f (.str x.s.q),.f (.int .i64 x.s.t),.f (.int .i64 x.s.c),.f (.sl (x.s.d.map fC)),.f (.int .i64 x.s.ttl),.f (.int .i64 x.u)]
abbrev _root_.Go.Proofs.Ytfokaoeinpnagaa.Kc.Qn.v (k:Qn):AV:=vq k.q k.t k.c
def nt0 : Nt:=⟨⟨⟨#[]⟩,0,0⟩,false,⟨⟨#[]⟩,0,0,[],0⟩,0⟩
structure On where
 o:Int
 now:Int
 k:Qn
 nx:Bool
 s:Se
abbrev On.v (x:On):AV:=.agg [.f (.int .i64 x.o),.f (.int .i64 x.now),.f (.str x.k.q),.f (.int .i64 x.k.t),.f (.int .i64 x.k.c),.f (.bool x.nx),.f (.str x.s.q),.f (.int .i64 x.s.t),.f (.int .i64 x.s.c),.f (.sl (x.s.d.map fC)),.f (.int .i64 x.s.ttl)]
structure Nv where
 room:Int
 m:List Nt
 o:List Qn
 ch:Int
structure Rn where
 room:Int
 l:List Nt
 ch:Int
abbrev C9 : KS:=.agg [.str,.int .i64,.int .i64]
abbrev kq (k:Qn):KV:=.agg [.str k.q,.int .i64 k.t,.int .i64 k.c]
theorem FQ {a b:Qn}:kq a = kq b ↔ a = b:=by
 constructor
 ·intro h;simp only [kq,KV.agg.injEq,List.cons.injEq,SV.str.injEq,SV.int.injEq] at h
  cases a;cases b;simp_all
 ·rintro rfl;rfl
def old (l:List Nt) (k:Qn):Option Nt:=l.find? fun x=>decide (x.k = k)
def rid (l:List Nt) (k:Qn):List Nt:=l.eraseP fun x=>decide (x.k = k)
def ent (x:Nt):KV × FC:=(kq x.k,.agg (rN x))
theorem mG (l:List Nt) (k:Qn):wm (l.map ent) (kq k) = l.findIdx? fun x=>decide (x.k = k):=by
 unfold wm
 rw [List.map_map,List.findIdx?_map]
 refine congrArg (fun p=>List.findIdx? p l) (funext fun x=>?_)
 simp only [Function.comp,ent]
 by_cases h:x.k = k
 ·simp [h]
 ·have:¬ kq x.k = kq k:=fun e=>h (FQ.mp e)
  simp only [this,h,decide_false]
theorem pI (l:List Nt) (k:Qn):q8 (l.map ent) (kq k) = (old l k).map fun x=>.agg (rN x):=by
 have hf:old l k = (l.findIdx? fun x=>decide (x.k = k)).bind fun i=>l[i]?:=List.find?_eq_bind_findIdx?_getElem? ..
 unfold q8
 rw [mG,hf]
 cases l.findIdx? fun x=>decide (x.k = k) with
 | none=>rfl
 | some i=>simp only [Option.bind_some,List.getElem?_map];cases l[i]? <;> rfl
theorem yx (l:List Nt) (k:Qn):Bf (l.map ent) (kq k) = (rid l k).map ent:=by
 unfold Bf rid
 rw [mG,List.eraseP_eq_eraseIdx]
 cases l.findIdx? fun x=>decide (x.k = k) with
 | none=>rfl
 | some i=>simp [List.eraseIdx_eq_take_drop_succ,List.map_take,List.map_drop]
def upd (l:List Nt) (x:Nt):List Nt:=match l.findIdx? fun y=>decide (y.k = x.k) with
 | some i=>l.set i x
 | none=>l ++ [x]
theorem yA (l:List Nt) (x:Nt):wo (l.map ent) (kq x.k) (.agg (rN x)) = (upd l x).map ent:=by
 unfold wo upd
 rw [mG]
 cases l.findIdx? fun y=>decide (y.k = x.k) with
 | none=>simp [ent]
 | some i=>simp [List.map_set,ent]
abbrev ks (l:List Nt):List Qn:=l.map Nt.k
theorem lY {l:List Nt} {b:Qn} {x:Nt} (h:old l b = some x):x.k = b ∧ x ∈ l:=⟨by simpa using List.find?_some h,List.mem_of_find?_eq_some h⟩
theorem sU {l:List Nt} {a:Qn}:(rid l a).Sublist l:=List.eraseP_sublist ..
theorem uR {l:List Nt} {a:Qn} (h:(ks l).Nodup):(ks (rid l a)).Nodup:=(sU.map _).nodup h
theorem rF (l:List Nt) (x:Nt):(x.k ∉ ks l ∧ upd l x = l ++ [x]) ∨ ∃ a y b,l = a ++ y :: b ∧ y.k = x.k ∧ x.k ∉ ks a ∧ upd l x = a ++ x :: b:=by
 unfold upd
 cases h:l.findIdx? fun y=>decide (y.k = x.k) with
 | none =>
  refine .inl ⟨fun hm=>?_,rfl⟩
  obtain ⟨y,hy,hk⟩:=List.mem_map.mp hm
  have:=List.findIdx?_eq_none_iff.mp h y hy
  simp [hk] at this
 | some i =>
  obtain ⟨hi,hx,hb⟩:=List.findIdx?_eq_some_iff_getElem.mp h
  refine .inr ⟨l.take i,l[i],l.drop (i + 1),?_,by simpa using hx,fun hm=>?_,?_⟩
  ·rw [List.getElem_cons_drop,List.take_append_drop]
  ·obtain ⟨y,hy,hk⟩:=List.mem_map.mp hm
   obtain ⟨j,hj,rfl⟩:=List.mem_take_iff_getElem.mp hy
   have:=hb j (by omega)
   simp [hk] at this
  ·simp only [List.set_eq_take_append_cons_drop,hi,if_true]
theorem uS {l:List Nt} {x:Nt} (h:(ks l).Nodup):(ks (upd l x)).Nodup:=by
 rcases rF l x with ⟨hn,hu⟩ | ⟨a,y,c,rfl,hy,ha,hu⟩
 ·rw [hu]
  simp only [ks,List.map_append,List.map_cons,List.map_nil]
  refine List.nodup_append.mpr ⟨h,List.pairwise_singleton _ _,fun p hp q hq=>?_⟩
  rw [List.mem_singleton] at hq;subst hq;rintro rfl;exact hn hp
 ·rw [hu]
  have:ks (a ++ x :: c) = ks (a ++ y :: c):=by simp [ks,hy]
  rw [this];exact h
theorem Pm {l:List Nt} {x:Nt}:(upd l x).length ≤ l.length + 1:=by
 rcases rF l x with ⟨-,hu⟩ | ⟨a,y,c,rfl, -, -,hu⟩ <;> rw [hu] <;> simp
theorem Pn {l:List Nt} {x y:Nt} (h:y ∈ upd l x):y = x ∨ y ∈ l:=by
 rcases rF l x with ⟨-,hu⟩ | ⟨a,z,c,rfl, -, -,hu⟩ <;> rw [hu] at h <;> simp at h ⊢
 ·rcases h with h | h <;> simp [h]
 ·rcases h with h | h | h <;> simp [h]
theorem yB : ∀ {g:List Qn} {l:List Nt},(g.foldl rid l).Sublist l
 | [],l=>List.Sublist.refl _
 | a :: g,l=>(yB (g:=g)).trans sU
abbrev Nv.v (s:Nv):AV:=.one (.ptr [.f (.int .i64 s.room),.mp C9 (s.m.map ent),.f (.sl (s.o.map rQ)),.f (.int .i64 s.ch)])
abbrev Rn.v (s:Rn):AV:=.agg [.f (.int .i64 s.room),.f (.sl (s.l.map rN)),.f (.int .i64 s.ch)]
def nvo : Option Nv → AV
 | some s=>s.v
 | none=>.one .iy
theorem L9 (s:Nv):nvo (some s) = s.v:=rfl
end Go.Proofs.Ytfokaoeinpnagaa.Kc.Ne
set_option maxRecDepth 4000
namespace Go.Proofs.Ytfokaoeinpnagaa.Kc.Ne
open Go Ev
variable {ext : Env} {F n:Nat} {θ:Th} {gt:ByteArray → Int → Int → Int × Bool}
structure FR (gt:ByteArray → Int → Int → Int × Bool) (ext:Env):Prop where
 og:∀ s a z,s.size ≤ 1000000 → ext 80 [vs s,vi a,vi z] = some ([vi (gt s a z).1,vb (gt s a z).2],[vs s,vi a,vi z])
 rg:∀ s a z,s.size ≤ 1000000 → ext 77 [vs s,vi a,vi z] = some ([vi (gt s a z).1,vb (gt s a z).2],[vs s,vi a,vi z])
 nn:∀ s a z,0 ≤ (gt s a z).1
theorem ZN (O:FR gt ext) (s:ByteArray) (a z:Int) (h:s.size ≤ 1000000):G ext F (n + 1) 80 [vs s,vi a,vi z] = some ([vi (gt s a z).1,vb (gt s a z).2],[vs s,vi a,vi z]):=(congrFun (nZ rfl) _).trans (O.og s a z h)
theorem Po (room:Int):G ext F (n + 1) 32 [vi room] = some ([nvo (if room < 1 ∨ 1000 < room then none else some ⟨room,[],[],0⟩)],[vi room]):=by
 refine eT (cf:=c32) rfl ?_
 simp only [c32,go_sem,Nat.reduceAdd,Nat.reduceMul,Nat.reduceEqDiff,Nat.reduceBEq,Nat.reduceMod,Nat.reduceDiv,↓reduceIte,reduceCtorEq]
 repeat' (refine eP (fun h=>?_) (fun h=>?_) <;> simp only [h,go_sem,Nat.reduceAdd,Nat.reduceMul,Nat.reduceEqDiff,Nat.reduceBEq,Nat.reduceMod,Nat.reduceDiv,↓reduceIte,reduceCtorEq])
 all_goals (simp only [decide_eq_true_eq,decide_eq_false_iff_not] at *)
 all_goals first | rw [if_pos (by omega)] | rw [if_neg (by omega)]
 all_goals rfl
theorem nN (C:nM ext) (x:Nt) (hx:x.s.d.length ≤ 1000000):G ext F (n + 2) 59 [x.v] = some ([x.v],[x.v]):=by
 refine eT (cf:=c59) rfl ?_
 have h1:=fun n=>SX (F:=F) (n:=n) C x.s.d hx
 simp only [c59,h1,go_sem,Nat.reduceAdd,Nat.reduceMul,Nat.reduceEqDiff,Nat.reduceBEq,Nat.reduceMod,Nat.reduceDiv,↓reduceIte,reduceCtorEq]
theorem DZ (k:Qn):G ext F (n + 1) 58 [k.v] = some ([vq k.q 0 k.c],[k.v]):=by
 refine eT (cf:=c58) rfl ?_
 simp only [c58,go_sem,Nat.reduceAdd,Nat.reduceMul,Nat.reduceEqDiff,Nat.reduceBEq,Nat.reduceMod,Nat.reduceDiv,↓reduceIte,reduceCtorEq]
abbrev _root_.Go.Proofs.Ytfokaoeinpnagaa.Kc.Qn.w (k:Qn):Qn:=⟨k.q,0,k.c⟩
def _root_.Go.Proofs.Ytfokaoeinpnagaa.Kc.Th.ask (θ:Th) (k:Qn):Bool:=θ.key k.q k.t k.c && !decide (k.t = 0)
theorem Ma (T:θ.Ok ext) (k:Qn) (hq:k.q.size ≤ 1000000):G ext F (n + 2) 56 [k.v] = some ([vb (θ.ask k)],[k.v]):=by
 refine eT (cf:=c56) rfl ?_
 have h1:=fun n=>SN (F:=F) (n:=n) T k.q hq
 have h2:=fun n=>SQ (F:=F) (n:=n) T k.q hq
 simp only [c56,h1,h2,go_sem,Nat.reduceAdd,Nat.reduceMul,Nat.reduceEqDiff,Nat.reduceBEq,Nat.reduceMod,Nat.reduceDiv,↓reduceIte,reduceCtorEq]
 repeat' (refine eP (fun h=>?_) (fun h=>?_) <;> simp only [h,h1,h2,go_sem,Nat.reduceAdd,Nat.reduceMul,Nat.reduceEqDiff,Nat.reduceBEq,Nat.reduceMod,Nat.reduceDiv,↓reduceIte,reduceCtorEq])
 all_goals clear h1 h2
 all_goals simp only [decide_eq_true_eq,decide_eq_false_iff_not] at *
 all_goals (simp [Th.ask,Th.key, *])
 all_goals (try omega)
 all_goals (have a1:0 ≤ k.t:=by omega);(have a2:¬ k.t = 0:=by omega);simp [a1,a2]
def wC (θ:Th) (gt:ByteArray → Int → Int → Int × Bool) (x:Se):Int × Bool :=
 if θ.set x.q x.t x.c x.d x.ttl = true ∧ x.t = 6 then (if x.ttl < (gt (x.d.headD ⟨#[]⟩) ((x.d.headD ⟨#[]⟩).size - 4) 4).1 then x.ttl else (gt (x.d.headD ⟨#[]⟩) ((x.d.headD ⟨#[]⟩).size - 4) 4).1,true) else (0,false)
theorem Mc {x:Se} (h:θ.set x.q x.t x.c x.d x.ttl = true):∃ y d,x.d = y :: d:=by
 unfold Th.set at h
 rw [decide_eq_true_eq] at h
 exact List.exists_cons_of_ne_nil h.2.2.2
theorem FT (T:θ.Ok ext) (O:FR gt ext) (x:Se) (hF:200000000000001 ≤ F) (hq:x.q.size ≤ 1000000) (hn:x.d.length ≤ 1000000) (hd:∀ y ∈ x.d,y.size ≤ 1000000):G ext F (n + 4) 55 [x.v] = some ([vi (wC θ gt x).1,vb (wC θ gt x).2],[x.v]):=by
 refine eT (cf:=XJ) rfl ?_
 have h1:=fun n=>Am (F:=F) (n:=n) T x.q x.t x.c x.d x.ttl (by omega) hF hq hd
 by_cases h6:x.t = 6
 ·have h6':decide (x.t = 6) = true:=decide_eq_true h6
  cases hs:θ.set x.q x.t x.c x.d x.ttl with
  | false =>
   rw [hs] at h1
   have e:wC θ gt x = (0,false):=by unfold wC;rw [hs];rfl
   rw [e]
   simp only [XJ,h1,h6',go_sem,Nat.reduceAdd,Nat.reduceMul,Nat.reduceEqDiff,Nat.reduceBEq,Nat.reduceMod,Nat.reduceDiv,↓reduceIte,reduceCtorEq]
  | true =>
   rw [hs] at h1
   obtain ⟨y,ds,hy⟩:=Mc hs
   have e:wC θ gt x = (if x.ttl < (gt y (y.size - 4) 4).1 then x.ttl else (gt y (y.size - 4) 4).1,true):=by unfold wC;rw [if_pos ⟨hs,h6⟩,hy];rfl
   rw [e]
   have hys:=hd y (by rw [hy];simp)
   have hw:IntKind.i64.wrap ((y.size:Int) - 4) = y.size - 4:=wB (by omega) (by omega)
   have hg:=fun n=>ZN (F:=F) (n:=n) O y (y.size - 4) 4 hys
   simp only [Se.v,uP,hy,List.map_cons,fC] at h1 ⊢
   simp only [XJ,h1,h6',List.map_cons,List.getElem?_cons_zero,fC,hw,hg,Int.toNat_zero,go_sem,Nat.reduceAdd,Nat.reduceMul,Nat.reduceEqDiff,Nat.reduceBEq,Nat.reduceMod,Nat.reduceDiv,↓reduceIte,reduceCtorEq]
   exact ⟨Int.le_refl _,by rw [hy];rfl⟩
 ·have h6':decide (x.t = 6) = false:=decide_eq_false h6
  have e:wC θ gt x = (0,false):=by unfold wC;rw [if_neg (fun h=>h6 h.2)]
  rw [e]
  simp only [XJ,h6',go_sem,Nat.reduceAdd,Nat.reduceMul,Nat.reduceEqDiff,Nat.reduceBEq,Nat.reduceMod,Nat.reduceDiv,↓reduceIte,reduceCtorEq]
end Go.Proofs.Ytfokaoeinpnagaa.Kc.Ne
set_option maxRecDepth 4000
namespace Go.Proofs.Ytfokaoeinpnagaa.Kc.Ne
open Go Ev
variable {ext : Env} {F n:Nat} {θ:Th} {gt:ByteArray → Int → Int → Int × Bool}
def ofR (o:Option Nt):Nt × Bool:=match o with
 | some x=>(x,true)
 | none=>(nt0,false)
abbrev kn (nx:Bool) (k:Qn):Qn:=if nx then k.w else k
def _root_.Go.Proofs.Ytfokaoeinpnagaa.Kc.Th.narg (θ:Th) (gt:ByteArray → Int → Int → Int × Bool) (s:Rn) (now:Int) (k:Qn) (x:Se):Prop:=s.room = 0 ∨ LJ now = false ∨ (wC θ gt x).2 = false ∨ θ.key k.q k.t k.c = false ∨ k.t = 0
instance {s : Rn} {now:Int} {k:Qn} {x:Se}:Decidable (θ.narg gt s now k x):=by unfold Th.narg;infer_instance
end Go.Proofs.Ytfokaoeinpnagaa.Kc.Ne
set_option maxRecDepth 4000
namespace Go.Proofs.Ytfokaoeinpnagaa.Kc.Ne
open Go Ev
variable {ext : Env} {F n:Nat} {θ:Th} {gt:ByteArray → Int → Int → Int × Bool}
def nof (m:List Nt) (now:Int) (k:Qn):Option Nt:=match old m k with
 | some x=>if gJ now x.u then some x else none
 | none=>none
def fQ (s:Nv) (now:Int) (k:Qn):Nt × Bool:=match nof s.m now k.w with
 | some x=>(x,true)
 | none=>ofR (nof s.m now k)
theorem FU (now:Int) (k:Qn):G ext F (n + 3) 63 [.one .iy,vi now,k.v] = some ([nt0.v,vb false],[.one .iy,vi now,k.v]):=by
 refine eT (cf:=XK) rfl ?_
 simp only [XK,go_sem,Nat.reduceAdd,Nat.reduceMul,Nat.reduceEqDiff,Nat.reduceBEq,Nat.reduceMod,Nat.reduceDiv,↓reduceIte,reduceCtorEq]
 rfl
theorem Md (C:nM ext) (s:Nv) (now:Int) (k:Qn) (hF:200000000000001 ≤ F) (hd:∀ x ∈ s.m,x.s.d.length ≤ 1000000):G ext F (n + 3) 63 [s.v,vi now,k.v] = some ([(fQ s now k).1.v,vb (fQ s now k).2],[s.v,vi now,k.v]):=by
 refine eT (cf:=XK) rfl ?_
 have hw:=fun n=>DZ (ext:=ext) (F:=F) (n:=n) k
 simp only [XK,hw,go_sem,Nat.reduceAdd,Nat.reduceMul,Nat.reduceEqDiff,Nat.reduceBEq,Nat.reduceMod,Nat.reduceDiv,↓reduceIte,reduceCtorEq]
 refine jW 2 (fun i=>⟨[(0,PV.c (CV.one (PL.ptr 20201 0))),(1,PV.c (CV.one (PL.f (FV.int IntKind.i64 now)))),(6,PV.c (CV.one (PL.ptr 140000 0))),(18,PV.c (CV.one (PL.own 380000 2))),(19,PV.c (CV.one (PL.f (FV.int IntKind.i64 ((2:Nat):Int))))),(20,PV.c (CV.one (PL.f (FV.int IntKind.i64 (i:Int)))))],[(20201,Ob.iM [PL.f (FV.int IntKind.i64 s.room),PL.mp 20205,PL.f (FV.sl (List.map rQ s.o)),PL.f (FV.int IntKind.i64 s.ch)]),(20205,Ob.map C9 (List.map ent s.m)),(140000,Ob.iM [PL.f (FV.str ⟨#[]⟩),PL.f (FV.int IntKind.i64 0),PL.f (FV.int IntKind.i64 0),PL.f (FV.bool false),PL.f (FV.str ⟨#[]⟩),PL.f (FV.int IntKind.i64 0),PL.f (FV.int IntKind.i64 0),PL.dN,PL.f (FV.int IntKind.i64 0),PL.f (FV.int IntKind.i64 0)]),(380000,Ob.row 3 [[FV.str k.q,FV.int IntKind.i64 0,FV.int IntKind.i64 k.c],[FV.str k.q,FV.int IntKind.i64 k.t,FV.int IntKind.i64 k.c]])]⟩) (fun i=>(1 ≤ i → nof s.m now k.w = none) ∧ (2 ≤ i → nof s.m now k = none)) (by omega) rfl ⟨by omega,by omega⟩ (fun i hi hP=>?_) (fun hP=>?_)
 ·rcases (show i = 0 ∨ i = 1 by omega) with rfl | rfl
  ·skip
   have hlt:decide (((0:Nat):Int) < ((2:Nat):Int)) = true:=by decide
   have ht:((0:Nat):Int).toNat = 0:=rfl
   have h0:(0:Int) ≤ ((0:Nat):Int):=by decide
   have hn':IntKind.i64.wrap (((0:Nat):Int) + 1) = ((0 + 1:Nat):Int):=by rw [wB (by omega) (by omega)];rfl
   have hk1:=pI s.m k.w
   simp only [kq] at hk1
   have hcl:=fun n x hx=>nN (F:=F) (n:=n) C x hx
   cases hold:old s.m k.w with
   | none =>
    rw [hold] at hk1
    simp only [hlt,ht,h0,hn',List.getElem?_cons_zero,List.getElem?_cons_succ,hk1,Option.map_none,Option.isSome_none,go_sem,Nat.reduceAdd,Nat.reduceMul,Nat.reduceEqDiff,Nat.reduceBEq,Nat.reduceMod,Nat.reduceDiv,↓reduceIte,reduceCtorEq]
    first | exact ⟨by decide,fun _=>by unfold nof;simp [hold, *],by omega⟩ | exact ⟨by decide,rfl,fun _=>by unfold nof;simp [hold, *],by omega⟩
   | some x =>
    rw [hold] at hk1
    have hcl:=fun n=>nN (F:=F) (n:=n) C x (hd x (lY hold).2)
    cases hv:gJ now x.u with
    | false =>
     simp only [hlt,ht,h0,hn',List.getElem?_cons_zero,List.getElem?_cons_succ,hk1,Option.map_some,Option.isSome_some,rN,jG,hv,go_sem,Nat.reduceAdd,Nat.reduceMul,Nat.reduceEqDiff,Nat.reduceBEq,Nat.reduceMod,Nat.reduceDiv,↓reduceIte,reduceCtorEq]
     first | exact ⟨by decide,fun _=>by unfold nof;simp [hold, *],by omega⟩ | exact ⟨by decide,rfl,fun _=>by unfold nof;simp [hold, *],by omega⟩
    | true =>
     simp only [hlt,ht,h0,hn',List.getElem?_cons_zero,List.getElem?_cons_succ,hk1,Option.map_some,Option.isSome_some,rN,jG,hv,hcl,go_sem,Nat.reduceAdd,Nat.reduceMul,Nat.reduceEqDiff,Nat.reduceBEq,Nat.reduceMod,Nat.reduceDiv,↓reduceIte,reduceCtorEq]
     have e:fQ s now k = (x,true):=by unfold fQ nof;rw [hold];simp [hv]
     rw [e]
     exact ⟨by decide,rfl⟩
  ·have hp:=hP.1 (by decide)
   have hlt:decide (((1:Nat):Int) < ((2:Nat):Int)) = true:=by decide
   have ht:((1:Nat):Int).toNat = 1:=rfl
   have h0:(0:Int) ≤ ((1:Nat):Int):=by decide
   have hn':IntKind.i64.wrap (((1:Nat):Int) + 1) = ((1 + 1:Nat):Int):=by rw [wB (by omega) (by omega)];rfl
   have hk1:=pI s.m k
   simp only [kq] at hk1
   have hcl:=fun n x hx=>nN (F:=F) (n:=n) C x hx
   cases hold:old s.m k with
   | none =>
    rw [hold] at hk1
    simp only [hlt,ht,h0,hn',List.getElem?_cons_zero,List.getElem?_cons_succ,hk1,Option.map_none,Option.isSome_none,go_sem,Nat.reduceAdd,Nat.reduceMul,Nat.reduceEqDiff,Nat.reduceBEq,Nat.reduceMod,Nat.reduceDiv,↓reduceIte,reduceCtorEq]
    first | exact ⟨by decide,fun _=>hp,fun _=>by unfold nof;simp [hold, *]⟩ | exact ⟨by decide,rfl,fun _=>hp,fun _=>by unfold nof;simp [hold, *]⟩
   | some x =>
    rw [hold] at hk1
    have hcl:=fun n=>nN (F:=F) (n:=n) C x (hd x (lY hold).2)
    cases hv:gJ now x.u with
    | false =>
     simp only [hlt,ht,h0,hn',List.getElem?_cons_zero,List.getElem?_cons_succ,hk1,Option.map_some,Option.isSome_some,rN,jG,hv,go_sem,Nat.reduceAdd,Nat.reduceMul,Nat.reduceEqDiff,Nat.reduceBEq,Nat.reduceMod,Nat.reduceDiv,↓reduceIte,reduceCtorEq]
     first | exact ⟨by decide,fun _=>hp,fun _=>by unfold nof;simp [hold, *]⟩ | exact ⟨by decide,rfl,fun _=>hp,fun _=>by unfold nof;simp [hold, *]⟩
    | true =>
     simp only [hlt,ht,h0,hn',List.getElem?_cons_zero,List.getElem?_cons_succ,hk1,Option.map_some,Option.isSome_some,rN,jG,hv,hcl,go_sem,Nat.reduceAdd,Nat.reduceMul,Nat.reduceEqDiff,Nat.reduceBEq,Nat.reduceMod,Nat.reduceDiv,↓reduceIte,reduceCtorEq]
     have e:fQ s now k = (x,true):=by unfold fQ;rw [hp];unfold nof;rw [hold];simp [hv,ofR]
     rw [e]
     exact ⟨by decide,rfl⟩
 ·have hp1:=hP.1 (by decide)
  have hp2:=hP.2 (by decide)
  have hlt:decide (((2:Nat):Int) < ((2:Nat):Int)) = false:=by decide
  have e:fQ s now k = (nt0,false):=by unfold fQ;rw [hp1,hp2];rfl
  rw [e]
  simp only [hlt,go_sem,Nat.reduceAdd,Nat.reduceMul,Nat.reduceEqDiff,Nat.reduceBEq,Nat.reduceMod,Nat.reduceDiv,↓reduceIte,reduceCtorEq]
  rfl
def rG (θ:Th) (gt:ByteArray → Int → Int → Int × Bool) (s:Nv) (now:Int) (k:Qn) (nx:Bool) (x:Se):Nv × Int :=
 if (wC θ gt x).2 = false ∨ fD now (wC θ gt x).1 = -1 ∨ θ.ask k = false then (s,1)
 else if gJ now (fD now (wC θ gt x).1) = false then (s,14)
 else
  let t:=C8 s.o (kn nx k) ++ [kn nx k]
  (⟨s.room,(t.take (t.length - s.room.toNat)).foldl rid (upd s.m ⟨kn nx k,nx,x,fD now (wC θ gt x).1⟩),t.drop (t.length - s.room.toNat),s.ch + 1⟩,0)
theorem Pp (T:θ.Ok ext) (O:FR gt ext) (C:nM ext) (s:Nv) (now:Int) (k:Qn) (qU:Bool) (x:Se) (hF:200000000000001 ≤ F) (hr1:0 ≤ s.room ∧ s.room ≤ 1000000) (hc:0 ≤ s.ch ∧ s.ch ≤ 1000000000000) (ho:s.o.length ≤ 100000) (hk:k.q.size ≤ 1000000) (hq:x.q.size ≤ 1000000) (hn:x.d.length ≤ 1000000) (hd:∀ y ∈ x.d,y.size ≤ 1000000):G ext F (n + 6) 33 [s.v,vi now,k.v,vb qU,x.v] = some ([vi (rG θ gt s now k qU x).2],[(rG θ gt s now k qU x).1.v,vi now,k.v,vb qU,x.v]):=by
 refine eT (cf:=FL) rfl ?_
 have h1:=fun n=>FT (F:=F) (n:=n) T O x hF hq hn hd
 have h2:=fun n=>Ma (F:=F) (n:=n) T k hk
 have hu:=fun n t=>yw (ext:=ext) (F:=F) (n:=n) now t
 cases hm2:(wC θ gt x).2 with
 | false =>
  rw [hm2] at h1
  have e:rG θ gt s now k qU x = (s,1):=by unfold rG;exact if_pos (.inl hm2)
  rw [e]
  simp only [FL,h1,hu,go_sem,Nat.reduceAdd,Nat.reduceMul,Nat.reduceEqDiff,Nat.reduceBEq,Nat.reduceMod,Nat.reduceDiv,↓reduceIte,reduceCtorEq]
 | true =>
 rw [hm2] at h1
 by_cases hun:fD now (wC θ gt x).1 = -1
 ·have e:rG θ gt s now k qU x = (s,1):=by unfold rG;exact if_pos (.inr (.inl hun))
  rw [e]
  have hun':decide (fD now (wC θ gt x).1 = -1) = true:=decide_eq_true hun
  simp only [FL,h1,hu,hun',go_sem,Nat.reduceAdd,Nat.reduceMul,Nat.reduceEqDiff,Nat.reduceBEq,Nat.reduceMod,Nat.reduceDiv,↓reduceIte,reduceCtorEq]
 have hun':decide (fD now (wC θ gt x).1 = -1) = false:=decide_eq_false hun
 cases ha:θ.ask k with
 | false =>
  have e:rG θ gt s now k qU x = (s,1):=by unfold rG;exact if_pos (.inr (.inr ha))
  rw [e]
  rw [ha] at h2
  simp only [FL,h1,h2,hu,hun',go_sem,Nat.reduceAdd,Nat.reduceMul,Nat.reduceEqDiff,Nat.reduceBEq,Nat.reduceMod,Nat.reduceDiv,↓reduceIte,reduceCtorEq]
 | true =>
 rw [ha] at h2
 have hno:¬ ((wC θ gt x).2 = false ∨ fD now (wC θ gt x).1 = -1 ∨ θ.ask k = false):=by rw [hm2,ha];simp [hun]
 cases hl:gJ now (fD now (wC θ gt x).1) with
 | false =>
  have e:rG θ gt s now k qU x = (s,14):=by unfold rG;rw [if_neg hno,if_pos hl]
  rw [e]
  simp only [FL,h1,h2,hu,hun',jG,hl,go_sem,Nat.reduceAdd,Nat.reduceMul,Nat.reduceEqDiff,Nat.reduceBEq,Nat.reduceMod,Nat.reduceDiv,↓reduceIte,reduceCtorEq]
 | true =>
 have e:rG θ gt s now k qU x = (⟨s.room,((C8 s.o (kn qU k) ++ [kn qU k]).take ((C8 s.o (kn qU k) ++ [kn qU k]).length - s.room.toNat)).foldl rid (upd s.m ⟨kn qU k,qU,x,fD now (wC θ gt x).1⟩),(C8 s.o (kn qU k) ++ [kn qU k]).drop ((C8 s.o (kn qU k) ++ [kn qU k]).length - s.room.toNat),s.ch + 1⟩,0):=by
  unfold rG;rw [if_neg hno,if_neg (by rw [hl];decide)]
 rw [e]
 have hu':=fun n=>hu n (wC θ gt x).1
 generalize fD now (wC θ gt x).1 = u at hu' hun' hl ⊢
 have hw:IntKind.i64.wrap (s.ch + 1) = s.ch + 1:=wB (by omega) (by omega)
 have hwh:=fun n=>DZ (ext:=ext) (F:=F) (n:=n) k
 have hcl:=fun n=>nN (ext:=ext) (F:=F) (n:=n) C ⟨kn qU k,qU,x,u⟩ hn
 have hqq:=@sS s.o (kn qU k)
 have ht:=fun n=>DW (ext:=ext) (F:=F) (n:=n) C s.o (kn qU k) (by omega) hF
 have hct:=fun n=>LZ (ext:=ext) (F:=F) (n:=n) C (C8 s.o (kn qU k) ++ [kn qU k]) s.room (by simp;omega) (by omega) hF
 have hup:=yA s.m ⟨kn qU k,qU,x,u⟩
 simp only [kq,rN] at hup
 generalize Yg:C8 s.o (kn qU k) ++ [kn qU k] = t at ht hct ⊢
 generalize t.drop (t.length - s.room.toNat) = td at hct ⊢
 generalize ZL:t.take (t.length - s.room.toNat) = tt at hct ⊢
 have htl:tt.length ≤ 1000000:=by rw [← ZL,List.length_take,← Yg,List.length_append,List.length_singleton];omega
 generalize hM:upd s.m ⟨kn qU k,qU,x,u⟩ = M at hup ⊢
 cases qU
 all_goals
  simp only [kn,if_true,if_false,Bool.false_eq_true] at hup ht hct hcl
  simp only [FL,h1,h2,hu',hun',jG,hl,hwh,hcl,ht,hct,hup,hw,go_sem,Nat.reduceAdd,Nat.reduceMul,Nat.reduceEqDiff,Nat.reduceBEq,Nat.reduceMod,Nat.reduceDiv,↓reduceIte,reduceCtorEq]
  refine jW tt.length (fun i=>⟨[(0,PV.c (CV.one (PL.ptr 20201 0))),(14,PV.c (CV.one (PL.f (FV.sl (List.map rQ td))))),(75,PV.c (CV.one (PL.f (FV.sl (List.map rQ tt))))),(76,PV.c (CV.one (PL.f (FV.int IntKind.i64 ↑(List.map rQ tt).length)))),(77,PV.c (CV.one (PL.f (FV.int IntKind.i64 i))))],[(20201,Ob.iM [PL.f (FV.int IntKind.i64 s.room),PL.mp 20205,PL.f (FV.sl (List.map rQ s.o)),PL.f (FV.int IntKind.i64 s.ch)]),(20205,Ob.map C9 (((tt.take i).foldl rid M).map ent))]⟩) (fun _=>True) (by omega) rfl trivial (fun i hi _=>?_) (fun _=>?_)
  ·obtain ⟨k',hx,hlt,hit,h00⟩:=at_ hi
   have hn':=nx hi (by omega)
   have hdl:=yx ((tt.take i).foldl rid M) k'
   have hfo:(tt.take (i + 1)).foldl rid M = rid ((tt.take i).foldl rid M) k':=by rw [List.take_add_one,hx,List.foldl_append];rfl
   simp only [List.length_map,List.getElem?_map,hlt,hx,hit,h00,hn',rQ,hdl,go_sem,Nat.reduceAdd,Nat.reduceMul,Nat.reduceEqDiff,Nat.reduceBEq,Nat.reduceMod,Nat.reduceDiv,↓reduceIte,reduceCtorEq]
   rw [hfo]
  ·have hd:=@end_ _ tt
   simp only [List.length_map,hd,hw,List.take_length,go_sem,Nat.reduceAdd,Nat.reduceMul,Nat.reduceEqDiff,Nat.reduceBEq,Nat.reduceMod,Nat.reduceDiv,↓reduceIte,reduceCtorEq]
end Go.Proofs.Ytfokaoeinpnagaa.Kc.Ne
namespace Go.Proofs.Ytfokaoeinpnagaa.Ev
open Go Go.RowKit
def VA : SV → TV
 | .int k n=>.f (.int k n)
 | .bool b=>.f (.bool b)
 | .str s=>.f (.str s)
def FX (l:List SV):List AV:=l.map fun x=>.one (VA x)
section
variable {P : Program} {Fz:Nat → Prop} {w:World}
theorem Ht {x:SV} {v:Value} {bs:List Nat}:nK Fz w (VA x) v bs ↔ v = encS x ∧ bs = []:=by
 cases x <;> simp only [VA,nK,eY,encS]
theorem yC : ∀ {l:List SV} {vs:List Value} {bs:List Nat},fP Fz w (FX l) vs bs → vs = l.map encS ∧ bs = []
 | [],[],_,h=>⟨rfl,h⟩
 | [],_ :: _,_,h=>h.elim
 | _ :: _,[],_,h=>h.elim
 | x :: l,v :: vs,_,⟨b1,b2,h1,h2,e⟩=>by
  obtain ⟨e1,e2⟩:=Ht.mp h1
  obtain ⟨e3,e4⟩:=yC (l:=l) h2
  subst e1;subst e2;subst e3;subst e4
  exact ⟨rfl,by rw [e];rfl⟩
theorem sV : ∀ {l:List SV},fP Fz w (FX l) (l.map encS) []
 | []=>rfl
 | x :: l=>⟨[],[],Ht.mpr ⟨rfl,rfl⟩,sV (l:=l),rfl⟩
theorem Sat.wh {f:FuncId} {g:List AV → Option (List AV × List AV)} (h:∀ fK r,g fK = some r → ∃ ZZ9 rs:List SV,fK = FX ZZ9 ∧ r = (FX rs,FX ZZ9) ∧
  ∀ w:World,Calls P f (ZZ9.map encS).toArray w fun e w'=>e = .returned (ret (rs.map encS)) ∧ Below w.heap.size w w'):Sat P f g:=by
 intro fK rs rE hg Fz w vals bs ha hnd hap hfz
 obtain ⟨ZZ9,rs',rfl,e,hc⟩:=h fK _ hg
 cases e
 obtain ⟨rfl,rfl⟩:=yC ha
 refine (hc w).mono fun e w' ⟨h1,hb'⟩=>?_
 exact ⟨Fz,rs'.map encS,[],[],h1,fun _ h=>h,fun b hb=>⟨Nat.lt_of_lt_of_le (hfz b hb) hb'.size,.inl hb⟩,hb'.size,fun b hb _=>hb'.block b hb,⟨hb'.os,hb'.output⟩,sV,sV,by simp,fun b hb=>by simp at hb⟩
def nO : List (FuncId × (List AV → Option (List AV × List AV))) → Env
 | []=>fun _ _=>none
 | (k,g) :: l=>fun f fK=>if k = f then g fK else nO l f fK
theorem yD : ∀ {l:List (FuncId × (List AV → Option (List AV × List AV)))},(∀ p ∈ l,Sat P p.1 p.2) → iN P (nO l)
 | [],_=>fun f fK rs rE h=>by cases h
 | (k,g) :: l,h=>fun f fK rs rE he=>by
  unfold nO at he
  split at he
  ·rename_i e;subst e;exact h (k,g) (by simp) fK rs rE he
  ·exact yD (fun p hp=>h p (List.mem_cons_of_mem _ hp)) f fK rs rE he
theorem rJ : ∀ {l:List (FuncId × (List AV → Option (List AV × List AV)))},(∀ p ∈ l,∃ fn,P.funcs[p.1]? = some fn ∧ (fn.name == "runtime.NumGoroutine") = false ∧ fn.body.isSome = true) → eu P (nO l)
 | [],_=>fun f fK r h=>by cases h
 | (k,g) :: l,h=>fun f fK r he=>by
  unfold nO at he
  split at he
  ·rename_i e;subst e;exact h (k,g) (by simp)
  ·exact rJ (fun p hp=>h p (List.mem_cons_of_mem _ hp)) f fK r he
end
end Go.Proofs.Ytfokaoeinpnagaa.Ev
namespace Go.Proofs.Ytfokaoeinpnagaa.Ev
open Go
def SY (n:Nat) (ks:List Nat):Nat → Bool:=fun d=>decide (d < n) && !ks.contains d
noncomputable def Me (Γ:Env) (F:Nat) (ca cb:CC) (s:Nat) (D:St → Option St) (cf:CF) (fK:List AV):Option (List AV × List AV) :=
 if fK.length ≠ cf.np then none else (enter cf.bo 0 [] ⟨[],[]⟩ fK).bind fun e=>(ev Γ F ca e.2).bind fun p=>match p.1 with
  | .jc=>(ev Γ F cb ⟨put p.2.tm s (.c (.one .any)),p.2.ob⟩).bind fun q=>match q.1 with
   | .ext _=>none
   | _=>(D q.2).bind fun t=>(jU t e.1 fK).bind fun b=>(slots b.2 cf.res).bind fun l=>(mE cf.ro b.2 l).map fun r=>(r.1,b.1)
  | _=>none
section
variable {P : Program} {Γ:Env} {bG Fz bJ:Nat → Prop} {w0 w w':World} {bF bs:List Nat} {N:Fr} {F:Nat} {κ jk:Nat → Value} {σ fH σ':St} {a:Act} {X:Hx}
theorem Ok.reN (h:Ok bG w0 bF N jk σ a w) (N':Fr) (hn:N'.n = N.n) (hfs:∀ d,N'.ok d = false → a.tmps.getD d undef = N'.vs d):Ok bG w0 bF N' jk σ { a with defers:=N'.ds } w:=by
 obtain ⟨Fz,κ,h,hk⟩:=h
 exact ⟨Fz,κ,⟨h.tm,h.sz.trans hn.symm,rfl,hfs,h.ob,h.uI,h.pos,h.fz,h.zw,h.big,h.ext,h.kp⟩,hk⟩
theorem FY (hm:P.follows .mixedOrders = true) (heq:∀ t ∈ X.eqs,lH P t) (lX:iN P Γ) (hC:eu P Γ) {f g:FuncId} {fn gn:Func} {a1 a2 r:Code} {id s c1 c2 t1 t2:Nat} {p1 p2:String} {FE FH:Array Edge} (hf:P.funcs[f]? = some fn)
  (hb:fn.body = some (.seq a1 (.seq a2 (.seq (.region id #[{ dst:=some s,op:=.makeFunc (.func g) #[] #[.tmp c1,.tmp c2],type:=t1,pos:=p1,after:=FE,guard:=none },{ dst:=none,op:=.defer { callee:=.value (.tmp s),args:=#[],argTypes:=#[] },type:=t2,pos:=p2,after:=FH,guard:=none }] false) r))))
  (hg:P.funcs[g]? = some gn) (hgn:(gn.name == "runtime.NumGoroutine") = false) (hgb:gn.body.isSome = true) {cf:CF} {ca cb:CC} {ha hb' ra rb:List Hi}
  (hca:comp P X (TW fn.ntmps) (.seq a1 a2) ha = some (ca,ra)) (hcb:comp P X (SY fn.ntmps [c1,c2]) r hb' = some (cb,rb)) (hr:mY P fn.results.toList = some cf.res) (hnp:cf.np ≤ fn.ntmps) (hs:s < fn.ntmps) (hs1:c1 ≠ s) (hs2:c2 ≠ s) {D:St → Option St}
  (hD:∀ (bG:Nat → Prop) (w0:World) (bF:List Nat) (N:Fr) (jk:Nat → Value) (σ σ':St) (a:Act) (w:World),Ok bG w0 bF N jk σ a w → D σ = some σ' → CallsD P g #[a.tmps.getD c1 undef,a.tmps.getD c2 undef] .returning w fun e u w'=>u = .returning ∧ (∃ v,e = .returned v) ∧ Ok bG w0 bF N jk σ' a w')
  (F:Nat):Sat P f (Me Γ F ca cb s D cf):=by
 intro fK rs rE hE Fz w vals bs WO hnd hap hfz
 unfold Me at hE
 split at hE
 ·cases hE
 rename_i hlen
 have hlen':fK.length = cf.np:=Decidable.not_not.mp hlen
 have hvl:vals.length = fK.length:=WO.len
 obtain ⟨e,h1,hE⟩:=zbm hE
 obtain ⟨p,h2,hE⟩:=zbm hE
 refine calls_of_wp_defers hf hb ?_
 have hsz:(vals.toArray ++ Array.replicate (fn.ntmps - vals.toArray.size) undef).size = fn.ntmps:=by simp;omega
 obtain ⟨jk,hok,g2⟩:=entered (bo:=cf.bo) WO hnd hap hfz hsz h1
 cases hp:p.1 with
 | ext i=>rw [hp] at hE;cases hE
 | ret=>rw [hp] at hE;cases hE
 | jc =>
 rw [hp] at hE
 obtain ⟨q,h3,hEq⟩:=zbm hE
 obtain ⟨x1,hx1,hx2⟩:=zbm hca
 obtain ⟨x2,hx3,hx4⟩:=zmm hx2
 cases hx4
 obtain ⟨y1,hy1,hy2⟩:=zbm h2
 have hyn:y1.1 = .jc ∧ ev Γ F x2.1 y1.2 = some p:=by
  cases hy:y1.1 with
  | jc=>rw [hy] at hy2;exact ⟨rfl,hy2⟩
  | ext i=>rw [hy] at hy2;cases hy2;cases hp
  | ret=>rw [hy] at hy2;cases hy2;cases hp
 obtain ⟨hy3,hy4⟩:=hyn
 refine wp_seq (DF hm heq lX hC a1 hx1 hok hy1 fun b1 u1 k1=>?_)
 rw [hy3]
 refine wp_seq (DF hm heq lX hC a2 hx3 k1 hy4 fun b2 u2 k2=>?_)
 rw [hp]
 refine wp_seq ?_
 have hmk:∀ v1 v2:Value,(Instr.makeFunc (.func g) #[] #[v1,v2]).run P u2 = .ok (.func (.func g) #[] #[v1,v2]) u2:=fun _ _=>rfl
 obtain ⟨v1,hv1⟩:∃ v,v = b2.tmps.getD c1 undef:=⟨_,rfl⟩
 obtain ⟨v2,hv2⟩:∃ v,v = b2.tmps.getD c2 undef:=⟨_,rfl⟩
 obtain ⟨b3,hb3⟩:∃ b,b = b2.put (some s) (.func (.func g) #[] #[v1,v2]):=⟨_,rfl⟩
 have hdef:b2.defers = []:=by obtain ⟨_,_,hr2,_⟩:=k2;exact hr2.l8
 have hsz2:b2.tmps.size = fn.ntmps:=by obtain ⟨_,_,hr2,_⟩:=k2;exact hr2.sz
 have hk3:Ok Fz w bs (Fr.of fn.ntmps) jk ⟨put p.2.tm s (.c (.one .any)),p.2.ob⟩ b3 u2:=by
  obtain ⟨F2,Fg,hr2,hk2⟩:=k2
  rw [hb3]
  exact ⟨F2,Fg,hr2.put (by simpa [Fr.of,TW] using hs) (pv:=.c (.one .any)) trivial,hk2⟩
 have hts:∀ d,d ≠ s → b3.tmps.getD d undef = b2.tmps.getD d undef:=fun d hd=>by
  rw [hb3]
  simp only [Act.put,Array.getD_eq_getD_getElem?,Array.getElem?_setIfInBounds]
  rw [if_neg (fun e=>hd e.symm)]
 obtain ⟨N1,hN1⟩:∃ N:Fr,N = ⟨fn.ntmps,[{ target:=.fn (.func g) #[v1,v2],args:=#[] }],SY fn.ntmps [c1,c2],fun d h=>by simp [SY] at h;omega,fun d=>b3.tmps.getD d undef⟩:=⟨_,rfl⟩
 have hk4:=hk3.reN N1 (by rw [hN1];rfl) (fun d _=>by rw [hN1])
 refine wp_region_lit (l:=[_,_]) ?_
 unfold wpList
 rw [if_pos (show Region.wanted _ _ = true from rfl)]
 left
 have r1:(execOp b2.eval { dst:=some s,op:=.makeFunc (.func g) #[] #[.tmp c1,.tmp c2],type:=t1,pos:=p1,after:=FE,guard:=none }).run P u2 = .ok (.value (.func (.func g) #[] #[v1,v2])) u2:=by
  unfold execOp
  simp [Act.eval,hmk,← hv1,← hv2]
 unfold Oper.wp
 rw [r1]
 show wpList P _ _ _ (b2.put (some s) _) u2
 rw [← hb3]
 unfold wpList
 rw [if_pos (show Region.wanted _ _ = true from rfl)]
 left
 have r2:(execOp b3.eval { dst:=none,op:=.defer { callee:=.value (.tmp s),args:=#[],argTypes:=#[] },type:=t2,pos:=p2,after:=FH,guard:=none }).run P u2 = .ok (.defer { target:=.fn (.func g) #[v1,v2],args:=#[] }) u2:=by
  have hvs:b3.eval (.tmp s) = .func (.func g) #[] #[v1,v2]:=by
   rw [hb3]
   simp only [Act.eval,Act.put,Array.getD_eq_getD_getElem?,Array.getElem?_setIfInBounds]
   rw [if_pos trivial,if_pos (by rw [hsz2];exact hs)]
   rfl
  unfold execOp resolve
  simp only [hvs]
  simp [Deferred.ofValue]
 unfold Oper.wp
 rw [r2]
 show wpList P _ _ _ { b3 with defers:={ target:=.fn (.func g) #[v1,v2],args:=#[] } :: b3.defers } u2
 unfold wpList
 show r.wp P _ _ _
 have hd3:b3.defers = []:=by rw [hb3];exact hdef
 rw [hd3]
 rw [hN1] at hk4
 refine DF hm heq lX hC r hcb hk4 h3 fun b4 u4 k4=>?_
 have hkeep:∀ d,(d = c1 ∨ d = c2) → b4.tmps.getD d undef = b3.tmps.getD d undef:=fun d hd=>by
  obtain ⟨_,_,hr4,_⟩:=k4
  exact hr4.fs d (by simp [SY];rcases hd with rfl | rfl <;> simp)
 have hds:b4.defers = [{ target:=.fn (.func g) #[v1,v2],args:=#[] }]:=by obtain ⟨_,_,hr4,_⟩:=k4;exact hr4.l8
 have fin:(∃ t,D q.2 = some t ∧ ((jU t e.1 fK).bind fun b=>(slots b.2 cf.res).bind fun l=>(mE cf.ro b.2 l).map fun r=>(r.1,b.1)) = some (rs,rE)) → Leaves P fn b4.tmps (fun e w'=>∃ bJ uM b1 b2,e = .returned (ret uM) ∧ Post Fz w vals bs rs rE bJ w' uM b1 b2) b4.defers .returning u4:=by
  rintro ⟨t,d1,d2⟩
  rw [hds]
  refine leaves_cons (f:=g) (args:=#[v1,v2]) (by simp) ?_ ?_
  ·show (callFunc g (#[] ++ #[v1,v2])).run P u4 = _
   rw [oG hg hgn hgb]
   simp
  ·have hcd:=hD Fz w bs _ jk q.2 t b4 u4 k4 d1
   rw [hkeep c1 (.inl rfl),hkeep c2 (.inr rfl),hts c1 hs1,hts c2 hs2,← hv1,← hv2] at hcd
   refine hcd.mono ?_
   rintro e' u' w' ⟨rfl,⟨v,rfl⟩,k5⟩
   show Leaves P fn b4.tmps _ [] (settle .returning) w'
   obtain ⟨_,v',g3,g4⟩:=Lu hr WO hap hfz g2 b4 w' k5 d2
   exact ⟨v',g3,g4⟩
 cases hq:q.1 with
 | ext i=>rw [hq] at hEq;cases hEq
 | jc =>
  rw [hq] at hEq
  obtain ⟨t,d1,d2⟩:=zbm hEq
  exact fin ⟨t,d1,d2⟩
 | ret =>
  rw [hq] at hEq
  obtain ⟨t,d1,d2⟩:=zbm hEq
  exact fin ⟨t,d1,d2⟩
noncomputable def ZO (Γ:Env) (F:Nat) (cc:CC) (c1 c2:Nat) (σ:St):Option St:=match get σ.tm c1,get σ.tm c2 with
 | some x,some y=>(ev Γ F cc ⟨[(0,x),(1,y)],σ.ob⟩).bind fun p=>match p.1 with
  | .ext _=>none
  | _=>(get p.2.tm 0).map fun z=>⟨[(c1,z)],p.2.ob⟩
 | _,_=>none
theorem VB (hm:P.follows .mixedOrders = true) (heq:∀ t ∈ X.eqs,lH P t) (lX:iN P Γ) (hC:eu P Γ) {g:FuncId} {gn:Func} {c:Code} {cc:CC} {h1 h2:List Hi} {c1 c2:Nat} (hg:P.funcs[g]? = some gn) (hb:gn.body = some c) (hc:comp P X (SY gn.ntmps [0]) c h1 = some (cc,h2)) (hr:gn.results = #[]) (hn:2 ≤ gn.ntmps) (F:Nat)
  (bG:Nat → Prop) (w0:World) (bF:List Nat) (N:Fr) (jk:Nat → Value) (σ σ':St) (a:Act) (w:World) (hO:Ok bG w0 bF N jk σ a w) (hd:ZO Γ F cc c1 c2 σ = some σ') :
  CallsD P g #[a.tmps.getD c1 undef,a.tmps.getD c2 undef] .returning w fun e u w'=>u = .returning ∧ (∃ v,e = .returned v) ∧ Ok bG w0 bF N jk σ' a w':=by
 unfold ZO at hd
 split at hd
 ·rename_i x y hx hy
  obtain ⟨p,h3,hd⟩:=zbm hd
  obtain ⟨b0,hb0⟩:∃ b:Act,b = { tmps:=#[a.tmps.getD c1 undef,a.tmps.getD c2 undef] ++ Array.replicate (gn.ntmps - 2) undef,defers:=[] }:=⟨_,rfl⟩
  have e0:b0.tmps.getD 0 undef = a.tmps.getD c1 undef:=by rw [hb0];simp [Array.getD_eq_getD_getElem?,Array.getElem?_append]
  have e1:b0.tmps.getD 1 undef = a.tmps.getD c2 undef:=by rw [hb0];simp [Array.getD_eq_getD_getElem?,Array.getElem?_append]
  obtain ⟨N',hN'⟩:∃ N:Fr,N = ⟨gn.ntmps,[],SY gn.ntmps [0],fun d h=>by simp [SY] at h;omega,fun d=>b0.tmps.getD d undef⟩:=⟨_,rfl⟩
  have DC:Ok bG w0 bF N' jk ⟨[(0,x),(1,y)],σ.ob⟩ b0 w:=by
   obtain ⟨Fz,κ,hr,hk⟩:=hO
   refine ⟨Fz,κ,⟨fun p hp=>?_,by rw [hb0,hN'];simp;omega,by rw [hb0,hN'],fun d _=>by rw [hN'],hr.ob,hr.uI,hr.pos,hr.fz,hr.zw,hr.big,hr.ext,hr.kp⟩,hk⟩
   simp only [List.mem_cons,List.not_mem_nil,or_false] at hp
   rcases hp with rfl | rfl
   ·rw [e0];exact hr.val hx
   ·rw [e1];exact hr.val hy
  have main:∀ b u,Ok bG w0 bF N' jk p.2 b u → (∃ z,get p.2.tm 0 = some z ∧ σ' = ⟨[(c1,z)],p.2.ob⟩) → b.defers = [] ∧ ∃ v,(results gn b.tmps).run P u = .ok v u ∧ (∃ v',Ending.returned v = .returned v') ∧ Ok bG w0 bF N jk σ' a u:=by
   rintro b u ⟨Fz,κ,hr2,hk2⟩ ⟨z,hz,rfl⟩
   refine ⟨by have:=hr2.l8;rw [this,hN'],.tuple #[],?_,⟨_,rfl⟩,?_⟩
   ·unfold results
    rw [hr]
    simp
   ·obtain ⟨_,_,hr,_⟩:=hO
    refine ⟨Fz,κ,⟨fun p hp=>?_,hr.sz,hr.l8,hr.fs,hr2.ob,hr2.uI,hr2.pos,hr2.fz,hr2.zw,hr2.big,hr2.ext,hr2.kp⟩,hk2⟩
    simp only [List.mem_cons,List.not_mem_nil,or_false] at hp
    subst hp
    have h5:b.tmps.getD 0 undef = N'.vs 0:=hr2.fs 0 (by rw [hN'];simp [SY])
    have h6:N'.vs 0 = a.tmps.getD c1 undef:=by rw [hN'];exact e0
    show ji Fz κ u z (a.tmps.getD c1 undef)
    rw [← h6,← h5]
    exact hr2.val hz
  refine callsD_of_wp hg hb ?_
  have hst:({ tmps:=#[a.tmps.getD c1 undef,a.tmps.getD c2 undef] ++ Array.replicate (gn.ntmps - (#[a.tmps.getD c1 undef,a.tmps.getD c2 undef]:Array Value).size) undef,defers:=[] }:Act) = b0:=by rw [hb0];rfl
  rw [hst]
  rw [hN'] at DC
  refine DF hm heq lX hC c hc DC h3 fun b u hk=>?_
  rw [← hN'] at hk
  cases hp:p.1 with
  | ext i=>rw [hp] at hd;cases hd
  | jc =>
   rw [hp] at hd
   obtain ⟨z,hz,rfl⟩:=zmm hd
   exact main b u hk ⟨z,hz,rfl⟩
  | ret =>
   rw [hp] at hd
   obtain ⟨z,hz,rfl⟩:=zmm hd
   exact main b u hk ⟨z,hz,rfl⟩
 ·cases hd
end
end Go.Proofs.Ytfokaoeinpnagaa.Ev
namespace Go.Proofs.Ytfokaoeinpnagaa.Ev
open Go
open Go.ChangeMaps (setBlock)
def ofS : SV → FV
 | .int k n=>.int k n
 | .bool b=>.bool b
 | .str s=>.str s
def kvC : KV → CV
 | .one x=>.one (.f (ofS x))
 | .agg xs=>.agg (xs.map fun x=>.f (ofS x))
def Mf (step:St → KV → Option St) (σ:St):List KV → Option St
 | []=>some σ
 | k :: l=>(step σ k).bind fun τ=>Mf step τ l
open Classical in
noncomputable def S9 (step:St → KV → Option St) (σ:St) (l:List KV):Option St :=
 if ∃ τ,∀ m:List KV,m.Perm l → Mf step σ m = some τ then Mf step σ l else none
def D5 (ks os:List Nat) (σ:St):St:=⟨pick ks σ.tm,pick os σ.ob⟩
def FZ (σ:St) (os:List Nat) (s:Nat):Option (List KV):=match get σ.tm s with
 | some (.c (.one (.mp key)))=>if os.contains key then none else match get σ.ob key with
  | some (.map _ ents)=>some (ents.map (·.1))
  | _=>none
 | _=>none
noncomputable def Hu (Γ:Env) (F:Nat) (ks os:List Nat) (s:Nat) (g6:List G) (k6:List Nat) (cb:CC) (σ:St) (k:KV):Option St :=
 (xC Γ false g6 ⟨put σ.tm s (.c (kvC k)),σ.ob⟩).bind fun t=>(ev Γ F cb ⟨pick k6 t.tm,t.ob⟩).bind fun p=>match p.1 with
  | .jc=>some (D5 ks os p.2)
  | _=>none
noncomputable def fin (cf:CF) (mU:List CV) (fK:List AV) (σ:St):Option (List AV × List AV):=(jU σ mU fK).bind fun b=>(slots b.2 cf.res).bind fun l=>(mE cf.ro b.2 l).map fun r=>(r.1,b.1)
noncomputable def ZP (Γ:Env) (F:Nat) (ca:CC) (g4:List G) (sm:Nat) (ks os:List Nat) (s:Nat) (g6:List G) (k6:List Nat) (cb cc:CC) (cf:CF) (fK:List AV):Option (List AV × List AV) :=
 if fK.length ≠ cf.np then none else (enter cf.bo 0 [] ⟨[],[]⟩ fK).bind fun e=>(ev Γ F ca e.2).bind fun p=>match p.1 with
  | .ext _=>none
  | .ret=>fin cf e.1 fK p.2
  | .jc=>(xC Γ false g4 p.2).bind fun t=>(FZ t os sm).bind fun l=>(S9 (Hu Γ F ks os s g6 k6 cb) (D5 ks os t) l).bind fun t=>(ev Γ F cc t).bind fun q=>match q.1 with
   | .ext _=>none
   | _=>fin cf e.1 fK q.2
section
variable {P : Program} {Γ:Env} {bG Fz bJ:Nat → Prop} {w0 w w':World} {bF bs:List Nat} {N N':Fr} {F:Nat} {κ fu jk:Nat → Value} {σ fH σ':St} {a a':Act} {X:Hx}
def blks (κ:Nat → Value) (ob:List (Nat × Ob)):List Nat:=ob.filterMap fun p=>blk (κ p.1)
theorem D6 {b:Nat} {ob:List (Nat × Ob)}:b ∈ blks κ ob ↔ ∃ p ∈ ob,blk (κ p.1) = some b:=List.mem_filterMap
theorem Rel.base (h:Rel bG w0 bF N Fz κ σ a w):Rel Fz w (blks κ σ.ob) N Fz κ σ a w :=
 ⟨h.tm,h.sz,h.l8,h.fs,h.ob,h.uI,fun p hp b hb=>⟨(h.pos p hp b hb).1,(h.pos p hp b hb).2.1,.inl (D6.mpr ⟨p,hp,hb⟩)⟩,fun b hb=>⟨(h.fz b hb).1,.inl hb⟩,fun _ h=>h,Nat.le_refl _,fun _ _ _=>rfl,⟨rfl,rfl⟩⟩
theorem Rel.old (h:Rel bG w0 bF N Fz κ σ a w) {b:Nat} (hb:b ∈ blks κ σ.ob):¬ Fz b ∧ b < w.heap.size ∧ (b ∈ bF ∨ w0.heap.size ≤ b):=by
 obtain ⟨p,hp,hb⟩:=D6.mp hb
 exact h.pos p hp b hb
end
end Go.Proofs.Ytfokaoeinpnagaa.Ev
set_option maxRecDepth 4000
namespace Go.Proofs.Ytfokaoeinpnagaa.Ev
open Go
section
variable {Γ : Env} {F s sm:Nat} {ks os k6:List Nat} {g4 g6:List G} {ca cb cc:CC} {cf:CF} {fK:List AV} {mU:List CV} {σ:St} {kk:KV}
def XL : Out → (Unit → Prop) → (Unit → Prop) → Prop
 | .ret,A,_=>A ()
 | .jc,_,B=>B ()
 | .ext _,_,_=>False
@[go_sem] theorem acV {A B:Unit → Prop}:XL .ret A B ↔ A ():=Iff.rfl
@[go_sem] theorem acW {A B:Unit → Prop}:XL .jc A B ↔ B ():=Iff.rfl
def kB : Option Ob → Option (List KV)
 | some (.map _ ents)=>some (ents.map (·.1))
 | _=>none
def kA (os:List Nat) (ob:List (Nat × Ob)):Option PV → Option (List KV)
 | some (.c (.one (.mp key)))=>if os.contains key then none else kB (get ob key)
 | _=>none
@[go_sem] theorem afq {sh:KS} {ents:List (KV × FC)}:kB (some (.map sh ents)) = some (ents.map (·.1)):=rfl
@[go_sem] theorem XM : FZ σ os s = kA os σ.ob (get σ.tm s):=rfl
@[go_sem] theorem ZR : D5 ks os σ = ⟨pick ks σ.tm,pick os σ.ob⟩:=rfl
@[go_sem ↓] theorem agS {k:List AV × List AV → Prop} {u:Tok k}:W k u (fin cf mU fK σ) ↔ W (fun b=>W (fun l=>W (fun r=>k (r.1,b.1)) ⟨⟩ (mE cf.ro b.2 l)) ⟨⟩ (slots b.2 cf.res)) ⟨⟩ (jU σ mU fK):=by
 simp only [fin,dO,bq,bX]
@[go_sem ↓] theorem acX {k:St → Prop} {u:Tok k}:W k u (Hu Γ F ks os s g6 k6 cb σ kk) ↔ W (fun t=>W (fun p=>p.1 = .jc ∧ k (D5 ks os p.2)) ⟨⟩ (ev Γ F cb ⟨pick k6 t.tm,t.ob⟩)) ⟨⟩ (xC Γ false g6 ⟨put σ.tm s (.c (kvC kk)),σ.ob⟩):=by
 simp only [Hu,dO,bq]
 refine cK fun t=>cK fun p=>?_
 obtain ⟨o,σ'⟩:=p
 cases o <;> simp [jr,bH]
@[go_sem ↓] theorem afr {k:List AV × List AV → Prop} {u:Tok k}:W k u (ZP Γ F ca g4 sm ks os s g6 k6 cb cc cf fK) ↔ fK.length = cf.np ∧ W (fun e=>W (fun p=>XL p.1 (fun _=>W k ⟨⟩ (fin cf e.1 fK p.2)) (fun _=>W (fun t=>W (fun l=>W (fun t=>W (fun q=>(∀ id,q.1 ≠ .ext id) ∧ W k ⟨⟩ (fin cf e.1 fK q.2)) ⟨⟩ (ev Γ F cc t)) ⟨⟩ (S9 (Hu Γ F ks os s g6 k6 cb) (D5 ks os t) l)) ⟨⟩ (FZ t os sm)) ⟨⟩ (xC Γ false g4 p.2))) ⟨⟩ (ev Γ F ca e.2)) ⟨⟩ (enter cf.bo 0 [] ⟨[],[]⟩ fK):=by
 simp only [ZP,dO,dx,bq,ne_eq,Decidable.not_not]
 refine and_congr Iff.rfl (cK fun e=>cK fun p=>?_)
 obtain ⟨o,σ'⟩:=p
 cases o with
 | ext i=>simp [jr,XL]
 | ret=>simp only [XL]
 | jc =>
  simp only [XL,bq]
  refine cK fun t=>cK fun l=>cK fun t'=>cK fun q=>?_
  obtain ⟨o,σ'⟩:=q
  cases o <;> simp [jr]
end
end Go.Proofs.Ytfokaoeinpnagaa.Ev
namespace Go.Proofs.Ytfokaoeinpnagaa.Kc.Ne
open Go Ev
variable {ext : Env} {F n:Nat} {θ:Th} {gt:ByteArray → Int → Int → Int × Bool}
end Go.Proofs.Ytfokaoeinpnagaa.Kc.Ne
set_option maxRecDepth 4000
namespace Go.Proofs.Ytfokaoeinpnagaa.Kc
open Go Ev
variable {ext : Env} {F n:Nat} {θ:Th}
def iC (now u:Int):Int:=if gJ now u = true then (if 604800 < u - now then 604800 else u - now) else 0
def F4 (r:Int):Bool:=decide (3 ≤ r ∧ r ≤ 5)
theorem Pq {now u:Int} (h:gJ now u = true) (hu:u ≤ 4611686018427387904):IntKind.i64.wrap (u - now) = u - now:=by
 unfold gJ LJ at h
 simp only [Bool.and_eq_true,decide_eq_true_eq] at h
 exact wB (by omega) (by omega)
theorem Hw (now u:Int) (hu:u ≤ 4611686018427387904):G ext F (n + 3) 62 [vi now,vi u] = some ([vi (iC now u)],[vi now,vi u]):=by
 refine eT (cf:=ZE) rfl ?_
 cases h:gJ now u with
 | false =>
  have e:iC now u = 0:=by unfold iC;rw [h];rfl
  rw [e]
  simp only [ZE,jG,h,go_sem,Nat.reduceAdd,Nat.reduceMul,Nat.reduceEqDiff,Nat.reduceBEq,Nat.reduceMod,Nat.reduceDiv,↓reduceIte,reduceCtorEq]
 | true =>
  have e:iC now u = if 604800 < u - now then 604800 else u - now:=by unfold iC;rw [h];rfl
  have hw:=Pq h hu
  rw [e]
  simp only [ZE,jG,h,hw,go_sem,Nat.reduceAdd,Nat.reduceMul,Nat.reduceEqDiff,Nat.reduceBEq,Nat.reduceMod,Nat.reduceDiv,↓reduceIte,reduceCtorEq]
theorem D7 (r:Int):G ext F (n + 2) 61 [vi r] = some ([vb (F4 r)],[vi r]):=by
 refine eT (cf:=c61) rfl ?_
 simp only [c61,FM,go_sem,Nat.reduceAdd,Nat.reduceMul,Nat.reduceEqDiff,Nat.reduceBEq,Nat.reduceMod,Nat.reduceDiv,↓reduceIte,reduceCtorEq]
 all_goals (simp [F4])
structure kV where
 s:Se
 left:Int
def BU : Se:=⟨⟨#[]⟩,0,0,[],0⟩
def kY : kV:=⟨BU,0⟩
structure Ch where
 hits:List kV
 e:Int
 nm:ByteArray
 oK:kV
def rH (x:kV):List FV:=[.str x.s.q,.int .i64 x.s.t,.int .i64 x.s.c,.sl (x.s.d.map fC),.int .i64 x.s.ttl,.int .i64 x.left]
abbrev kV.v (x:kV):AV:=.agg [.f (.str x.s.q),.f (.int .i64 x.s.t),.f (.int .i64 x.s.c),.f (.sl (x.s.d.map fC)),.f (.int .i64 x.s.ttl),.f (.int .i64 x.left)]
abbrev Ch.v (x:Ch):AV:=.agg [.f (.sl (x.hits.map rH)),.f (.int .i64 x.e),.f (.str x.nm),.f (.str x.oK.s.q),.f (.int .i64 x.oK.s.t),.f (.int .i64 x.oK.s.c),.f (.sl (x.oK.s.d.map fC)),.f (.int .i64 x.oK.s.ttl),.f (.int .i64 x.oK.left)]
def tl (pk:Qn → It × Bool) (now:Int) (q:Qn):Option kV:=if (pk q).2 = true ∧ F4 (pk q).1.r = true then some ⟨⟨(pk q).1.q,(pk q).1.t,(pk q).1.c,(pk q).1.d,(pk q).1.ttl⟩,iC now (pk q).1.u⟩ else none
def tg (nm:Int → ByteArray → List ByteArray) (s:Se):Option ByteArray:=if s.t = 5 then s.d.head?.bind fun d=>(nm 5 d).head? else none
def al (nm:Int → ByteArray → List ByteArray) (pk:Qn → It × Bool) (now:Int) (q:Qn):Option (kV × ByteArray):=if q.t = 5 then none else (tl pk now ⟨q.q,5,q.c⟩).bind fun h=>(tg nm h.s).map fun to=>(h,to)
def fin (fd:Qn → Ne.Nt × Bool) (now:Int) (hits:List kV) (q:Qn):Ch:=if (fd q).2 = true then ⟨hits,if (fd q).1.nx = true then 2 else 1,q.q,⟨(fd q).1.s,iC now (fd q).1.u⟩⟩ else ⟨hits,3,q.q,kY⟩
def Jw (nm:Int → ByteArray → List ByteArray) (pk:Qn → It × Bool) (fd:Qn → Ne.Nt × Bool) (now:Int):Nat → List ByteArray → List kV → Qn → Ch
 | 0,_,hits,q=>⟨hits,4,q.q,kY⟩
 | f + 1,met,hits,q=>match tl pk now q with
  | some h=>⟨hits ++ [h],0,q.q,kY⟩
  | none=>match al nm pk now q with
   | none=>fin fd now hits q
   | some (h,to)=>if 8 ≤ hits.length ∨ wQ met to = true then ⟨hits ++ [h],4,q.q,kY⟩ else Jw nm pk fd now f (met ++ [to]) (hits ++ [h]) ⟨to,q.t,q.c⟩
def yE (nm:Int → ByteArray → List ByteArray) (pk:Qn → It × Bool) (fd:Qn → Ne.Nt × Bool) (now:Int) (q:Qn):Ch:=Jw nm pk fd now 9 [q.q] [] q
end Go.Proofs.Ytfokaoeinpnagaa.Kc
set_option maxRecDepth 4000
namespace Go.Proofs.Ytfokaoeinpnagaa.Kc
open Go Ev
variable {ext : Env} {F n:Nat} {θ:Th} {nm:Int → ByteArray → List ByteArray}
structure BX (nm:Int → ByteArray → List ByteArray) (ext:Env):Prop where
 n0:∀ k q,q.size ≤ 1000000 → ext 29 [vi k,vs q] = some ([vl ((nm k q).map fC)],[vi k,vs q])
 n1:∀ k q,q.size ≤ 1000000 → ext 30 [vi k,vs q] = some ([vl ((nm k q).map fC)],[vi k,vs q])
theorem ZT (M:BX nm ext) (k:Int) (q:ByteArray) (h:q.size ≤ 1000000):G ext F (n + 1) 29 [vi k,vs q] = some ([vl ((nm k q).map fC)],[vi k,vs q]):=(congrFun (nZ rfl) _).trans (M.n0 k q h)
def wR (nm:Int → ByteArray → List ByteArray) (s:Se):ByteArray × Bool:=match tg nm s with
 | some x=>(x,true)
 | none=>(⟨#[]⟩,false)
theorem Mg {s:Se} (h:s.t ≠ 5):wR nm s = (⟨#[]⟩,false):=by unfold wR tg;rw [if_neg h]
theorem VD {s:Se} (h:s.d = []):wR nm s = (⟨#[]⟩,false):=by unfold wR tg;rw [h];by_cases h5:s.t = 5 <;> simp [h5]
theorem Pv {s:Se} {y:ByteArray} {d:List ByteArray} (h5:s.t = 5) (h:s.d = y :: d) (hn:nm 5 y = []):wR nm s = (⟨#[]⟩,false):=by unfold wR tg;rw [if_pos h5,h];show (match ((nm 5 y).head?:Option ByteArray) with | some x=>(x,true) | none=>(⟨#[]⟩,false)) = _;rw [hn];rfl
theorem Pw {s:Se} {y z:ByteArray} {d l:List ByteArray} (h5:s.t = 5) (h:s.d = y :: d) (hn:nm 5 y = z :: l):wR nm s = (z,true):=by unfold wR tg;rw [if_pos h5,h];show (match ((nm 5 y).head?:Option ByteArray) with | some x=>(x,true) | none=>(⟨#[]⟩,false)) = _;rw [hn];rfl
theorem uT (M:BX nm ext) (s:Se) (hd:∀ y ∈ s.d,y.size ≤ 1000000):G ext F (n + 2) 10 [s.v] = some ([vs (wR nm s).1,vb (wR nm s).2],[s.v]):=by
 refine eT (cf:=c10) rfl ?_
 by_cases h5:s.t = 5
 ·have h5':decide (s.t = 5) = true:=decide_eq_true h5
  cases hy:s.d with
  | nil =>
   rw [VD hy]
   simp only [Se.v,uP,hy,List.map_nil]
   simp only [c10,h5',List.length_nil,show decide (((0:Nat):Int) = 0) = true from rfl,go_sem,Nat.reduceAdd,Nat.reduceMul,Nat.reduceEqDiff,Nat.reduceBEq,Nat.reduceMod,Nat.reduceDiv,↓reduceIte,reduceCtorEq]
   simp [hy]
  | cons y ds =>
   have hlen:decide ((((List.map fC ds).length + 1:Nat):Int) = 0) = false:=by simp;omega
   have h1:=fun n=>ZT (F:=F) (n:=n) M 5 y (hd y (by rw [hy];simp))
   cases hz:nm 5 y with
   | nil =>
    rw [Pv h5 hy hz]
    rw [hz] at h1
    simp only [Se.v,uP,hy,List.map_cons,List.map_nil,fC] at h1 ⊢
    simp only [c10,h5',hlen,h1,List.getElem?_cons_zero,Int.toNat_zero,List.length_nil,show decide (((0:Nat):Int) = 0) = true from rfl,go_sem,Nat.reduceAdd,Nat.reduceMul,Nat.reduceEqDiff,Nat.reduceBEq,Nat.reduceMod,Nat.reduceDiv,↓reduceIte,reduceCtorEq]
    exact ⟨Int.le_refl _,by simp [hy,fC]⟩
   | cons z zs =>
    rw [Pw h5 hy hz]
    rw [hz] at h1
    have ZU:decide ((((List.map fC zs).length + 1:Nat):Int) = 0) = false:=by simp;omega
    simp only [Se.v,uP,hy,List.map_cons,fC] at h1 ⊢
    simp only [c10,h5',hlen,ZU,h1,List.getElem?_cons_zero,Int.toNat_zero,go_sem,Nat.reduceAdd,Nat.reduceMul,Nat.reduceEqDiff,Nat.reduceBEq,Nat.reduceMod,Nat.reduceDiv,↓reduceIte,reduceCtorEq]
    exact ⟨Int.le_refl _,Int.le_refl _,by simp [hy,fC]⟩
 ·have h5':decide (s.t = 5) = false:=decide_eq_false h5
  rw [Mg h5]
  simp only [c10,h5',go_sem,Nat.reduceAdd,Nat.reduceMul,Nat.reduceEqDiff,Nat.reduceBEq,Nat.reduceMod,Nat.reduceDiv,↓reduceIte,reduceCtorEq]
abbrev Sv.tv (s:Sv):TV:=.ptr [.f (.int .i64 s.room),.mp C9 (s.m.map ent),.f (.sl (s.o.map rQ)),.f (.int .i64 s.ch)]
abbrev nvt (s:Ne.Nv):TV:=.ptr [.f (.int .i64 s.room),.mp Ne.C9 (s.m.map Ne.ent),.f (.sl (s.o.map rQ)),.f (.int .i64 s.ch)]
abbrev XO (s:Sv) (m:Ne.Nv) (now:Int):AV:=.agg [s.tv,nvt m,.f (.int .i64 now)]
def Hy (pk:Qn → It × Bool) (now:Int) (q:Qn):kV × Bool:=match tl pk now q with
 | some h=>(h,true)
 | none=>(kY,false)
theorem D8 (C:nM ext) (s:Sv) (m:Ne.Nv) (now:Int) (q:Qn) (hd:∀ x ∈ s.m,x.d.length ≤ 1000000) (hu:∀ x ∈ s.m,x.u ≤ 4611686018427387904):G ext F (n + 4) 34 [XO s m now,q.v] = some ([(Hy (cZ s now) now q).1.v,vb (Hy (cZ s now) now q).2],[XO s m now,q.v]):=by
 refine eT (cf:=c34) rfl ?_
 have h1:=fun n=>Pj (ext:=ext) (F:=F) (n:=n) C s now q hd
 have hlu:=fun n=>Hw (ext:=ext) (F:=F) (n:=n) now (cZ s now q).1.u (by
  unfold cZ
  split
  ·rename_i x ho
   split
   ·exact hu x (lY ho).2
   ·show (0:Int) ≤ _;omega
  ·show (0:Int) ≤ _;omega)
 unfold Hy tl
 cases hv:(cZ s now q).2 with
 | false =>
  rw [hv] at h1
  simp only [c34,h1,go_sem,Nat.reduceAdd,Nat.reduceMul,Nat.reduceEqDiff,Nat.reduceBEq,Nat.reduceMod,Nat.reduceDiv,↓reduceIte,reduceCtorEq]
  rfl
 | true =>
  rw [hv] at h1
  cases ht:F4 (cZ s now q).1.r with
  | false =>
   simp only [c34,h1,D7,ht,go_sem,Nat.reduceAdd,Nat.reduceMul,Nat.reduceEqDiff,Nat.reduceBEq,Nat.reduceMod,Nat.reduceDiv,↓reduceIte,reduceCtorEq]
   rfl
  | true =>
   simp only [c34,h1,D7,ht,hlu,go_sem,Nat.reduceAdd,Nat.reduceMul,Nat.reduceEqDiff,Nat.reduceBEq,Nat.reduceMod,Nat.reduceDiv,↓reduceIte,reduceCtorEq]
def Ta (nm:Int → ByteArray → List ByteArray) (pk:Qn → It × Bool) (now:Int) (q:Qn):kV × (ByteArray × Bool):=if q.t = 5 then (kY,(⟨#[]⟩,false)) else ((Hy pk now ⟨q.q,5,q.c⟩).1,wR nm (Hy pk now ⟨q.q,5,q.c⟩).1.s)
theorem Mh (M:BX nm ext) (C:nM ext) (s:Sv) (m:Ne.Nv) (now:Int) (q:Qn) (hd:∀ x ∈ s.m,x.d.length ≤ 1000000) (hu:∀ x ∈ s.m,x.u ≤ 4611686018427387904) (hy:∀ x ∈ s.m,∀ y ∈ x.d,y.size ≤ 1000000):G ext F (n + 5) 35 [XO s m now,q.v] = some ([(Ta nm (cZ s now) now q).1.v,vs (Ta nm (cZ s now) now q).2.1,vb (Ta nm (cZ s now) now q).2.2],[XO s m now,q.v]):=by
 refine eT (cf:=SI) rfl ?_
 have h1:=fun n=>D8 (F:=F) (n:=n) C s m now ⟨q.q,5,q.c⟩ hd hu
 have hsz:∀ y ∈ (Hy (cZ s now) now ⟨q.q,5,q.c⟩).1.s.d,y.size ≤ 1000000:=by
  have h0:∀ y ∈ (cZ s now ⟨q.q,5,q.c⟩).1.d,y.size ≤ 1000000:=by
   unfold cZ
   split
   ·rename_i x ho
    split
    ·exact hy x (lY ho).2
    ·intro y h;cases h
   ·intro y h;cases h
  unfold Hy tl
  split
  ·rename_i h he
   split at he
   ·cases he;exact h0
   ·cases he
  ·intro y h;cases h
 have h2:=fun n=>uT (F:=F) (n:=n) M (Hy (cZ s now) now ⟨q.q,5,q.c⟩).1.s hsz
 unfold Ta
 by_cases h5:q.t = 5
 ·have h5':decide (q.t = 5) = true:=decide_eq_true h5
  rw [if_pos h5]
  simp only [SI,h5',go_sem,Nat.reduceAdd,Nat.reduceMul,Nat.reduceEqDiff,Nat.reduceBEq,Nat.reduceMod,Nat.reduceDiv,↓reduceIte,reduceCtorEq]
  try rfl
 ·have h5':decide (q.t = 5) = false:=decide_eq_false h5
  rw [if_neg h5]
  simp only [SI,h5',h1,h2,go_sem,Nat.reduceAdd,Nat.reduceMul,Nat.reduceEqDiff,Nat.reduceBEq,Nat.reduceMod,Nat.reduceDiv,↓reduceIte,reduceCtorEq]
  try rfl
def Mj (fd:Qn → Ne.Nt × Bool) (now:Int) (c:Ch) (q:Qn):Ch:=if (fd q).2 = true then ⟨c.hits,if (fd q).1.nx = true then 2 else 1,c.nm,⟨(fd q).1.s,iC now (fd q).1.u⟩⟩ else ⟨c.hits,3,c.nm,c.oK⟩
theorem Px (C:nM ext) (s:Sv) (m:Ne.Nv) (now:Int) (c:Ch) (q:Qn) (hF:200000000000001 ≤ F) (hd:∀ x ∈ m.m,x.s.d.length ≤ 1000000) (hu:∀ x ∈ m.m,x.u ≤ 4611686018427387904):G ext F (n + 4) 36 [XO s m now,c.v,q.v] = some ([(Mj (Ne.fQ m now) now c q).v],[XO s m now,c.v,q.v]):=by
 refine eT (cf:=Vs) rfl ?_
 have h1:=fun n=>Ne.Md (F:=F) (n:=n) C m now q hF hd
 have hlu:=fun n=>Hw (ext:=ext) (F:=F) (n:=n) now (Ne.fQ m now q).1.u (by
  have h9:∀ b y,Ne.nof m.m now b = some y → y.u ≤ 4611686018427387904:=fun b y hy=>by
   unfold Ne.nof at hy
   split at hy
   ·rename_i y' ho
    split at hy
    ·cases hy;exact hu _ (Ne.lY ho).2
    ·cases hy
   ·cases hy
  unfold Ne.fQ
  split
  ·rename_i y hy;exact h9 _ _ hy
  ·unfold Ne.ofR
   split
   ·rename_i y hy;exact h9 _ _ hy
   ·show (0:Int) ≤ _;omega)
 unfold Mj
 cases hv:(Ne.fQ m now q).2 with
 | false =>
  rw [hv] at h1
  simp only [Vs,h1,go_sem,Nat.reduceAdd,Nat.reduceMul,Nat.reduceEqDiff,Nat.reduceBEq,Nat.reduceMod,Nat.reduceDiv,↓reduceIte,reduceCtorEq]
  try rfl
 | true =>
  rw [hv] at h1
  cases hx:(Ne.fQ m now q).1.nx
  all_goals
   simp only [Vs,h1,hx,hlu,go_sem,Nat.reduceAdd,Nat.reduceMul,Nat.reduceEqDiff,Nat.reduceBEq,Nat.reduceMod,Nat.reduceDiv,↓reduceIte,reduceCtorEq]
   try rfl
end Go.Proofs.Ytfokaoeinpnagaa.Kc
set_option maxRecDepth 4000
namespace Go.Proofs.Ytfokaoeinpnagaa.Kc
open Go Ev
variable {ext : Env} {F n:Nat} {θ:Th} {nm:Int → ByteArray → List ByteArray}
abbrev kV.k (x:kV):Qn:=⟨x.s.q,x.s.t,x.s.c⟩
theorem Mk (c:Ch) (hl:c.hits.length ≤ 1000000) (hF:200000000000001 ≤ F):G ext F (n + 1) 13 [c.v] = some ([vl ((c.hits.map kV.k).map rQ)],[c.v]):=by
 refine eT (cf:=c13) rfl ?_
 simp only [c13,go_sem,Nat.reduceAdd,Nat.reduceMul,Nat.reduceEqDiff,Nat.reduceBEq,Nat.reduceMod,Nat.reduceDiv,↓reduceIte,reduceCtorEq]
 refine jW c.hits.length (fun i=>⟨[(3,PV.c (CV.one (PL.own 80000 (((c.hits.take i).map kV.k).map rQ).length))),(7,PV.c (CV.one (PL.f (FV.sl (c.hits.map rH))))),(8,PV.c (CV.one (PL.f (FV.int .i64 ((c.hits.map rH).length:Nat))))),(9,PV.c (CV.one (PL.f (FV.int .i64 i))))],[(80000,Ob.row 3 (((c.hits.take i).map kV.k).map rQ))]⟩) (fun i=>True) (by omega) rfl trivial (fun i hi hP=>?_) (fun hP=>?_)
 ·obtain ⟨x,hx,hd,ht,h0⟩:=at_ hi
  have hn:=nx hi (by omega)
  have hw:(c.hits.take i).length = i:=by simp;omega
  have hs:((c.hits.take (i + 1)).map kV.k).map rQ = ((c.hits.take i).map kV.k).map rQ ++ [[.str x.s.q,.int .i64 x.s.t,.int .i64 x.s.c]]:=by rw [List.take_add_one,hx];simp [rQ]
  simp only [List.length_map,List.getElem?_map,hd,hx,ht,h0,rH,hw,hn,go_sem,Nat.reduceAdd,Nat.reduceMul,Nat.reduceEqDiff,Nat.reduceBEq,Nat.reduceMod,Nat.reduceDiv,↓reduceIte,reduceCtorEq]
  rw [hs]
  exact ⟨by omega,by simp [hw];omega⟩
 ·have hd:=@end_ _ c.hits
  simp only [List.length_map,hd,go_sem,Nat.reduceAdd,Nat.reduceMul,Nat.reduceEqDiff,Nat.reduceBEq,Nat.reduceMod,Nat.reduceDiv,↓reduceIte,reduceCtorEq]
  rw [List.take_length]
def uU (l:List ByteArray):List (KV × FC):=l.map fun s=>(.one (.str s),.one (.int .i64 1))
theorem Hz (l:List ByteArray) (s:ByteArray):wm (uU l) (.one (.str s)) = l.findIdx? fun x=>decide (x = s):=by
 unfold wm uU
 rw [List.map_map,List.findIdx?_map]
 refine congrArg (fun p=>List.findIdx? p l) (funext fun x=>?_)
 simp only [Function.comp,KV.one.injEq,SV.str.injEq]
theorem Ml {l:List ByteArray} {s:ByteArray} (h:wQ l s = false):q8 (uU l) (.one (.str s)) = none ∧ wo (uU l) (.one (.str s)) (.one (.int .i64 1)) = uU (l ++ [s]):=by
 have:l.findIdx? (fun x=>decide (x = s)) = none:=by
  refine List.findIdx?_eq_none_iff.mpr fun x hx=>?_
  unfold wQ at h
  have:=List.any_eq_false.mp h x hx
  simpa using this
 unfold q8 wo
 rw [Hz,this]
 exact ⟨rfl,by simp [uU]⟩
theorem Py {l:List ByteArray} {s:ByteArray} (h:wQ l s = true):q8 (uU l) (.one (.str s)) = some (.one (.int .i64 1)):=by
 unfold q8
 rw [Hz]
 cases hi:l.findIdx? (fun x=>decide (x = s)) with
 | none =>
  have h1:=List.findIdx?_eq_none_iff.mp hi
  unfold wQ at h
  obtain ⟨x,hx,he⟩:=List.any_eq_true.mp h
  have:=h1 x hx
  rw [he] at this;cases this
 | some i =>
  obtain ⟨hi', -⟩:=List.findIdx?_eq_some_iff_getElem.mp hi
  show ((uU l)[i]?.map fun p=>p.2) = _
  unfold uU
  rw [List.getElem?_map,List.getElem?_eq_getElem hi']
  rfl
theorem Pz {pk:Qn → It × Bool} {now:Int} {q:Qn} (h:al nm pk now q = none):(Ta nm pk now q).2.2 = false:=by
 unfold al at h
 unfold Ta
 split
 ·rfl
 ·rename_i h5
  rw [if_neg h5] at h
  unfold Hy
  cases ht:tl pk now ⟨q.q,5,q.c⟩ with
  | none=>exact congrArg Prod.snd (Mg (nm:=nm) (s:=kY.s) (by decide))
  | some x =>
   rw [ht] at h
   show (wR nm x.s).2 = false
   unfold wR
   cases hg:tg nm x.s with
   | none=>rfl
   | some to=>rw [Option.bind_some,hg] at h;cases h
theorem PD {pk:Qn → It × Bool} {now:Int} {q:Qn} {x:kV} {to:ByteArray} (h:al nm pk now q = some (x,to)):Ta nm pk now q = (x,(to,true)):=by
 unfold al at h
 unfold Ta
 split at h
 ·cases h
 ·rename_i h5
  rw [if_neg h5]
  obtain ⟨y,h1,h2⟩:=zbm h
  obtain ⟨z,h3,h4⟩:=zmm h2
  cases h4
  unfold Hy
  rw [h1]
  show (x,wR nm x.s) = _
  unfold wR
  rw [h3]
theorem PE {fd:Qn → Ne.Nt × Bool} {now:Int} {hits:List kV} {q:Qn}:Mj fd now ⟨hits,0,q.q,kY⟩ q = fin fd now hits q:=by
 unfold Mj fin;rfl
def fT (s:Sv) (m:Ne.Nv) (now:Int) (M:List ByteArray) (hits:List kV) (pn:ByteArray) (q:Qn):St:=match hits with
 | []=>⟨[(7,PV.c (CV.one (PL.ptr 160000 0))),(8,PV.c (CV.one (PL.ptr 180000 0))),(9,PV.c (CV.one (PL.ptr 200000 0))),(10,PV.c (CV.one (PL.ptr 220000 0))),(11,PV.c (CV.one (PL.mp 440000)))],[(20201,Ob.iM [PL.f (FV.int IntKind.i64 s.room),PL.mp 20205,PL.f (FV.sl (List.map rQ s.o)),PL.f (FV.int IntKind.i64 s.ch)]),(20205,Ob.map C9 (List.map ent s.m)),(40201,Ob.iM [PL.f (FV.int IntKind.i64 m.room),PL.mp 40205,PL.f (FV.sl (List.map rQ m.o)),PL.f (FV.int IntKind.i64 m.ch)]),(40205,Ob.map Ne.C9 (List.map Ne.ent m.m)),(160000,Ob.iM [PL.f (FV.str q.q),PL.f (FV.int IntKind.i64 q.t),PL.f (FV.int IntKind.i64 q.c)]),(180000,Ob.iM [PL.dN,PL.f (FV.int IntKind.i64 0),PL.f (FV.str ⟨#[]⟩),PL.f (FV.str ⟨#[]⟩),PL.f (FV.int IntKind.i64 0),PL.f (FV.int IntKind.i64 0),PL.dN,PL.f (FV.int IntKind.i64 0),PL.f (FV.int IntKind.i64 0)]),(200000,Ob.iM [PL.ptr 20201 0,PL.ptr 40201 0,PL.f (FV.int IntKind.i64 now)]),(220000,Ob.iM [PL.dN,PL.f (FV.int IntKind.i64 0),PL.f (FV.str pn),PL.f (FV.str ⟨#[]⟩),PL.f (FV.int IntKind.i64 0),PL.f (FV.int IntKind.i64 0),PL.dN,PL.f (FV.int IntKind.i64 0),PL.f (FV.int IntKind.i64 0)]),(440000,Ob.map (KS.one SK.str) (uU M))]⟩
 | _=>⟨[(7,PV.c (CV.one (PL.ptr 160000 0))),(8,PV.c (CV.one (PL.ptr 180000 0))),(9,PV.c (CV.one (PL.ptr 200000 0))),(10,PV.c (CV.one (PL.ptr 220000 0))),(11,PV.c (CV.one (PL.mp 440000)))],[(20201,Ob.iM [PL.f (FV.int IntKind.i64 s.room),PL.mp 690004,PL.f (FV.sl (List.map rQ s.o)),PL.f (FV.int IntKind.i64 s.ch)]),(40201,Ob.iM [PL.f (FV.int IntKind.i64 m.room),PL.mp 690204,PL.f (FV.sl (List.map rQ m.o)),PL.f (FV.int IntKind.i64 m.ch)]),(160000,Ob.iM [PL.f (FV.str q.q),PL.f (FV.int IntKind.i64 q.t),PL.f (FV.int IntKind.i64 q.c)]),(180000,Ob.iM [PL.dN,PL.f (FV.int IntKind.i64 0),PL.f (FV.str ⟨#[]⟩),PL.f (FV.str ⟨#[]⟩),PL.f (FV.int IntKind.i64 0),PL.f (FV.int IntKind.i64 0),PL.dN,PL.f (FV.int IntKind.i64 0),PL.f (FV.int IntKind.i64 0)]),(200000,Ob.iM [PL.ptr 20201 0,PL.ptr 40201 0,PL.f (FV.int IntKind.i64 now)]),(220000,Ob.iM [PL.own 1240000 (hits.map rH).length,PL.f (FV.int IntKind.i64 0),PL.f (FV.str pn),PL.f (FV.str ⟨#[]⟩),PL.f (FV.int IntKind.i64 0),PL.f (FV.int IntKind.i64 0),PL.dN,PL.f (FV.int IntKind.i64 0),PL.f (FV.int IntKind.i64 0)]),(440000,Ob.map (KS.one SK.str) (uU M)),(690004,Ob.map C9 (List.map ent s.m)),(690204,Ob.map Ne.C9 (List.map Ne.ent m.m)),(1240000,.row 6 (hits.map rH))]⟩
theorem BZ (s:Sv) (m:Ne.Nv) (now:Int) (M:List ByteArray) (pn:ByteArray) (q:Qn):fT s m now M [] pn q = ⟨[(7,PV.c (CV.one (PL.ptr 160000 0))),(8,PV.c (CV.one (PL.ptr 180000 0))),(9,PV.c (CV.one (PL.ptr 200000 0))),(10,PV.c (CV.one (PL.ptr 220000 0))),(11,PV.c (CV.one (PL.mp 440000)))],[(20201,Ob.iM [PL.f (FV.int IntKind.i64 s.room),PL.mp 20205,PL.f (FV.sl (List.map rQ s.o)),PL.f (FV.int IntKind.i64 s.ch)]),(20205,Ob.map C9 (List.map ent s.m)),(40201,Ob.iM [PL.f (FV.int IntKind.i64 m.room),PL.mp 40205,PL.f (FV.sl (List.map rQ m.o)),PL.f (FV.int IntKind.i64 m.ch)]),(40205,Ob.map Ne.C9 (List.map Ne.ent m.m)),(160000,Ob.iM [PL.f (FV.str q.q),PL.f (FV.int IntKind.i64 q.t),PL.f (FV.int IntKind.i64 q.c)]),(180000,Ob.iM [PL.dN,PL.f (FV.int IntKind.i64 0),PL.f (FV.str ⟨#[]⟩),PL.f (FV.str ⟨#[]⟩),PL.f (FV.int IntKind.i64 0),PL.f (FV.int IntKind.i64 0),PL.dN,PL.f (FV.int IntKind.i64 0),PL.f (FV.int IntKind.i64 0)]),(200000,Ob.iM [PL.ptr 20201 0,PL.ptr 40201 0,PL.f (FV.int IntKind.i64 now)]),(220000,Ob.iM [PL.dN,PL.f (FV.int IntKind.i64 0),PL.f (FV.str pn),PL.f (FV.str ⟨#[]⟩),PL.f (FV.int IntKind.i64 0),PL.f (FV.int IntKind.i64 0),PL.dN,PL.f (FV.int IntKind.i64 0),PL.f (FV.int IntKind.i64 0)]),(440000,Ob.map (KS.one SK.str) (uU M))]⟩:=rfl
theorem ql (s:Sv) (m:Ne.Nv) (now:Int) (M:List ByteArray) (hits:List kV) (pn:ByteArray) (q:Qn) (h:hits ≠ []):fT s m now M hits pn q = ⟨[(7,PV.c (CV.one (PL.ptr 160000 0))),(8,PV.c (CV.one (PL.ptr 180000 0))),(9,PV.c (CV.one (PL.ptr 200000 0))),(10,PV.c (CV.one (PL.ptr 220000 0))),(11,PV.c (CV.one (PL.mp 440000)))],[(20201,Ob.iM [PL.f (FV.int IntKind.i64 s.room),PL.mp 690004,PL.f (FV.sl (List.map rQ s.o)),PL.f (FV.int IntKind.i64 s.ch)]),(40201,Ob.iM [PL.f (FV.int IntKind.i64 m.room),PL.mp 690204,PL.f (FV.sl (List.map rQ m.o)),PL.f (FV.int IntKind.i64 m.ch)]),(160000,Ob.iM [PL.f (FV.str q.q),PL.f (FV.int IntKind.i64 q.t),PL.f (FV.int IntKind.i64 q.c)]),(180000,Ob.iM [PL.dN,PL.f (FV.int IntKind.i64 0),PL.f (FV.str ⟨#[]⟩),PL.f (FV.str ⟨#[]⟩),PL.f (FV.int IntKind.i64 0),PL.f (FV.int IntKind.i64 0),PL.dN,PL.f (FV.int IntKind.i64 0),PL.f (FV.int IntKind.i64 0)]),(200000,Ob.iM [PL.ptr 20201 0,PL.ptr 40201 0,PL.f (FV.int IntKind.i64 now)]),(220000,Ob.iM [PL.own 1240000 (hits.map rH).length,PL.f (FV.int IntKind.i64 0),PL.f (FV.str pn),PL.f (FV.str ⟨#[]⟩),PL.f (FV.int IntKind.i64 0),PL.f (FV.int IntKind.i64 0),PL.dN,PL.f (FV.int IntKind.i64 0),PL.f (FV.int IntKind.i64 0)]),(440000,Ob.map (KS.one SK.str) (uU M)),(690004,Ob.map C9 (List.map ent s.m)),(690204,Ob.map Ne.C9 (List.map Ne.ent m.m)),(1240000,.row 6 (hits.map rH))]⟩:=by
 cases hits with
 | nil=>exact absurd rfl h
 | cons a l=>rfl
theorem yF (hits:List kV):hits = [] ∨ hits ≠ []:=by cases hits <;> simp
set_option maxHeartbeats 16000000 in
theorem nP (O:BX nm ext) (C:nM ext) (hF:200000000000001 ≤ F) (s:Sv) (m:Ne.Nv) (now:Int) (q:Qn) (hd:∀ x ∈ s.m,x.d.length ≤ 1000000) (hu:∀ x ∈ s.m,x.u ≤ 4611686018427387904) (hy:∀ x ∈ s.m,∀ y ∈ x.d,y.size ≤ 1000000) (hd2:∀ x ∈ m.m,x.s.d.length ≤ 1000000) (hu2:∀ x ∈ m.m,x.u ≤ 4611686018427387904) :
  G ext F (n + 6) 19 [s.v,m.v,vi now,q.v] = some ([(yE nm (cZ s now) (Ne.fQ m now) now q).v],[s.v,m.v,vi now,q.v]):=by
 refine eT (cf:=c19) rfl ?_
 generalize hres:yE nm (cZ s now) (Ne.fQ m now) now q = R
 simp only [c19,go_sem,Nat.reduceAdd,Nat.reduceMul,Nat.reduceEqDiff,Nat.reduceBEq,Nat.reduceMod,Nat.reduceDiv,↓reduceIte,reduceCtorEq]
 refine LV 9 (fun x:List ByteArray × List kV × ByteArray × ByteArray=>fT s m now x.1 x.2.1 x.2.2.1 ⟨x.2.2.2,q.t,q.c⟩) (fun i x=>x.2.1.length = i ∧ i < 9 ∧ wQ x.1 x.2.2.2 = false ∧ Jw nm (cZ s now) (Ne.fQ m now) now (9 - i) (x.1 ++ [x.2.2.2]) x.2.1 ⟨x.2.2.2,q.t,q.c⟩ = R) (by omega) ([],[],⟨#[]⟩,q.q) rfl ⟨rfl,by omega,rfl,hres⟩ (fun i x hi hP=>?_) (fun x hP=>absurd hP.2.1 (by omega))
 obtain ⟨M,hits,pn,Ao⟩:=x
 obtain ⟨hlen, -,hm,hf⟩:=hP
 simp only at hlen hm hf ⊢
 obtain ⟨f,hf9⟩:∃ f,9 - i = f + 1:=⟨8 - i,by omega⟩
 rw [hf9] at hf
 obtain ⟨k1,k2⟩:=Ml hm
 have hw1:IntKind.i64.wrap (0 + 1) = 1:=by decide
 have t1:=fun n=>D8 (F:=F) (n:=n) C s m now ⟨Ao,q.t,q.c⟩ hd hu
 have a1:=fun n=>Mh (F:=F) (n:=n) O C s m now ⟨Ao,q.t,q.c⟩ hd hu hy
 have e1:=fun n=>Px (F:=F) (n:=n) C s m now ⟨hits,0,Ao,kY⟩ ⟨Ao,q.t,q.c⟩ hF hd2 hu2
 rw [show Mj (Ne.fQ m now) now ⟨hits,0,Ao,kY⟩ ⟨Ao,q.t,q.c⟩ = fin (Ne.fQ m now) now hits ⟨Ao,q.t,q.c⟩ from PE (q:=⟨Ao,q.t,q.c⟩)] at e1
 simp only [Ch.v,kY,BU,List.map_nil] at e1
 unfold Jw at hf
 have hsz:(((hits.map rH).length:Nat) + 1) * 72 ≤ 140737488355328:=by rw [List.length_map];omega
 cases h1:tl (cZ s now) now ⟨Ao,q.t,q.c⟩ with
 | some h =>
  have et:Hy (cZ s now) now ⟨Ao,q.t,q.c⟩ = (h,true):=by unfold Hy;rw [h1]
  rw [et] at t1
  rw [h1] at hf
  subst hf
  rcases yF hits with rfl | g1
  ·rw [BZ]
   simp only [k1,k2,hw1,t1,Option.getD_none,go_sem,Nat.reduceAdd,Nat.reduceMul,Nat.reduceEqDiff,Nat.reduceBEq,Nat.reduceMod,Nat.reduceDiv,↓reduceIte,reduceCtorEq]
   exact ⟨by decide,rfl⟩
  ·rw [ql _ _ _ _ _ _ _ g1]
   simp only [k1,k2,hw1,t1,Option.getD_none,hsz,go_sem,Nat.reduceAdd,Nat.reduceMul,Nat.reduceEqDiff,Nat.reduceBEq,Nat.reduceMod,Nat.reduceDiv,↓reduceIte,reduceCtorEq]
   simp [rH,kY,BU]
 | none =>
  have et:Hy (cZ s now) now ⟨Ao,q.t,q.c⟩ = (kY,false):=by unfold Hy;rw [h1]
  rw [et] at t1
  rw [h1] at hf
  simp only [kY,BU,List.map_nil] at t1
  cases h2:al nm (cZ s now) now ⟨Ao,q.t,q.c⟩ with
  | none =>
   have ea:=Pz h2
   rw [h2] at hf
   subst hf
   rw [ea] at a1
   rcases yF hits with rfl | g1
   ·rw [BZ]
    simp only [List.map_nil] at e1
    simp only [k1,k2,hw1,t1,a1,e1,Option.getD_none,go_sem,Nat.reduceAdd,Nat.reduceMul,Nat.reduceEqDiff,Nat.reduceBEq,Nat.reduceMod,Nat.reduceDiv,↓reduceIte,reduceCtorEq]
   ·rw [ql _ _ _ _ _ _ _ g1]
    simp only [k1,k2,hw1,t1,a1,e1,Option.getD_none,go_sem,Nat.reduceAdd,Nat.reduceMul,Nat.reduceEqDiff,Nat.reduceBEq,Nat.reduceMod,Nat.reduceDiv,↓reduceIte,reduceCtorEq]
  | some p =>
   obtain ⟨h,to⟩:=p
   rw [PD h2] at a1
   rw [h2] at hf
   simp only at hf
   have hml:((hits ++ [h]).map rH) = hits.map rH ++ [[FV.str h.s.q,FV.int IntKind.i64 h.s.t,FV.int IntKind.i64 h.s.c,FV.sl (List.map fC h.s.d),FV.int IntKind.i64 h.s.ttl,FV.int IntKind.i64 h.left]]:=by simp [rH]
   have hll:(hits.map rH).length = hits.length:=List.length_map _
   by_cases h8:8 ≤ hits.length
   ·rw [if_pos (.inl h8)] at hf
    subst hf
    have c8:decide ((8:Int) < (((hits.map rH).length + 1:Nat):Int)) = true:=decide_eq_true (by omega)
    rcases yF hits with rfl | g1
    ·simp at h8
    ·rw [ql _ _ _ _ _ _ _ g1]
     simp only [k1,k2,hw1,t1,a1,Option.getD_none,hsz,c8,go_sem,Nat.reduceAdd,Nat.reduceMul,Nat.reduceEqDiff,Nat.reduceBEq,Nat.reduceMod,Nat.reduceDiv,↓reduceIte,reduceCtorEq]
     simp [rH,kY,BU]
   ·have c8:decide ((8:Int) < (((hits.map rH).length + 1:Nat):Int)) = false:=decide_eq_false (by omega)
    have c8':decide ((8:Int) < ((0 + 1:Nat):Int)) = false:=by decide
    have z1:decide ((0:Int) < 1) = true:=by decide
    have z0:decide ((0:Int) < 0) = false:=by decide
    cases hin:wQ (M ++ [Ao]) to with
    | true =>
     rw [if_pos (.inr hin)] at hf
     subst hf
     have y1:=Py hin
     rcases yF hits with rfl | g1
     ·rw [BZ]
      simp only [k1,k2,hw1,t1,a1,Option.getD_none,Option.getD_some,hsz,c8',y1,z1,List.length_cons,List.length_nil,go_sem,Nat.reduceAdd,Nat.reduceMul,Nat.reduceEqDiff,Nat.reduceBEq,Nat.reduceMod,Nat.reduceDiv,↓reduceIte,reduceCtorEq]
      exact ⟨by decide,rfl⟩
     ·rw [ql _ _ _ _ _ _ _ g1]
      simp only [k1,k2,hw1,t1,a1,Option.getD_none,Option.getD_some,hsz,c8,y1,z1,go_sem,Nat.reduceAdd,Nat.reduceMul,Nat.reduceEqDiff,Nat.reduceBEq,Nat.reduceMod,Nat.reduceDiv,↓reduceIte,reduceCtorEq]
      simp [rH,kY,BU]
    | false =>
     rw [if_neg (by rw [hin];simp;omega)] at hf
     have y1:=(Ml hin).1
     have hnext:(hits ++ [h]).length = i + 1 ∧ i + 1 < 9 ∧ wQ (M ++ [Ao]) to = false ∧ Jw nm (cZ s now) (Ne.fQ m now) now (9 - (i + 1)) (M ++ [Ao] ++ [to]) (hits ++ [h]) ⟨to,q.t,q.c⟩ = R:=⟨by simp;omega,by omega,hin,by rw [show 9 - (i + 1) = f from by omega];exact hf⟩
     have g3:=fun pn' q'=>ql s m now (M ++ [Ao]) (hits ++ [h]) pn' q' (by simp)
     rcases yF hits with rfl | g1
     ·rw [BZ]
      simp only [k1,k2,hw1,t1,a1,Option.getD_none,Option.getD_some,hsz,c8',y1,z0,List.length_cons,List.length_nil,go_sem,Nat.reduceAdd,Nat.reduceMul,Nat.reduceEqDiff,Nat.reduceBEq,Nat.reduceMod,Nat.reduceDiv,↓reduceIte,reduceCtorEq]
      exact ⟨by decide,(M ++ [Ao],[] ++ [h],Ao,to),by rw [g3];rfl,hnext⟩
     ·rw [ql _ _ _ _ _ _ _ g1]
      simp only [k1,k2,hw1,t1,a1,Option.getD_none,Option.getD_some,hsz,c8,y1,z0,go_sem,Nat.reduceAdd,Nat.reduceMul,Nat.reduceEqDiff,Nat.reduceBEq,Nat.reduceMod,Nat.reduceDiv,↓reduceIte,reduceCtorEq]
      exact ⟨(M ++ [Ao],hits ++ [h],Ao,to),by rw [g3,hml];simp,hnext⟩
end Go.Proofs.Ytfokaoeinpnagaa.Kc
namespace Go.Proofs.Ytfokaoeinpnagaa.Kc
open Go Ev
variable {θ : Th} {gt:ByteArray → Int → Int → Int × Bool}
structure Pt where
 now:Int
 s:Se
 r:Int
 k:Qn
def rP (x:Pt):List FV:=[.int .i64 x.now,.str x.s.q,.int .i64 x.s.t,.int .i64 x.s.c,.sl (x.s.d.map fC),.int .i64 x.s.ttl,.int .i64 x.r,.str x.k.q,.int .i64 x.k.t,.int .i64 x.k.c]
abbrev Pt.v (x:Pt):AV:=.agg [.f (.int .i64 x.now),.f (.str x.s.q),.f (.int .i64 x.s.t),.f (.int .i64 x.s.c),.f (.sl (x.s.d.map fC)),.f (.int .i64 x.s.ttl),.f (.int .i64 x.r),.f (.str x.k.q),.f (.int .i64 x.k.t),.f (.int .i64 x.k.c)]
def s50 : Sv:=⟨50,[],[],0⟩
def m50 : Ne.Nv:=⟨50,[],[],0⟩
def VE (θ:Th) (gt:ByteArray → Int → Int → Int × Bool) (a:Sv × Ne.Nv) (p:Pt):Sv × Ne.Nv:=if 0 < p.r then ((uQ θ a.1 p.now p.s p.r).1,a.2) else (a.1,(Ne.rG θ gt a.2 p.now p.k (decide (p.r < 0)) p.s).1)
def jM (θ:Th) (gt:ByteArray → Int → Int → Int × Bool) (l:List Pt):Sv × Ne.Nv:=l.foldl (VE θ gt) (s50,m50)
theorem D9 {l:List Pt} {p:Pt} {i:Nat} (h:l[i]? = some p):jM θ gt (l.take (i + 1)) = VE θ gt (jM θ gt (l.take i)) p:=by
 unfold jM;rw [List.take_add_one,h,List.foldl_append];rfl
theorem uV : ∀ {g:List Qn} {l:List It},(g.foldl rid l).Sublist l
 | [],l=>List.Sublist.refl _
 | a :: g,l=>(uV (g:=g)).trans sU
theorem Mr {l:List It} {x:It}:(upd l x).length ≤ l.length + 1:=by
 rcases rF l x with ⟨-,hu⟩ | ⟨a,y,c,rfl, -, -,hu⟩ <;> rw [hu] <;> simp
theorem Ms {l:List It} {x y:It} (h:y ∈ upd l x):y = x ∨ y ∈ l:=by
 rcases rF l x with ⟨-,hu⟩ | ⟨a,z,c,rfl, -, -,hu⟩ <;> rw [hu] at h <;> simp at h ⊢
 ·rcases h with h | h <;> simp [h]
 ·rcases h with h | h | h <;> simp [h]
theorem vL : ∀ {g:List Qn} {l:List It},(ks l).Nodup → (ks (g.foldl rid l)).Nodup
 | [],l,h=>h
 | a :: g,l,h=>vL (g:=g) (uR h)
theorem vM : ∀ {g:List Qn} {l:List Ne.Nt},(Ne.ks l).Nodup → (Ne.ks (g.foldl Ne.rid l)).Nodup
 | [],l,h=>h
 | a :: g,l,h=>vM (g:=g) (Ne.uR h)
structure FS (l:List Pt) (i:Nat) (s:Sv):Prop where
 r:s.room = 50
 c:0 ≤ s.ch ∧ s.ch ≤ i
 o:s.o.length ≤ i
 m:s.m.length ≤ i
 it:∀ x ∈ s.m,∃ p ∈ l,0 < p.r ∧ x = p.s.it (fD p.now p.s.ttl) p.r
 l8:(ks s.m).Nodup
structure FN (θ:Th) (gt:ByteArray → Int → Int → Int × Bool) (l:List Pt) (i:Nat) (s:Ne.Nv):Prop where
 r:s.room = 50
 c:0 ≤ s.ch ∧ s.ch ≤ i
 o:s.o.length ≤ i
 m:s.m.length ≤ i
 it:∀ x ∈ s.m,∃ p ∈ l,x.s = p.s ∧ x.u = fD p.now (Ne.wC θ gt p.s).1 ∧ x.k.q = p.k.q
 l8:(Ne.ks s.m).Nodup
theorem FS.up {l:List Pt} {i:Nat} {s:Sv} (h:FS l i s):FS l (i + 1) s:=⟨h.r,by have:=h.c;omega,by have:=h.o;omega,by have:=h.m;omega,h.it,h.l8⟩
theorem FN.up {l:List Pt} {i:Nat} {s:Ne.Nv} (h:FN θ gt l i s):FN θ gt l (i + 1) s:=⟨h.r,by have:=h.c;omega,by have:=h.o;omega,by have:=h.m;omega,h.it,h.l8⟩
theorem FS.put {l:List Pt} {i:Nat} {s:Sv} (h:FS l i s) {p:Pt} (hp:p ∈ l) (h0:0 < p.r):FS l (i + 1) (uQ θ s p.now p.s p.r).1:=by
 have hc:=h.c
 have hq:=@sS s.o p.s.k
 have ho:=h.o
 have hm:=h.m
 have hu:=@Mr s.m (p.s.it (fD p.now p.s.ttl) p.r)
 unfold uQ
 dsimp only
 split
 ·exact h.up
 ·refine ⟨h.r,by show 0 ≤ s.ch + 1 ∧ s.ch + 1 ≤ _;omega,?_,?_,fun y hy=>?_,vL (uS h.l8)⟩
  ·show (List.drop _ _).length ≤ _
   rw [List.length_drop,List.length_append,List.length_singleton];omega
  ·exact Nat.le_trans uV.length_le (by omega)
  ·rcases Ms (uV.subset hy) with rfl | h1
   ·exact ⟨p,hp,h0,rfl⟩
   ·exact h.it y h1
theorem FN.put {l:List Pt} {i:Nat} {s:Ne.Nv} (h:FN θ gt l i s) {p:Pt} (hp:p ∈ l) (b:Bool):FN θ gt l (i + 1) (Ne.rG θ gt s p.now p.k b p.s).1:=by
 have hc:=h.c
 have hq:=@sS s.o (Ne.kn b p.k)
 have ho:=h.o
 have hm:=h.m
 unfold Ne.rG
 split
 ·exact h.up
 split
 ·exact h.up
 have hu:=@Ne.Pm s.m ⟨Ne.kn b p.k,b,p.s,fD p.now (Ne.wC θ gt p.s).1⟩
 refine ⟨h.r,by show 0 ≤ s.ch + 1 ∧ s.ch + 1 ≤ _;omega,?_,?_,fun y hy=>?_,vM (Ne.uS h.l8)⟩
 ·show (List.drop _ _).length ≤ _
  rw [List.length_drop,List.length_append,List.length_singleton];omega
 ·exact Nat.le_trans Ne.yB.length_le (by omega)
 ·rcases Ne.Pn (Ne.yB.subset hy) with rfl | h1
  ·refine ⟨p,hp,rfl,rfl,?_⟩
   show (Ne.kn b p.k).q = _
   unfold Ne.kn;cases b <;> rfl
  ·exact h.it y h1
structure FI (θ:Th) (gt:ByteArray → Int → Int → Int × Bool) (l:List Pt) (i:Nat) (a:Sv × Ne.Nv):Prop where
 s:FS l i a.1
 n:FN θ gt l i a.2
theorem fi0 (l:List Pt):FI θ gt l 0 (s50,m50):=⟨⟨rfl,⟨Int.le_refl _,Int.le_refl _⟩,Nat.le_refl _,Nat.le_refl _,(by intro x hx;cases hx),List.nodup_nil⟩,⟨rfl,⟨Int.le_refl _,Int.le_refl _⟩,Nat.le_refl _,Nat.le_refl _,(by intro x hx;cases hx),List.nodup_nil⟩⟩
theorem FI.VE {l:List Pt} {i:Nat} {a:Sv × Ne.Nv} (h:FI θ gt l i a) {p:Pt} (hp:p ∈ l):FI θ gt l (i + 1) (VE θ gt a p):=by
 unfold Kc.VE
 split
 ·rename_i h0;exact ⟨h.s.put hp h0,h.n.up⟩
 ·exact ⟨h.s.up,h.n.put hp _⟩
theorem fi (l:List Pt):∀ i,i ≤ l.length → FI θ gt l i (jM θ gt (l.take i))
 | 0,_=>fi0 l
 | i + 1,h=>by
  have hi:l[i]? = some l[i]:=List.getElem?_eq_getElem (by omega)
  rw [D9 hi]
  exact (fi l i (by omega)).VE (List.getElem_mem _)
theorem fiA (l:List Pt):FI θ gt l l.length (jM θ gt l):=by
 have:=fi (θ:=θ) (gt:=gt) l l.length (Nat.le_refl _)
 rwa [List.take_length] at this
def wD (l:List Pt):Bool:=l.all fun x=>nE x.s.q x.s.d && decide (x.k.q.size ≤ 300)
theorem Jy {l:List Pt} {x:Pt} {i:Nat} (h:l[i]? = some x):wD (l.take (i + 1)) = (wD (l.take i) && (nE x.s.q x.s.d && decide (x.k.q.size ≤ 300))):=by
 unfold wD
 rw [List.take_add_one,h,List.all_append]
 simp
theorem HV {l:List Pt} {x:Pt} {i:Nat} (h:l[i]? = some x) (hx:(nE x.s.q x.s.d && decide (x.k.q.size ≤ 300)) = false):wD l = false:=by
 unfold wD
 rw [List.all_eq_false]
 exact ⟨x,List.mem_of_getElem? h,by simp only [hx,Bool.false_eq_true,not_false_eq_true]⟩
theorem Jz {q:ByteArray} {d:List ByteArray} (h:nE q d = true):q.size ≤ 300 ∧ d.length ≤ 60 ∧ ∀ y ∈ d,y.size ≤ 2000:=by
 unfold nE DV at h
 rw [Bool.and_eq_true,List.all_eq_true,decide_eq_true_eq] at h
 refine ⟨by omega,?_,fun y hy=>?_⟩
 ·cases hd:d with
  | nil=>simp
  | cons y d' =>
   have:=h.1 y (by rw [hd];simp)
   simp only [Bool.and_eq_true,decide_eq_true_eq] at this
   rw [hd] at this;omega
 ·have:=h.1 y hy
  simp only [Bool.and_eq_true,decide_eq_true_eq] at this
  omega
theorem wS {l:List Pt} {x:Pt} (h:wD l = true) (hx:x ∈ l):x.k.q.size ≤ 1000000 ∧ x.s.q.size ≤ 1000000 ∧ x.s.d.length ≤ 1000000 ∧ ∀ y ∈ x.s.d,y.size ≤ 1000000:=by
 have h1:=List.all_eq_true.mp h x hx
 rw [Bool.and_eq_true,decide_eq_true_eq] at h1
 obtain ⟨a,b,c⟩:=Jz h1.1
 exact ⟨by omega,by omega,by omega,fun y hy=>by have:=c y hy;omega⟩
theorem Ea {now ttl:Int}:fD now ttl ≤ 4611686018427387904:=by
 unfold fD LJ
 split
 ·rename_i h
  simp only [decide_eq_true_eq] at h
  split <;> omega
 ·omega
theorem Ap {now ttl a:Int} (h:now ≤ a) (ha:0 ≤ a):fD now ttl ≤ a + 604800:=by
 unfold fD
 split
 ·split <;> omega
 ·omega
structure FW (a:Sv × Ne.Nv):Prop where
 hd:∀ x ∈ a.1.m,x.d.length ≤ 1000000
 hu:∀ x ∈ a.1.m,x.u ≤ 4611686018427387904
 hy:∀ x ∈ a.1.m,∀ y ∈ x.d,y.size ≤ 1000000
 hd2:∀ x ∈ a.2.m,x.s.d.length ≤ 1000000
 hu2:∀ x ∈ a.2.m,x.u ≤ 4611686018427387904
theorem FI.w {l:List Pt} {i:Nat} {a:Sv × Ne.Nv} (h:FI θ gt l i a) (hf:wD l = true):FW a:=by
 refine ⟨fun x hx=>?_,fun x hx=>?_,fun x hx=>?_,fun x hx=>?_,fun x hx=>?_⟩
 ·obtain ⟨p,hp, -,rfl⟩:=h.s.it x hx;exact (wS hf hp).2.2.1
 ·obtain ⟨p,hp, -,rfl⟩:=h.s.it x hx;exact Ea
 ·obtain ⟨p,hp, -,rfl⟩:=h.s.it x hx;exact (wS hf hp).2.2.2
 ·obtain ⟨p,hp,h1, -⟩:=h.n.it x hx;rw [h1];exact (wS hf hp).2.2.1
 ·obtain ⟨p,hp, -,h1, -⟩:=h.n.it x hx;rw [h1];exact Ea
theorem sW {s:Sv} {now:Int} {k:Qn} (h:(cZ s now k).2 = true):(cZ s now k).1 ∈ s.m ∧ (cZ s now k).1.k = k ∧ gJ now (cZ s now k).1.u = true:=by
 unfold cZ at h ⊢
 cases ho:old s.m k with
 | none=>rw [ho] at h;cases h
 | some x =>
  rw [ho] at h
  dsimp only at h ⊢
  cases hl:gJ now x.u with
  | false=>rw [hl] at h;cases h
  | true=>exact ⟨(lY ho).2,(lY ho).1,hl⟩
end Go.Proofs.Ytfokaoeinpnagaa.Kc
namespace Go.Proofs.Ytfokaoeinpnagaa.Kc
open Go Ev
variable {nm : Int → ByteArray → List ByteArray}
def zL : List Int → Int
 | []=>0
 | a :: l=>l.foldl min a
theorem VF : ∀ (l:List Int) (a:Int),l.foldl min a ≤ a ∧ (∀ x ∈ l,l.foldl min a ≤ x) ∧ (l.foldl min a = a ∨ l.foldl min a ∈ l)
 | [],a=>⟨Int.le_refl _,by simp,.inl rfl⟩
 | b :: l,a=>by
  obtain ⟨h1,h2,h3⟩:=VF l (min a b)
  rw [List.foldl_cons]
  refine ⟨by omega,fun x hx=>?_,?_⟩
  ·rcases List.mem_cons.mp hx with rfl | hx
   ·omega
   ·exact h2 x hx
  ·rcases h3 with h | h
   ·by_cases hab:a ≤ b
    ·exact .inl (by rw [h];omega)
    ·exact .inr (by rw [h,show min a b = b from by omega];simp)
   ·exact .inr (List.mem_cons_of_mem _ h)
theorem F5 {l:List Int} {x:Int} (h:x ∈ l):zL l ≤ x:=by
 cases l with
 | nil=>cases h
 | cons a l =>
  obtain ⟨h1,h2, -⟩:=VF l a
  rcases List.mem_cons.mp h with rfl | h
  ·exact h1
  ·exact h2 x h
theorem H6 {l:List Int} (h:l ≠ []):zL l ∈ l:=by
 cases l with
 | nil=>exact absurd rfl h
 | cons a l =>
  obtain ⟨-, -,h3⟩:=VF l a
  show l.foldl min a ∈ _
  rcases h3 with h | h
  ·rw [h];simp
  ·exact List.mem_cons_of_mem _ h
theorem PG {l:List Int} (d:Int) (h:l ≠ []):zL (l.map fun x=>x - d) = zL l - d:=by
 have h1:=H6 h
 have h2:zL (l.map fun x=>x - d) ∈ l.map fun x=>x - d:=H6 (by simpa using h)
 have h3:zL (l.map fun x=>x - d) ≤ zL l - d:=F5 (List.mem_map.mpr ⟨_,h1,rfl⟩)
 obtain ⟨y,hy,he⟩:=List.mem_map.mp h2
 have h4:=F5 hy
 omega
def lefts (c:Ch):List Int:=c.hits.map kV.left ++ if c.e = 1 ∨ c.e = 2 then [c.oK.left] else []
theorem uW {a d u:Int} (ha:0 ≤ a) (hd:0 ≤ d) (h:gJ (a + d) u = true):gJ a u = true:=by
 unfold gJ LJ at *
 simp only [Bool.and_eq_true,decide_eq_true_eq] at *
 omega
theorem Ca {a d u:Int} (ha:0 ≤ a) (hd:0 ≤ d) (hb:a + d ≤ 1099511627776) (h:gJ a u = true) (hc:u ≤ a + 604800) (hl:d < iC a u):gJ (a + d) u = true ∧ iC (a + d) u = iC a u - d:=by
 have e:iC a u = u - a:=by
  unfold iC
  rw [if_pos h,if_neg (by omega)]
 rw [e] at hl
 have h2:gJ (a + d) u = true:=by
  unfold gJ LJ
  simp only [Bool.and_eq_true,decide_eq_true_eq]
  omega
 refine ⟨h2,?_⟩
 rw [e]
 unfold iC
 rw [if_pos h2,if_neg (by omega)]
 omega
def sub (d:Int) (h:kV):kV:=⟨h.s,h.left - d⟩
structure Later (pk Da:Qn → It × Bool) (fd F6:Qn → Ne.Nt × Bool) (a d:Int):Prop where
 no:∀ q,tl pk a q = none → tl Da (a + d) q = none
 yes:∀ q h,tl pk a q = some h → tl Da (a + d) q = none ∨ tl Da (a + d) q = some (sub d h)
 on:∀ q h,tl pk a q = some h → d < h.left → tl Da (a + d) q = some (sub d h)
 fd:∀ q,(fd q).2 = true → d < iC a (fd q).1.u → (F6 q).2 = true ∧ (F6 q).1 = (fd q).1 ∧ iC (a + d) (fd q).1.u = iC a (fd q).1.u - d
theorem ZV {pk Da:Qn → It × Bool} {fd F6:Qn → Ne.Nt × Bool} {a d:Int} (L:Later pk Da fd F6 a d) {q:Qn} (h:al nm pk a q = none):al nm Da (a + d) q = none:=by
 unfold al at h ⊢
 split
 ·rfl
 ·rename_i h5
  rw [if_neg h5] at h
  cases ht:tl pk a ⟨q.q,5,q.c⟩ with
  | none=>rw [L.no _ ht];rfl
  | some x =>
   rw [ht,Option.bind_some,Option.map_eq_none_iff] at h
   rcases L.yes _ _ ht with h1 | h1
   ·rw [h1];rfl
   ·rw [h1,Option.bind_some,Option.map_eq_none_iff];exact h
theorem ZW {pk Da:Qn → It × Bool} {fd F6:Qn → Ne.Nt × Bool} {a d:Int} (L:Later pk Da fd F6 a d) {q:Qn} {x:kV} {to:ByteArray} (h:al nm pk a q = some (x,to)) (hd:d < x.left):al nm Da (a + d) q = some (sub d x,to):=by
 unfold al at h ⊢
 split at h
 ·cases h
 ·rename_i h5
  rw [if_neg h5]
  obtain ⟨y,h1,h2⟩:=zbm h
  obtain ⟨z,h3,h4⟩:=zmm h2
  cases h4
  rw [L.on _ _ h1 hd,Option.bind_some]
  show (tg nm x.s).map _ = _
  rw [h3];rfl
theorem H7 {pk:Qn → It × Bool} {fd:Qn → Ne.Nt × Bool} {a:Int}:∀ (f:Nat) (met:List ByteArray) (hits:List kV) (q:Qn),∃ l,(Jw nm pk fd a f met hits q).hits = hits ++ l
 | 0,met,hits,q=>⟨[],by unfold Jw;simp⟩
 | f + 1,met,hits,q=>by
  unfold Jw
  cases h1:tl pk a q with
  | some h=>exact ⟨[h],rfl⟩
  | none =>
   cases h2:al nm pk a q with
   | none =>
    refine ⟨[],?_⟩
    show (fin fd a hits q).hits = _
    unfold fin
    split <;> simp
   | some p =>
    obtain ⟨h,to⟩:=p
    dsimp only
    split
    ·exact ⟨[h],rfl⟩
    ·obtain ⟨l,hl⟩:=H7 (pk:=pk) (fd:=fd) (a:=a) f (met ++ [to]) (hits ++ [h]) ⟨to,q.t,q.c⟩
     exact ⟨h :: l,by rw [hl];simp⟩
theorem Mt {pk Da:Qn → It × Bool} {fd F6:Qn → Ne.Nt × Bool} {a d:Int} (L:Later pk Da fd F6 a d):∀ (f:Nat) (met:List ByteArray) (hits:List kV) (q:Qn) (c:Ch),Jw nm pk fd a f met hits q = c → c.e ≠ 3 → c.e ≠ 4 → (∀ h ∈ c.hits,d < h.left) → (c.e ≠ 0 → d < c.oK.left) →
  Jw nm Da F6 (a + d) f met (hits.map (sub d)) q = ⟨c.hits.map (sub d),c.e,c.nm,if c.e = 0 then c.oK else sub d c.oK⟩
 | 0,met,hits,q,c,hc,h3,h4,_,_=>by subst hc;exact absurd rfl h4
 | f + 1,met,hits,q,c,hc,h3,h4,hh,hs=>by
  unfold Jw at hc ⊢
  cases h1:tl pk a q with
  | some h =>
   rw [h1] at hc
   subst hc
   rw [L.on _ _ h1 (hh h (by simp))]
   simp
  | none =>
   rw [h1] at hc
   rw [L.no _ h1]
   cases h2:al nm pk a q with
   | none =>
    rw [h2] at hc
    rw [ZV L h2]
    simp only at hc ⊢
    cases hf:(fd q).2 with
    | false =>
     have hfin:fin fd a hits q = ⟨hits,3,q.q,kY⟩:=by unfold fin;rw [if_neg (by rw [hf];decide)]
     rw [hfin] at hc;subst hc;exact absurd rfl h3
    | true =>
     have hfin:fin fd a hits q = ⟨hits,if (fd q).1.nx = true then 2 else 1,q.q,⟨(fd q).1.s,iC a (fd q).1.u⟩⟩:=by unfold fin;rw [if_pos hf]
     rw [hfin] at hc
     subst hc
     have he:(if (fd q).1.nx = true then (2:Int) else 1) ≠ 0:=by split <;> omega
     obtain ⟨k1,k2,k3⟩:=L.fd q hf (hs he)
     have ZX:fin F6 (a + d) (hits.map (sub d)) q = ⟨hits.map (sub d),if (fd q).1.nx = true then 2 else 1,q.q,⟨(fd q).1.s,iC (a + d) (fd q).1.u⟩⟩:=by unfold fin;rw [if_pos k1,k2]
     rw [ZX,k3]
     simp only [he,if_false]
     rfl
   | some p =>
    obtain ⟨h,to⟩:=p
    rw [h2] at hc
    simp only at hc
    by_cases hm:8 ≤ hits.length ∨ wQ met to = true
    ·rw [if_pos hm] at hc;subst hc;exact absurd rfl h4
    ·rw [if_neg hm] at hc
     obtain ⟨l,hl⟩:=H7 (nm:=nm) (pk:=pk) (fd:=fd) (a:=a) f (met ++ [to]) (hits ++ [h]) ⟨to,q.t,q.c⟩
     have hm1:h ∈ c.hits:=by rw [← hc,hl];simp
     rw [ZW L h2 (hh h hm1)]
     simp only [List.length_map]
     rw [if_neg hm]
     have:=Mt L f (met ++ [to]) (hits ++ [h]) ⟨to,q.t,q.c⟩ c hc h3 h4 hh hs
     rw [List.map_append] at this
     exact this
theorem VG {pk Da:Qn → It × Bool} {fd F6:Qn → Ne.Nt × Bool} {a d:Int} (L:Later pk Da fd F6 a d) (h0:0 ≤ d) {q:Qn} {c:Ch} (hc:yE nm pk fd a q = c) (he:0 ≤ c.e ∧ c.e ≤ 4) (h3:c.e ≠ 3) (h4:c.e ≠ 4) (hl:d < zL (lefts c)) :
  yE nm Da F6 (a + d) q = ⟨c.hits.map (sub d),c.e,c.nm,if c.e = 0 then c.oK else sub d c.oK⟩ ∧ zL (lefts c) - zL (lefts (yE nm Da F6 (a + d) q)) = d:=by
 have hne:lefts c ≠ []:=by intro h;rw [h] at hl;exact absurd hl (by show ¬ d < 0;omega)
 have hm:∀ x ∈ lefts c,d < x:=fun x hx=>by have:=F5 hx;omega
 have h1:∀ h ∈ c.hits,d < h.left:=fun h hh=>hm _ (List.mem_append.mpr (.inl (List.mem_map.mpr ⟨h,hh,rfl⟩)))
 have h2:c.e ≠ 0 → d < c.oK.left:=fun h=>hm _ (List.mem_append.mpr (.inr (by rw [if_pos (by omega)];simp)))
 have e:=Mt (nm:=nm) L 9 [q.q] [] q c hc h3 h4 h1 h2
 have e':yE nm Da F6 (a + d) q = ⟨c.hits.map (sub d),c.e,c.nm,if c.e = 0 then c.oK else sub d c.oK⟩:=e
 refine ⟨e',?_⟩
 rw [e']
 have:lefts ⟨c.hits.map (sub d),c.e,c.nm,if c.e = 0 then c.oK else sub d c.oK⟩ = (lefts c).map fun x=>x - d:=by
  unfold lefts
  rw [List.map_append,List.map_map,List.map_map]
  congr 1
  by_cases hz:c.e = 1 ∨ c.e = 2
  ·rw [if_pos hz,if_pos hz,if_neg (show ¬ c.e = 0 by omega)];rfl
  ·rw [if_neg hz,if_neg hz];rfl
 rw [this,PG d hne]
 omega
theorem vN {s:Sv} {a d:Int} {q:Qn} (ha:0 ≤ a) (hd:0 ≤ d) (h:(cZ s (a + d) q).2 = true):cZ s a q = cZ s (a + d) q:=by
 obtain ⟨-, -,hl⟩:=sW h
 unfold cZ at h hl ⊢
 cases ho:old s.m q with
 | none=>rfl
 | some x =>
  rw [ho] at h hl
  dsimp only at h hl ⊢
  cases hv:gJ (a + d) x.u with
  | false=>rw [hv] at h;cases h
  | true=>rw [uW ha hd hv]
theorem Mv {s:Sv} {a d:Int} {q:Qn} (ha:0 ≤ a) (hd:0 ≤ d) (hb:a + d ≤ 1099511627776) (hc:∀ x ∈ s.m,x.u ≤ a + 604800) (h:(cZ s a q).2 = true) (hl:d < iC a (cZ s a q).1.u):cZ s (a + d) q = cZ s a q ∧ iC (a + d) (cZ s a q).1.u = iC a (cZ s a q).1.u - d:=by
 obtain ⟨hm, -,hv⟩:=sW h
 obtain ⟨k1,k2⟩:=Ca ha hd hb hv (hc _ hm) hl
 refine ⟨?_,k2⟩
 unfold cZ at h k1 ⊢
 cases ho:old s.m q with
 | none=>rfl
 | some x =>
  rw [ho] at h k1
  dsimp only at h k1 ⊢
  cases hw:gJ a x.u with
  | false=>rw [hw] at h;cases h
  | true=>rw [hw] at k1;rw [show gJ (a + d) x.u = true from k1]
theorem Tc {m:List Ne.Nt} {a:Int} {k:Qn} {y:Ne.Nt} (h:Ne.nof m a k = some y):y ∈ m ∧ gJ a y.u = true ∧ Ne.old m k = some y:=by
 unfold Ne.nof at h
 cases ho:Ne.old m k with
 | none=>rw [ho] at h;cases h
 | some x =>
  rw [ho] at h
  dsimp only at h
  cases hl:gJ a x.u with
  | false=>rw [hl] at h;cases h
  | true=>rw [hl] at h;cases h;exact ⟨(Ne.lY ho).2,hl,rfl⟩
theorem Mw {m:List Ne.Nt} {a d:Int} {k:Qn} (ha:0 ≤ a) (hd:0 ≤ d) (h:Ne.nof m a k = none):Ne.nof m (a + d) k = none:=by
 cases h1:Ne.nof m (a + d) k with
 | none=>rfl
 | some y =>
  obtain ⟨-,h2,h3⟩:=Tc h1
  unfold Ne.nof at h
  rw [h3] at h
  dsimp only at h
  rw [uW ha hd h2] at h
  cases h
theorem Mx {m:List Ne.Nt} {a d:Int} {k:Qn} {y:Ne.Nt} (ha:0 ≤ a) (hd:0 ≤ d) (hb:a + d ≤ 1099511627776) (hc:∀ x ∈ m,x.u ≤ a + 604800) (h:Ne.nof m a k = some y) (hl:d < iC a y.u):Ne.nof m (a + d) k = some y ∧ iC (a + d) y.u = iC a y.u - d:=by
 obtain ⟨h1,h2,h3⟩:=Tc h
 obtain ⟨k1,k2⟩:=Ca ha hd hb h2 (hc _ h1) hl
 refine ⟨?_,k2⟩
 unfold Ne.nof
 rw [h3]
 dsimp only
 rw [k1];rfl
theorem MB {s:Sv} {m:Ne.Nv} {a d:Int} (ha:0 ≤ a) (hd:0 ≤ d) (hb:a + d ≤ 1099511627776) (hc:∀ x ∈ s.m,x.u ≤ a + 604800) (hc2:∀ x ∈ m.m,x.u ≤ a + 604800):Later (cZ s a) (cZ s (a + d)) (Ne.fQ m a) (Ne.fQ m (a + d)) a d where
 no q h:=by
  unfold tl at h ⊢
  by_cases h1:(cZ s (a + d) q).2 = true ∧ F4 (cZ s (a + d) q).1.r = true
  ·have e:=vN ha hd h1.1
   rw [e,if_pos h1] at h;cases h
  ·rw [if_neg h1]
 yes q h ht:=by
  unfold tl at ht ⊢
  by_cases h1:(cZ s (a + d) q).2 = true ∧ F4 (cZ s (a + d) q).1.r = true
  ·refine .inr ?_
   have e:=vN ha hd h1.1
   rw [e,if_pos h1] at ht
   rw [if_pos h1]
   cases ht
   obtain ⟨hm, -,hv⟩:=sW h1.1
   have hv1:=uW ha hd hv
   have hl:d < iC a (cZ s (a + d) q).1.u:=by
    unfold iC
    rw [if_pos hv1]
    have:=hc _ hm
    unfold gJ at hv
    rw [Bool.and_eq_true,decide_eq_true_eq] at hv
    split <;> omega
   obtain ⟨-,k2⟩:=Ca ha hd hb hv1 (hc _ hm) hl
   rw [k2];rfl
  ·rw [if_neg h1];exact .inl rfl
 on q h ht hl:=by
  unfold tl at ht ⊢
  by_cases h1:(cZ s a q).2 = true ∧ F4 (cZ s a q).1.r = true
  ·rw [if_pos h1] at ht
   cases ht
   obtain ⟨k1,k2⟩:=Mv ha hd hb hc h1.1 hl
   rw [k1,if_pos h1,k2];rfl
  ·rw [if_neg h1] at ht;cases ht
 fd q h hl:=by
  unfold Ne.fQ at h hl ⊢
  cases h1:Ne.nof m.m a q.w with
  | some y =>
   rw [h1] at hl
   obtain ⟨k1,k2⟩:=Mx ha hd hb hc2 h1 hl
   rw [k1]
   exact ⟨rfl,rfl,k2⟩
  | none =>
   rw [h1] at h hl
   rw [Mw ha hd h1]
   cases h2:Ne.nof m.m a q with
   | none=>rw [h2] at h;cases h
   | some y =>
    rw [h2] at hl
    obtain ⟨k1,k2⟩:=Mx ha hd hb hc2 h2 hl
    rw [k1]
    exact ⟨rfl,rfl,k2⟩
end Go.Proofs.Ytfokaoeinpnagaa.Kc
set_option maxRecDepth 4000
namespace Go.Proofs.Ytfokaoeinpnagaa.Kc
open Go Ev
variable {ext : Env} {F n:Nat} {θ:Th} {nm:Int → ByteArray → List ByteArray} {gt:ByteArray → Int → Int → Int × Bool}
def ri (x:Int):List FV:=[.int .i64 x]
theorem yG (c:Ch) (hl:c.hits.length ≤ 1000000) (hF:200000000000001 ≤ F):G ext F (n + 1) 15 [c.v] = some ([vi (zL (lefts c))],[c.v]):=by
 refine eT (cf:=c15) rfl ?_
 simp only [c15,go_sem,Nat.reduceAdd,Nat.reduceMul,Nat.reduceEqDiff,Nat.reduceBEq,Nat.reduceMod,Nat.reduceDiv,↓reduceIte,reduceCtorEq]
 refine jW c.hits.length (fun i=>⟨[(1,PV.c (CV.one (PL.ptr 40000 0))),(3,PV.c (CV.one (PL.own 80000 (((c.hits.take i).map kV.left).map ri).length))),(10,PV.c (CV.one (PL.f (FV.sl (c.hits.map rH))))),(11,PV.c (CV.one (PL.f (FV.int .i64 ((c.hits.map rH).length:Nat))))),(12,PV.c (CV.one (PL.f (FV.int .i64 i))))],[(40000,Ob.iM [PL.f (FV.sl (c.hits.map rH)),PL.f (FV.int .i64 c.e),PL.f (FV.str c.nm),PL.f (FV.str c.oK.s.q),PL.f (FV.int .i64 c.oK.s.t),PL.f (FV.int .i64 c.oK.s.c),PL.f (FV.sl (c.oK.s.d.map fC)),PL.f (FV.int .i64 c.oK.s.ttl),PL.f (FV.int .i64 c.oK.left)]),(80000,Ob.row 1 (((c.hits.take i).map kV.left).map ri))]⟩) (fun i=>True) (by omega) rfl trivial (fun i hi hP=>?_) (fun hP=>?_)
 ·obtain ⟨x,hx,hd,ht,h0⟩:=at_ hi
  have hn:=nx hi (by omega)
  have hw:(c.hits.take i).length = i:=by simp;omega
  have hs:((c.hits.take (i + 1)).map kV.left).map ri = ((c.hits.take i).map kV.left).map ri ++ [[.int .i64 x.left]]:=by rw [List.take_add_one,hx];simp [ri]
  simp only [List.length_map,List.getElem?_map,hd,hx,ht,h0,rH,hw,hn,go_sem,Nat.reduceAdd,Nat.reduceMul,Nat.reduceEqDiff,Nat.reduceBEq,Nat.reduceMod,Nat.reduceDiv,↓reduceIte,reduceCtorEq]
  rw [hs]
  exact ⟨by omega,by simp [hw];omega⟩
 ·have hd:=@end_ _ c.hits
  rw [List.take_length]
  by_cases e1:c.e = 1
  ·
   have XP:decide (c.e = 1) = true:=decide_eq_true e1
   have hL:lefts c = c.hits.map kV.left ++ [c.oK.left]:=by unfold lefts;rw [if_pos (.inl e1)]
   obtain ⟨a,l,hal⟩:∃ a l,lefts c = a :: l:=List.exists_cons_of_ne_nil (by rw [hL];simp)
   have hr:(c.hits.map kV.left).map ri ++ [[FV.int .i64 c.oK.left]] = ri a :: List.map ri l:=by rw [← List.map_cons,← hal,hL];simp [ri]
   have hlen:(a :: l).length = c.hits.length + 1:=by rw [← hal,hL];simp
   have hz:decide (((c.hits.length + 1:Nat):Int) = 0) = false:=by simp only [List.length_cons] at hlen;exact decide_eq_false (by omega)
   have hz0:(ri a :: List.map ri l)[0]? = some [FV.int .i64 a]:=rfl
   have hst:zL (lefts c) = (a :: l).foldl min a:=by rw [hal];show l.foldl min a = l.foldl min (min a a);rw [show min a a = a from by omega]
   have hlp:0 < (c.hits.length + 1:Nat):=by rw [← hlen];simp
   rw [hst]
   simp only [List.length_map,hd,XP,hr,hz,hz0,Int.toNat_zero,go_sem,Nat.reduceAdd,Nat.reduceMul,Nat.reduceEqDiff,Nat.reduceBEq,Nat.reduceMod,Nat.reduceDiv,↓reduceIte,reduceCtorEq]
   refine ⟨by omega,by omega,⟨by omega,by simp only [List.length_cons] at hlen;omega⟩,?_⟩
   refine jW (c.hits.length + 1) (fun i=>⟨[(6,PV.c (CV.one (PL.f (FV.int .i64 (((a :: l).take i).foldl min a))))),(42,PV.c (CV.one (PL.own 80000 (c.hits.length + 1)))),(43,PV.c (CV.one (PL.f (FV.int .i64 ((c.hits.length + 1:Nat):Int))))),(44,PV.c (CV.one (PL.f (FV.int .i64 i))))],[(80000,Ob.row 1 (ri a :: List.map ri l))]⟩) (fun i=>True) (by omega) rfl trivial (fun i hi hP=>?_) (fun hP=>?_)
   ·obtain ⟨x,hx,hd',ht,h0⟩:=at_ (l:=a :: l) (i:=i) (by omega)
    rw [hlen] at hd'
    have hn:=nx hi (by omega)
    have ZY:(ri a :: List.map ri l)[i]? = some [FV.int .i64 x]:=by show ((a :: l).map ri)[i]? = _;rw [List.getElem?_map,hx];rfl
    have hf:((a :: l).take (i + 1)).foldl min a = if x < ((a :: l).take i).foldl min a then x else ((a :: l).take i).foldl min a:=by rw [List.take_add_one,hx,List.foldl_append];show min _ x = _;split <;> omega
    rw [hf]
    simp only [hd',ZY,ht,h0,hn,go_sem,Nat.reduceAdd,Nat.reduceMul,Nat.reduceEqDiff,Nat.reduceBEq,Nat.reduceMod,Nat.reduceDiv,↓reduceIte,reduceCtorEq]
    try simp only [List.length_cons] at hlen
    exact ⟨by omega,by simp only [List.length_map] <;> omega⟩
   ·have hd':=@end_ _ (a :: l)
    rw [hlen] at hd'
    rw [← hlen,List.take_length]
    rw [hlen]
    simp only [hd',go_sem,Nat.reduceAdd,Nat.reduceMul,Nat.reduceEqDiff,Nat.reduceBEq,Nat.reduceMod,Nat.reduceDiv,↓reduceIte,reduceCtorEq]
  by_cases e2:c.e = 2
  ·
   have XP:decide (c.e = 1) = false:=decide_eq_false e1
   have e2':decide (c.e = 2) = true:=decide_eq_true e2
   have hL:lefts c = c.hits.map kV.left ++ [c.oK.left]:=by unfold lefts;rw [if_pos (.inr e2)]
   obtain ⟨a,l,hal⟩:∃ a l,lefts c = a :: l:=List.exists_cons_of_ne_nil (by rw [hL];simp)
   have hr:(c.hits.map kV.left).map ri ++ [[FV.int .i64 c.oK.left]] = ri a :: List.map ri l:=by rw [← List.map_cons,← hal,hL];simp [ri]
   have hlen:(a :: l).length = c.hits.length + 1:=by rw [← hal,hL];simp
   have hz:decide (((c.hits.length + 1:Nat):Int) = 0) = false:=by simp only [List.length_cons] at hlen;exact decide_eq_false (by omega)
   have hz0:(ri a :: List.map ri l)[0]? = some [FV.int .i64 a]:=rfl
   have hst:zL (lefts c) = (a :: l).foldl min a:=by rw [hal];show l.foldl min a = l.foldl min (min a a);rw [show min a a = a from by omega]
   have hlp:0 < (c.hits.length + 1:Nat):=by rw [← hlen];simp
   rw [hst]
   simp only [List.length_map,hd,XP,e2',hr,hz,hz0,Int.toNat_zero,go_sem,Nat.reduceAdd,Nat.reduceMul,Nat.reduceEqDiff,Nat.reduceBEq,Nat.reduceMod,Nat.reduceDiv,↓reduceIte,reduceCtorEq]
   refine ⟨by omega,by omega,⟨by omega,by simp only [List.length_cons] at hlen;omega⟩,?_⟩
   refine jW (c.hits.length + 1) (fun i=>⟨[(6,PV.c (CV.one (PL.f (FV.int .i64 (((a :: l).take i).foldl min a))))),(42,PV.c (CV.one (PL.own 80000 (c.hits.length + 1)))),(43,PV.c (CV.one (PL.f (FV.int .i64 ((c.hits.length + 1:Nat):Int))))),(44,PV.c (CV.one (PL.f (FV.int .i64 i))))],[(80000,Ob.row 1 (ri a :: List.map ri l))]⟩) (fun i=>True) (by omega) rfl trivial (fun i hi hP=>?_) (fun hP=>?_)
   ·obtain ⟨x,hx,hd',ht,h0⟩:=at_ (l:=a :: l) (i:=i) (by omega)
    rw [hlen] at hd'
    have hn:=nx hi (by omega)
    have ZY:(ri a :: List.map ri l)[i]? = some [FV.int .i64 x]:=by show ((a :: l).map ri)[i]? = _;rw [List.getElem?_map,hx];rfl
    have hf:((a :: l).take (i + 1)).foldl min a = if x < ((a :: l).take i).foldl min a then x else ((a :: l).take i).foldl min a:=by rw [List.take_add_one,hx,List.foldl_append];show min _ x = _;split <;> omega
    rw [hf]
    simp only [hd',ZY,ht,h0,hn,go_sem,Nat.reduceAdd,Nat.reduceMul,Nat.reduceEqDiff,Nat.reduceBEq,Nat.reduceMod,Nat.reduceDiv,↓reduceIte,reduceCtorEq]
    try simp only [List.length_cons] at hlen
    exact ⟨by omega,by simp only [List.length_map] <;> omega⟩
   ·have hd':=@end_ _ (a :: l)
    rw [hlen] at hd'
    rw [← hlen,List.take_length]
    rw [hlen]
    simp only [hd',go_sem,Nat.reduceAdd,Nat.reduceMul,Nat.reduceEqDiff,Nat.reduceBEq,Nat.reduceMod,Nat.reduceDiv,↓reduceIte,reduceCtorEq]
  ·
   have XP:decide (c.e = 1) = false:=decide_eq_false e1
   have e2':decide (c.e = 2) = false:=decide_eq_false e2
   have hL:lefts c = c.hits.map kV.left:=by unfold lefts;rw [if_neg (fun h=>h.elim e1 e2)];simp
   rcases yF c.hits with hh | hh
   ·
    rw [show lefts c = [] by rw [hL,hh];rfl]
    have hz0:decide (((c.hits.length:Nat):Int) = 0) = true:=by rw [hh];rfl
    have hz1:decide ((0:Int) < (c.hits.length:Int)) = false:=by rw [hh];rfl
    simp only [List.length_map,hd,XP,e2',hz0,go_sem,Nat.reduceAdd,Nat.reduceMul,Nat.reduceEqDiff,Nat.reduceBEq,Nat.reduceMod,Nat.reduceDiv,↓reduceIte,reduceCtorEq]
    rfl
   ·
    obtain ⟨a,l,hal⟩:∃ a l,lefts c = a :: l:=List.exists_cons_of_ne_nil (by rw [hL];simpa using hh)
    have hr:(c.hits.map kV.left).map ri = ri a :: List.map ri l:=by rw [← List.map_cons,← hal,hL]
    have hlen:(a :: l).length = l.length + 1:=rfl
    have agT:l.length + 1 = c.hits.length:=by rw [← List.length_cons (a:=a),← hal,hL];simp
    have hz:decide (((l.length + 1:Nat):Int) = 0) = false:=by simp only [List.length_cons] at hlen;exact decide_eq_false (by omega)
    have hz0:(ri a :: List.map ri l)[0]? = some [FV.int .i64 a]:=rfl
    have hst:zL (lefts c) = (a :: l).foldl min a:=by rw [hal];show l.foldl min a = l.foldl min (min a a);rw [show min a a = a from by omega]
    have hlp:0 < (l.length + 1:Nat):=by rw [← hlen];simp
    rw [hst]
    simp only [List.length_map,hd,XP,e2',hr,hz,hz0,Int.toNat_zero,go_sem,Nat.reduceAdd,Nat.reduceMul,Nat.reduceEqDiff,Nat.reduceBEq,Nat.reduceMod,Nat.reduceDiv,↓reduceIte,reduceCtorEq]
    refine ⟨by omega,by omega,?_⟩
    refine jW (l.length + 1) (fun i=>⟨[(6,PV.c (CV.one (PL.f (FV.int .i64 (((a :: l).take i).foldl min a))))),(42,PV.c (CV.one (PL.own 80000 (l.length + 1)))),(43,PV.c (CV.one (PL.f (FV.int .i64 ((l.length + 1:Nat):Int))))),(44,PV.c (CV.one (PL.f (FV.int .i64 i))))],[(80000,Ob.row 1 (ri a :: List.map ri l))]⟩) (fun i=>True) (by omega) rfl trivial (fun i hi hP=>?_) (fun hP=>?_)
    ·obtain ⟨x,hx,hd',ht,h0⟩:=at_ (l:=a :: l) (i:=i) (by omega)
     rw [hlen] at hd'
     have hn:=nx hi (by omega)
     have ZY:(ri a :: List.map ri l)[i]? = some [FV.int .i64 x]:=by show ((a :: l).map ri)[i]? = _;rw [List.getElem?_map,hx];rfl
     have hf:((a :: l).take (i + 1)).foldl min a = if x < ((a :: l).take i).foldl min a then x else ((a :: l).take i).foldl min a:=by rw [List.take_add_one,hx,List.foldl_append];show min _ x = _;split <;> omega
     rw [hf]
     simp only [hd',ZY,ht,h0,hn,go_sem,Nat.reduceAdd,Nat.reduceMul,Nat.reduceEqDiff,Nat.reduceBEq,Nat.reduceMod,Nat.reduceDiv,↓reduceIte,reduceCtorEq]
     try simp only [List.length_cons] at hlen
     exact ⟨by omega,by simp only [List.length_map] <;> omega⟩
    ·have hd':=@end_ _ (a :: l)
     rw [hlen] at hd'
     rw [← hlen,List.take_length]
     rw [hlen]
     simp only [hd',go_sem,Nat.reduceAdd,Nat.reduceMul,Nat.reduceEqDiff,Nat.reduceBEq,Nat.reduceMod,Nat.reduceDiv,↓reduceIte,reduceCtorEq]
theorem F7 (l:List Pt) (m:Int) (hl:l.length ≤ 200000000000000) (hd:∀ x ∈ l,x.s.d.length ≤ 200000000000000) (hF:200000000000001 ≤ F):G ext F (n + 2) 17 [vl (l.map rP),vi m] = some ([vi (if wD l = true ∧ (l.length:Int) ≤ m then 1 else 0)],[vl (l.map rP),vi m]):=by
 refine eT (cf:=c17) rfl ?_
 simp only [c17,go_sem,Nat.reduceAdd,Nat.reduceMul,Nat.reduceEqDiff,Nat.reduceBEq,Nat.reduceMod,Nat.reduceDiv,↓reduceIte,reduceCtorEq]
 refine jW l.length (fun i=>⟨[(0,PV.c (CV.one (PL.f (FV.sl (l.map rP))))),(1,PV.c (CV.one (PL.f (FV.int .i64 m)))),(5,PV.c (CV.one (PL.f (FV.int .i64 i))))],[]⟩) (fun i=>wD (l.take i) = true) (by omega) rfl (by simp [wD]) (fun i hi hP=>?_) (fun hP=>?_)
 ·obtain ⟨x,hx,hlt,ht,h0⟩:=at_ hi
  have hn:=nx hi (Nat.le_trans hl (by decide))
  have hs:=fun n=>LQ (ext:=ext) (F:=F) (n:=n) x.s.q x.s.t x.s.c x.s.d x.s.ttl (hd x (List.mem_of_getElem? hx)) hF
  cases h1:nE x.s.q x.s.d with
  | false =>
   simp only [List.length_map,List.getElem?_map,hlt,hx,ht,h0,rP,hs,h1,go_sem,Nat.reduceAdd,Nat.reduceMul,Nat.reduceEqDiff,Nat.reduceBEq,Nat.reduceMod,Nat.reduceDiv,↓reduceIte,reduceCtorEq]
   rw [HV hx (by rw [h1];rfl)];rfl
  | true =>
   by_cases h3:x.k.q.size ≤ 300
   ·have h3':decide ((300:Int) < (x.k.q.size:Int)) = false:=decide_eq_false (by omega)
    simp only [List.length_map,List.getElem?_map,hlt,hx,ht,h0,hn,rP,hs,h1,h3',go_sem,Nat.reduceAdd,Nat.reduceMul,Nat.reduceEqDiff,Nat.reduceBEq,Nat.reduceMod,Nat.reduceDiv,↓reduceIte,reduceCtorEq]
    rw [Jy hx,hP,h1,decide_eq_true h3];rfl
   ·have h3':decide ((300:Int) < (x.k.q.size:Int)) = true:=decide_eq_true (by omega)
    simp only [List.length_map,List.getElem?_map,hlt,hx,ht,h0,hn,rP,hs,h1,h3',go_sem,Nat.reduceAdd,Nat.reduceMul,Nat.reduceEqDiff,Nat.reduceBEq,Nat.reduceMod,Nat.reduceDiv,↓reduceIte,reduceCtorEq]
    rw [HV hx (by rw [h1,decide_eq_false h3];rfl)];rfl
 ·have hd:=@end_ _ l
  rw [List.take_length] at hP
  by_cases hm:(l.length:Int) ≤ m
  ·have hm':decide (m < (l.length:Int)) = false:=decide_eq_false (by omega)
   simp only [List.length_map,hd,hm',go_sem,Nat.reduceAdd,Nat.reduceMul,Nat.reduceEqDiff,Nat.reduceBEq,Nat.reduceMod,Nat.reduceDiv,↓reduceIte,reduceCtorEq]
   rw [if_pos ⟨hP,hm⟩]
  ·have hm':decide (m < (l.length:Int)) = true:=decide_eq_true (by omega)
   simp only [List.length_map,hd,hm',go_sem,Nat.reduceAdd,Nat.reduceMul,Nat.reduceEqDiff,Nat.reduceBEq,Nat.reduceMod,Nat.reduceDiv,↓reduceIte,reduceCtorEq]
   rw [if_neg (fun h=>hm h.2)]
theorem VH (a b:ByteArray):G ext F (n + 1) 22 [vs a,vs b] = some ([(Se.v ⟨a,5,1,[b],7⟩)],[vs a,vs b]):=by
 refine eT (cf:=Kw) rfl ?_
 simp only [Kw,go_sem,Nat.reduceAdd,Nat.reduceMul,Nat.reduceEqDiff,Nat.reduceBEq,Nat.reduceMod,Nat.reduceDiv,↓reduceIte,reduceCtorEq]
 rfl
theorem lW (T:θ.Ok ext) (O:Ne.FR gt ext) (C:nM ext) (Q:DY θ ext) (hF:200000000000001 ≤ F) (l:List Pt) (hl:l.length ≤ 1000) (hf:wD l = true):G ext F (n + 7) 18 [vl (l.map rP)] = some ([(jM θ gt l).1.v,(jM θ gt l).2.v],[vl (l.map rP)]):=by
 refine eT (cf:=c18) rfl ?_
 have hn:=fun n=>Vx (ext:=ext) (F:=F) (n:=n) 50
 have hm:=fun n=>Ne.Po (ext:=ext) (F:=F) (n:=n) 50
 rw [if_neg (by decide),L6] at hn
 rw [if_neg (by decide),Ne.L9] at hm
 simp only [c18,hn,hm,go_sem,Nat.reduceAdd,Nat.reduceMul,Nat.reduceEqDiff,Nat.reduceBEq,Nat.reduceMod,Nat.reduceDiv,↓reduceIte,reduceCtorEq]
 refine jW l.length (fun i=>⟨[(0,PV.c (CV.one (PL.f (FV.sl (List.map rP l))))),(4,PV.c (CV.one (PL.ptr 160200 0))),(5,PV.c (CV.one (PL.ptr 180200 0))),(6,PV.c (CV.one (PL.f (FV.int IntKind.i64 i))))],[(160200,Ob.iM [PL.f (FV.int IntKind.i64 (jM θ gt (l.take i)).1.room),PL.mp 160204,PL.f (FV.sl ((jM θ gt (l.take i)).1.o.map rQ)),PL.f (FV.int IntKind.i64 (jM θ gt (l.take i)).1.ch)]),(160204,Ob.map C9 ((jM θ gt (l.take i)).1.m.map ent)),(180200,Ob.iM [PL.f (FV.int IntKind.i64 (jM θ gt (l.take i)).2.room),PL.mp 180204,PL.f (FV.sl ((jM θ gt (l.take i)).2.o.map rQ)),PL.f (FV.int IntKind.i64 (jM θ gt (l.take i)).2.ch)]),(180204,Ob.map Ne.C9 ((jM θ gt (l.take i)).2.m.map Ne.ent))]⟩) (fun i=>True) (by omega) rfl trivial (fun i hi hP=>?_) (fun hP=>?_)
 ·obtain ⟨x,hx,hlt,ht,h0⟩:=at_ hi
  have hn:=nx hi (Nat.le_trans hl (by decide))
  have hI:=fi (θ:=θ) (gt:=gt) l i (by omega)
  rw [D9 hx]
  generalize jM θ gt (l.take i) = a at hI ⊢
  obtain ⟨s,m⟩:=a
  have hz:=wS hf (List.mem_of_getElem? hx)
  have hsr:=hI.s.r
  have hsc:=hI.s.c
  have hso:=hI.s.o
  have hsm:=hI.s.m
  have hnr:=hI.n.r
  have hnc:=hI.n.c
  have hno:=hI.n.o
  simp only at hsr hsc hso hsm hnr hnc hno
  unfold VE
  by_cases hr:0 < x.r
  ·rw [if_pos hr]
   have hr':decide (0 < x.r) = true:=decide_eq_true hr
   have p1:=fun n=>Vz (F:=F) (n:=n) Q s x.now x.s x.r (by omega) (by omega) (by omega) (by omega) hz.2.1 hz.2.2.1 hz.2.2.2
   simp only [Sv.v,Se.v,uP] at p1
   simp only [List.length_map,List.getElem?_map,hlt,hx,ht,h0,hn,rP,hr',p1,go_sem,Nat.reduceAdd,Nat.reduceMul,Nat.reduceEqDiff,Nat.reduceBEq,Nat.reduceMod,Nat.reduceDiv,↓reduceIte,reduceCtorEq]
   done
  ·rw [if_neg hr]
   have hr':decide (0 < x.r) = false:=decide_eq_false hr
   have p1:=fun n=>Ne.Pp (F:=F) (n:=n) T O C m x.now x.k (decide (x.r < 0)) x.s hF (by omega) (by omega) (by omega) hz.1 hz.2.1 hz.2.2.1 hz.2.2.2
   simp only [Ne.Nv.v,Se.v,uP] at p1
   simp only [List.length_map,List.getElem?_map,hlt,hx,ht,h0,hn,rP,hr',p1,go_sem,Nat.reduceAdd,Nat.reduceMul,Nat.reduceEqDiff,Nat.reduceBEq,Nat.reduceMod,Nat.reduceDiv,↓reduceIte,reduceCtorEq]
   done
 ·have hd:=@end_ _ l
  rw [List.take_length]
  simp only [List.length_map,hd,go_sem,Nat.reduceAdd,Nat.reduceMul,Nat.reduceEqDiff,Nat.reduceBEq,Nat.reduceMod,Nat.reduceDiv,↓reduceIte,reduceCtorEq]
  done
end Go.Proofs.Ytfokaoeinpnagaa.Kc
set_option maxRecDepth 4000
namespace Go.Proofs.Ytfokaoeinpnagaa.Kc
open Go Ev
variable {ext : Env} {F n:Nat} {θ:Th} {nm:Int → ByteArray → List ByteArray} {gt:ByteArray → Int → Int → Int × Bool}
abbrev JA (now:Int):AV:=.agg [.iy,.iy,.f (.int .i64 now)]
theorem Eb (now:Int) (q:Qn):G ext F (n + 4) 34 [JA now,q.v] = some ([kY.v,vb false],[JA now,q.v]):=by
 refine eT (cf:=c34) rfl ?_
 have h1:=fun n=>Ju (ext:=ext) (F:=F) (n:=n) now q
 simp only [c34,h1,go_sem,Nat.reduceAdd,Nat.reduceMul,Nat.reduceEqDiff,Nat.reduceBEq,Nat.reduceMod,Nat.reduceDiv,↓reduceIte,reduceCtorEq]
 try rfl
theorem JB (M:BX nm ext) (now:Int) (q:Qn):G ext F (n + 5) 35 [JA now,q.v] = some ([kY.v,vs ⟨#[]⟩,vb false],[JA now,q.v]):=by
 refine eT (cf:=SI) rfl ?_
 have h1:=fun n=>Eb (ext:=ext) (F:=F) (n:=n) now ⟨q.q,5,q.c⟩
 have h2:=fun n=>uT (F:=F) (n:=n) M kY.s (by intro y h;cases h)
 rw [show wR nm kY.s = (⟨#[]⟩,false) from Mg (by decide)] at h2
 simp only [kY,BU,Se.v,uP,List.map_nil] at h1 h2
 by_cases h5:q.t = 5
 ·have h5':decide (q.t = 5) = true:=decide_eq_true h5
  simp only [SI,h5',go_sem,Nat.reduceAdd,Nat.reduceMul,Nat.reduceEqDiff,Nat.reduceBEq,Nat.reduceMod,Nat.reduceDiv,↓reduceIte,reduceCtorEq]
  try rfl
 ·have h5':decide (q.t = 5) = false:=decide_eq_false h5
  simp only [SI,h5',h1,h2,go_sem,Nat.reduceAdd,Nat.reduceMul,Nat.reduceEqDiff,Nat.reduceBEq,Nat.reduceMod,Nat.reduceDiv,↓reduceIte,reduceCtorEq]
  try rfl
theorem PI (now:Int) (c:Ch) (q:Qn):G ext F (n + 4) 36 [JA now,c.v,q.v] = some ([(Ch.v ⟨c.hits,3,c.nm,c.oK⟩)],[JA now,c.v,q.v]):=by
 refine eT (cf:=Vs) rfl ?_
 have h1:=fun n=>Ne.FU (ext:=ext) (F:=F) (n:=n) now q
 simp only [Vs,h1,go_sem,Nat.reduceAdd,Nat.reduceMul,Nat.reduceEqDiff,Nat.reduceBEq,Nat.reduceMod,Nat.reduceDiv,↓reduceIte,reduceCtorEq]
 try rfl
theorem F8 (O:BX nm ext) (hF:200000000000001 ≤ F) (now:Int) (q:Qn):G ext F (n + 6) 19 [.one .iy,.one .iy,vi now,q.v] = some ([(Ch.v ⟨[],3,q.q,kY⟩)],[.one .iy,.one .iy,vi now,q.v]):=by
 refine eT (cf:=c19) rfl ?_
 have hw1:IntKind.i64.wrap (0 + 1) = 1:=by decide
 have t1:=fun n=>Eb (ext:=ext) (F:=F) (n:=n) now q
 have a1:=fun n=>JB (F:=F) (n:=n) O now q
 have e1:=fun n=>PI (ext:=ext) (F:=F) (n:=n) now ⟨[],0,q.q,kY⟩ q
 simp only [Ch.v,kV.v,kY,BU,List.map_nil] at t1 a1 e1 ⊢
 simp only [c19,go_sem,Nat.reduceAdd,Nat.reduceMul,Nat.reduceEqDiff,Nat.reduceBEq,Nat.reduceMod,Nat.reduceDiv,↓reduceIte,reduceCtorEq]
 refine LV 1 (fun _:Unit=>⟨[(7,PV.c (CV.one (PL.ptr 160000 0))),(8,PV.c (CV.one (PL.ptr 180000 0))),(9,PV.c (CV.one (PL.ptr 200000 0))),(10,PV.c (CV.one (PL.ptr 220000 0))),(11,PV.c (CV.one (PL.mp 440000)))],[(160000,Ob.iM [PL.f (FV.str q.q),PL.f (FV.int IntKind.i64 q.t),PL.f (FV.int IntKind.i64 q.c)]),(180000,Ob.iM [PL.dN,PL.f (FV.int IntKind.i64 0),PL.f (FV.str ⟨#[]⟩),PL.f (FV.str ⟨#[]⟩),PL.f (FV.int IntKind.i64 0),PL.f (FV.int IntKind.i64 0),PL.dN,PL.f (FV.int IntKind.i64 0),PL.f (FV.int IntKind.i64 0)]),(200000,Ob.iM [PL.iy,PL.iy,PL.f (FV.int IntKind.i64 now)]),(220000,Ob.iM [PL.dN,PL.f (FV.int IntKind.i64 0),PL.f (FV.str ⟨#[]⟩),PL.f (FV.str ⟨#[]⟩),PL.f (FV.int IntKind.i64 0),PL.f (FV.int IntKind.i64 0),PL.dN,PL.f (FV.int IntKind.i64 0),PL.f (FV.int IntKind.i64 0)]),(440000,Ob.map (KS.one SK.str) [])]⟩) (fun i _=>i = 0) (by omega) () rfl rfl (fun i x hi hP=>?_) (fun x hP=>absurd hP (by decide))
 simp only [hw1,t1,a1,e1,q8,wo,wm,List.map_nil,List.findIdx?_nil,Option.getD_none,Option.bind_none,Option.map_none,go_sem,Nat.reduceAdd,Nat.reduceMul,Nat.reduceEqDiff,Nat.reduceBEq,Nat.reduceMod,Nat.reduceDiv,↓reduceIte,reduceCtorEq]
abbrev nd_ : ByteArray:=⟨#[1,100,0]⟩
abbrev VI : ByteArray:=⟨#[1,101,0]⟩
abbrev XQ : Qn:=⟨⟨#[]⟩,0,0⟩
abbrev L5 : List Pt:=[⟨0,⟨na,5,1,[nb],7⟩,5,XQ⟩,⟨0,⟨nb,1,1,[dd],5⟩,3,XQ⟩,⟨0,⟨Pk,5,1,[nd_],7⟩,5,XQ⟩,⟨0,⟨nd_,5,1,[Pk],7⟩,5,XQ⟩,⟨0,⟨VI,5,1,[na],7⟩,2,XQ⟩]
abbrev CX (θ:Th) (nm:Int → ByteArray → List ByteArray) (gt:ByteArray → Int → Int → Int × Bool) (q:ByteArray):Ch:=yE nm (cZ (jM θ gt L5).1 2) (Ne.fQ (jM θ gt L5).2 2) 2 ⟨q,1,1⟩
structure MC (θ:Th) (nm:Int → ByteArray → List ByteArray) (gt:ByteArray → Int → Int → Int × Bool):Prop where
 a1:(CX θ nm gt na).hits.length = 2
 a2:(CX θ nm gt na).e = 0
 a3:(CX θ nm gt na).nm = nb
 a4:zL (lefts (CX θ nm gt na)) = 3
 c1:(CX θ nm gt Pk).e = 4
 c2:(CX θ nm gt Pk).hits.length = 2
 e1:(CX θ nm gt VI).e = 3
 e2:(CX θ nm gt VI).hits.length = 0
 t1:wR nm ⟨na,5,1,[nb],7⟩ = (nb,true)
set_option maxHeartbeats 4000000 in
theorem JC (T:θ.Ok ext) (O:Ne.FR gt ext) (C:nM ext) (Q:DY θ ext) (M:BX nm ext) (L:MC θ nm gt) (hF:200000000000001 ≤ F):G ext F (n + 8) 9 [] = some ([vb true],[]):=by
 refine eT (cf:=c9) rfl ?_
 have f:=fun n=>lW (F:=F) (n:=n) T O C Q hF L5 (by decide) (by decide)
 have W:=(fiA (θ:=θ) (gt:=gt) L5).w (by decide)
 have g1:=fun n=>nP (F:=F) (n:=n) M C hF (jM θ gt L5).1 (jM θ gt L5).2 2 ⟨na,1,1⟩ W.hd W.hu W.hy W.hd2 W.hu2
 have g2:=fun n=>nP (F:=F) (n:=n) M C hF (jM θ gt L5).1 (jM θ gt L5).2 2 ⟨Pk,1,1⟩ W.hd W.hu W.hy W.hd2 W.hu2
 have g3:=fun n=>nP (F:=F) (n:=n) M C hF (jM θ gt L5).1 (jM θ gt L5).2 2 ⟨VI,1,1⟩ W.hd W.hu W.hy W.hd2 W.hu2
 have a1:(yE nm (cZ (jM θ gt L5).1 2) (Ne.fQ (jM θ gt L5).2 2) 2 ⟨na,1,1⟩).hits.length = 2:=L.a1
 have a2:(yE nm (cZ (jM θ gt L5).1 2) (Ne.fQ (jM θ gt L5).2 2) 2 ⟨na,1,1⟩).e = 0:=L.a2
 have a3:(yE nm (cZ (jM θ gt L5).1 2) (Ne.fQ (jM θ gt L5).2 2) 2 ⟨na,1,1⟩).nm = nb:=L.a3
 have a4:zL (lefts (yE nm (cZ (jM θ gt L5).1 2) (Ne.fQ (jM θ gt L5).2 2) 2 ⟨na,1,1⟩)) = 3:=L.a4
 have c1:(yE nm (cZ (jM θ gt L5).1 2) (Ne.fQ (jM θ gt L5).2 2) 2 ⟨Pk,1,1⟩).e = 4:=L.c1
 have c2:(yE nm (cZ (jM θ gt L5).1 2) (Ne.fQ (jM θ gt L5).2 2) 2 ⟨Pk,1,1⟩).hits.length = 2:=L.c2
 have e1:(yE nm (cZ (jM θ gt L5).1 2) (Ne.fQ (jM θ gt L5).2 2) 2 ⟨VI,1,1⟩).e = 3:=L.e1
 have e2:(yE nm (cZ (jM θ gt L5).1 2) (Ne.fQ (jM θ gt L5).2 2) 2 ⟨VI,1,1⟩).hits.length = 0:=L.e2
 generalize yE nm (cZ (jM θ gt L5).1 2) (Ne.fQ (jM θ gt L5).2 2) 2 ⟨na,1,1⟩ = A at g1 a1 a2 a3 a4
 generalize yE nm (cZ (jM θ gt L5).1 2) (Ne.fQ (jM θ gt L5).2 2) 2 ⟨Pk,1,1⟩ = B at g2 c1 c2
 generalize yE nm (cZ (jM θ gt L5).1 2) (Ne.fQ (jM θ gt L5).2 2) 2 ⟨VI,1,1⟩ = D at g3 e1 e2
 have l1:=fun n=>yG (ext:=ext) (F:=F) (n:=n) A (by omega) hF
 have k1:=fun n=>Mk (ext:=ext) (F:=F) (n:=n) A (by omega) hF
 rw [a4] at l1
 have t1:=fun n=>uT (F:=F) (n:=n) M ⟨na,5,1,[nb],7⟩ (by intro y hy;rw [List.mem_singleton] at hy;subst hy;decide)
 rw [L.t1] at t1
 have n1:=fun n=>F8 (F:=F) (n:=n) M hF 0 XQ
 have s:=fun n a b=>VH (ext:=ext) (F:=F) (n:=n) a b
 generalize (jM θ gt L5).1 = S at f g1 g2 g3
 generalize (jM θ gt L5).2 = N at f g1 g2 g3
 simp only [Se.v,uP,Ch.v,kV.v,List.map_cons,List.map_nil,rP,fC,kY,BU] at f t1 n1 s
 simp only [Ch.v,a2,a3] at l1 k1
 have i2:((A.hits.length:Nat):Int) = 2:=by omega
 have i3:((B.hits.length:Nat):Int) = 2:=by omega
 have i4:((D.hits.length:Nat):Int) = 0:=by omega
 simp only [c9,f,s,g1,g2,g3,l1,k1,t1,n1,a2,a3,c1,e1,List.length_map,i2,i3,i4,decide_true,go_sem,Nat.reduceAdd,Nat.reduceMul,Nat.reduceEqDiff,Nat.reduceBEq,Nat.reduceMod,Nat.reduceDiv,↓reduceIte,reduceCtorEq]
 done
end Go.Proofs.Ytfokaoeinpnagaa.Kc
namespace Go.Proofs.Ytfokaoeinpnagaa.Kc
open Go Ev
variable {nm : Int → ByteArray → List ByteArray} {pk:Qn → It × Bool} {fd:Qn → Ne.Nt × Bool} {now:Int}
inductive Path (nm:Int → ByteArray → List ByteArray) (c:Int) (a:ByteArray):List kV → ByteArray → Prop
 | nil:Path nm c a [] a
 | snoc {hits:List kV} {b to:ByteArray} {h:kV}:Path nm c a hits b → h.s.q = b → h.s.t = 5 → h.s.c = c → 1 ≤ h.left → tg nm h.s = some to → Path nm c a (hits ++ [h]) to
structure ME (pk:Qn → It × Bool) (now:Int):Prop where
 key:∀ q,(pk q).2 = true → (pk q).1.q = q.q ∧ (pk q).1.t = q.t ∧ (pk q).1.c = q.c
 live:∀ q,(pk q).2 = true → gJ now (pk q).1.u = true
theorem MF {now u:Int} (h:gJ now u = true):1 ≤ iC now u:=by
 unfold iC
 rw [if_pos h]
 unfold gJ at h
 rw [Bool.and_eq_true,decide_eq_true_eq] at h
 split <;> omega
theorem Td (hp:ME pk now) {q:Qn} {h:kV} (ht:tl pk now q = some h):h.s.q = q.q ∧ h.s.t = q.t ∧ h.s.c = q.c ∧ 1 ≤ h.left:=by
 unfold tl at ht
 split at ht
 ·rename_i hc
  cases ht
  obtain ⟨k1,k2,k3⟩:=hp.key q hc.1
  exact ⟨k1,k2,k3,MF (hp.live q hc.1)⟩
 ·cases ht
theorem Z0 (hp:ME pk now) {q:Qn} {h:kV} {to:ByteArray} (ht:al nm pk now q = some (h,to)):q.t ≠ 5 ∧ h.s.q = q.q ∧ h.s.t = 5 ∧ h.s.c = q.c ∧ 1 ≤ h.left ∧ tg nm h.s = some to:=by
 unfold al at ht
 split at ht
 ·cases ht
 rename_i h5
 obtain ⟨h',h1,h2⟩:=zbm ht
 obtain ⟨to',h3,h4⟩:=zmm h2
 cases h4
 obtain ⟨k1,k2,k3,k4⟩:=Td hp h1
 exact ⟨h5,k1,k2,k3,k4,h3⟩
structure Lnk (nm:Int → ByteArray → List ByteArray) (q:Qn) (c:Ch):Prop where
 len:c.hits.length ≤ 9
 e:0 ≤ c.e ∧ c.e ≤ 4
 found:c.e = 0 → ∃ hits h,c.hits = hits ++ [h] ∧ Path nm q.c q.q hits c.nm ∧ h.s.q = c.nm ∧ h.s.t = q.t ∧ h.s.c = q.c ∧ 1 ≤ h.left ∧ (hits ≠ [] → q.t ≠ 5)
 long:c.e = 4 → q.t ≠ 5 ∧ c.hits ≠ [] ∧ ∃ to,Path nm q.c q.q c.hits to
 rest:c.e ≠ 0 → c.e ≠ 4 → Path nm q.c q.q c.hits c.nm ∧ (c.hits ≠ [] → q.t ≠ 5)
theorem H8 (hp:ME pk now) (q0:Qn):∀ (f:Nat) (met:List ByteArray) (hits:List kV) (q:Qn),hits.length + f = 9 → 1 ≤ f → q.t = q0.t → q.c = q0.c → Path nm q0.c q0.q hits q.q → (hits ≠ [] → q0.t ≠ 5) → Lnk nm q0 (Jw nm pk fd now f met hits q)
 | 0,_,_,_,_,h,_,_,_,_=>by omega
 | f + 1,met,hits,q,hl,_,ht,hc,hP,hn=>by
  unfold Jw
  cases h1:tl pk now q with
  | some h =>
   obtain ⟨k1,k2,k3,k4⟩:=Td hp h1
   refine ⟨by show (hits ++ [h]).length ≤ 9;simp;omega,by show (0:Int) ≤ 0 ∧ (0:Int) ≤ 4;omega,fun _=>⟨hits,h,rfl,hP,k1,by rw [k2,ht],by rw [k3,hc],k4,hn⟩,fun e=>(by cases e),fun e=>absurd rfl e⟩
  | none =>
   cases h2:al nm pk now q with
   | none =>
    dsimp only
    unfold fin
    split
    ·refine ⟨by show hits.length ≤ 9;omega,?_,fun e=>?_,fun e=>?_,fun _ _=>⟨hP,hn⟩⟩
     ·show 0 ≤ (if _ then (2:Int) else 1) ∧ (if _ then (2:Int) else 1) ≤ 4
      split <;> omega
     ·exfalso
      have e':(if (fd q).1.nx = true then (2:Int) else 1) = 0:=e
      split at e' <;> omega
     ·exfalso
      have e':(if (fd q).1.nx = true then (2:Int) else 1) = 4:=e
      split at e' <;> omega
    ·exact ⟨by show hits.length ≤ 9;omega,by show (0:Int) ≤ 3 ∧ (3:Int) ≤ 4;omega,fun e=>absurd (show (3:Int) = 0 from e) (by decide),fun e=>absurd (show (3:Int) = 4 from e) (by decide),fun _ _=>⟨hP,hn⟩⟩
   | some p =>
    obtain ⟨h,to⟩:=p
    obtain ⟨k0,k1,k2,k3,k4,k5⟩:=Z0 hp h2
    have hP':Path nm q0.c q0.q (hits ++ [h]) to:=.snoc hP k1 k2 (by rw [k3,hc]) k4 k5
    have hn':q0.t ≠ 5:=by rw [← ht];exact k0
    dsimp only
    split
    ·exact ⟨by show (hits ++ [h]).length ≤ 9;simp;omega,by show (0:Int) ≤ 4 ∧ (4:Int) ≤ 4;omega,fun e=>absurd (show (4:Int) = 0 from e) (by decide),fun _=>⟨hn',by simp,to,hP'⟩,fun _ e=>absurd rfl e⟩
    ·rename_i hm
     have h8:hits.length < 8:=by
      have:¬ 8 ≤ hits.length:=fun h=>hm (.inl h)
      omega
     exact H8 hp q0 f (met ++ [to]) (hits ++ [h]) ⟨to,q.t,q.c⟩ (by simp;omega) (by omega) ht hc hP' (fun _=>hn')
theorem PK (hp:ME pk now) (q:Qn):Lnk nm q (yE nm pk fd now q):=H8 hp q 9 [q.q] [] q rfl (by omega) rfl rfl .nil (fun h=>absurd rfl h)
end Go.Proofs.Ytfokaoeinpnagaa.Kc
namespace Go.Proofs.Ytfokaoeinpnagaa.Kc
open Go Ev
variable {nm : Int → ByteArray → List ByteArray}
def Te (nm:Int → ByteArray → List ByteArray) (a:ByteArray) (hits:List kV):Nat → ByteArray
 | 0=>a
 | i + 1=>match hits[i]? with
  | some h=>(wR nm h.s).1
  | none=>⟨#[]⟩
theorem yH {a:ByteArray} {hits:List kV} {i:Nat}:Te nm a hits (i + 1) = match hits[i]? with | some h=>(wR nm h.s).1 | none=>⟨#[]⟩:=rfl
theorem sZ {a:ByteArray} {hits:List kV} {h:kV}:∀ {i:Nat},i ≤ hits.length → Te nm a (hits ++ [h]) i = Te nm a hits i
 | 0,_=>rfl
 | i + 1,hi=>by
  rw [yH,yH,List.getElem?_append_left (by omega)]
theorem H9 {c:Int} {a b:ByteArray} {hits:List kV} (hP:Path nm c a hits b):(∀ i h,hits[i]? = some h → h.s.q = Te nm a hits i ∧ h.s.t = 5 ∧ h.s.c = c ∧ 1 ≤ h.left ∧ (wR nm h.s).2 = true) ∧ Te nm a hits hits.length = b:=by
 induction hP with
 | nil=>exact ⟨fun i h hi=>by simp at hi,rfl⟩
 | snoc hP h1 h2 h3 h4 h5 ih =>
  rename_i hits b to h
  have ht:wR nm h.s = (to,true):=by unfold wR;rw [h5]
  refine ⟨fun i x hx=>?_,?_⟩
  ·by_cases hi:i < hits.length
   ·rw [List.getElem?_append_left hi] at hx
    rw [sZ (by omega)]
    exact ih.1 i x hx
   ·have hl:=(List.getElem?_eq_some_iff.mp hx).1
    rw [List.length_append,List.length_singleton] at hl
    obtain rfl:i = hits.length:=by omega
    rw [List.getElem?_append_right (Nat.le_refl _),Nat.sub_self] at hx
    cases hx
    rw [sZ (Nat.le_refl _),ih.2]
    exact ⟨h1,h2,h3,h4,by rw [ht]⟩
  ·rw [List.length_append,List.length_singleton,yH]
   rw [List.getElem?_append_right (Nat.le_refl _),Nat.sub_self]
   show (wR nm h.s).1 = _
   rw [ht]
def nmv (nm:Int → ByteArray → List ByteArray) (a:ByteArray) (c:Ch) (i:Nat):ByteArray:=if i = c.hits.length ∧ c.e = 0 then Te nm a c.hits (i - 1) else Te nm a c.hits i
structure Z4 (nm:Int → ByteArray → List ByteArray) (q:Qn) (c:Ch):Prop where
 len:c.hits.length ≤ 9
 e:0 ≤ c.e ∧ c.e ≤ 4
 key:∀ i h,c.hits[i]? = some h → h.s.q = Te nm q.q c.hits i ∧ h.s.c = q.c ∧ 1 ≤ h.left
 last:∀ i h,c.hits[i]? = some h → i + 1 = c.hits.length → c.e = 0 → h.s.t = q.t
 mid:∀ i h,c.hits[i]? = some h → ¬ (i + 1 = c.hits.length ∧ c.e = 0) → h.s.t = 5 ∧ (wR nm h.s).2 = true ∧ q.t ≠ 5
 found:c.e = 0 → c.hits ≠ []
 long:c.e = 4 → c.hits ≠ []
 name:c.e ≠ 4 → c.nm = nmv nm q.q c c.hits.length
theorem Z5 {q:Qn} {c:Ch} (h:Lnk nm q c):Z4 nm q c:=by
 by_cases h0:c.e = 0
 ·obtain ⟨hits,x,e1,hP,k1,k2,k3,k4,k5⟩:=h.found h0
  obtain ⟨p1,p2⟩:=H9 hP
  have hl:c.hits.length = hits.length + 1:=by rw [e1];simp
  have F9:∀ i y,c.hits[i]? = some y → (i < hits.length ∧ hits[i]? = some y) ∨ (i = hits.length ∧ y = x):=fun i y hy=>by
   have hb:=(List.getElem?_eq_some_iff.mp hy).1
   rw [e1] at hy
   by_cases hi:i < hits.length
   ·rw [List.getElem?_append_left hi] at hy;exact .inl ⟨hi,hy⟩
   ·obtain rfl:i = hits.length:=by omega
    rw [List.getElem?_append_right (Nat.le_refl _),Nat.sub_self] at hy
    cases hy
    exact .inr ⟨rfl,rfl⟩
  refine ⟨h.len,h.e,fun i y hy=>?_,fun i y hy hi _=>?_,fun i y hy hi=>?_,fun _=>by rw [e1];simp,fun e=>by omega,fun _=>?_⟩
  ·rcases F9 i y hy with ⟨hi,hy'⟩ | ⟨rfl,rfl⟩
   ·obtain ⟨g1,g2,g3,g4,g5⟩:=p1 i y hy'
    rw [e1,sZ (by omega)]
    exact ⟨g1,g3,g4⟩
   ·rw [e1,sZ (Nat.le_refl _),p2]
    exact ⟨k1,k3,k4⟩
  ·rcases F9 i y hy with ⟨hi',hy'⟩ | ⟨rfl,rfl⟩
   ·omega
   ·exact k2
  ·rcases F9 i y hy with ⟨hi',hy'⟩ | ⟨rfl,rfl⟩
   ·obtain ⟨g1,g2,g3,g4,g5⟩:=p1 i y hy'
    exact ⟨g2,g5,k5 (by intro e;rw [e] at hi';simp at hi')⟩
   ·exact absurd ⟨hl.symm,h0⟩ hi
  ·unfold nmv
   rw [if_pos ⟨rfl,h0⟩,hl,Nat.add_sub_cancel,e1,sZ (Nat.le_refl _),p2]
 ·have main:∃ b,Path nm q.c q.q c.hits b ∧ (c.hits ≠ [] → q.t ≠ 5) ∧ (c.e ≠ 4 → b = c.nm) ∧ (c.e = 4 → c.hits ≠ []):=by
   by_cases h4:c.e = 4
   ·obtain ⟨g1,g2,to,g3⟩:=h.long h4
    exact ⟨to,g3,fun _=>g1,fun e=>absurd h4 e,fun _=>g2⟩
   ·obtain ⟨g1,g2⟩:=h.rest h0 h4
    exact ⟨_,g1,g2,fun _=>rfl,fun e=>absurd e h4⟩
  obtain ⟨b,hP,g1,g2,g3⟩:=main
  obtain ⟨p1,p2⟩:=H9 hP
  refine ⟨h.len,h.e,fun i y hy=>?_,fun i y hy hi e=>absurd e h0,fun i y hy hi=>?_,fun e=>absurd e h0,g3,fun e=>?_⟩
  ·obtain ⟨k1,k2,k3,k4,k5⟩:=p1 i y hy
   exact ⟨k1,k3,k4⟩
  ·obtain ⟨k1,k2,k3,k4,k5⟩:=p1 i y hy
   exact ⟨k2,k5,g1 (by intro e;rw [e] at hy;simp at hy)⟩
  ·unfold nmv
   rw [if_neg (fun x=>h0 x.2),p2,g2 e]
theorem Z6 (s:Sv) (now:Int):ME (cZ s now) now where
 key q h:=by
  obtain ⟨-,h1, -⟩:=sW h
  exact ⟨congrArg Qn.q h1,congrArg Qn.t h1,congrArg Qn.c h1⟩
 live q h:=(sW h).2.2
theorem Tf (s:Sv) (fd:Qn → Ne.Nt × Bool) (now:Int) (q:Qn):Z4 nm q (yE nm (cZ s now) fd now q):=Z5 (PK (Z6 s now) q)
end Go.Proofs.Ytfokaoeinpnagaa.Kc
set_option maxRecDepth 4000
namespace Go.Proofs.Ytfokaoeinpnagaa.Kc
open Go Ev
variable {ext : Env} {F n:Nat} {θ:Th} {nm:Int → ByteArray → List ByteArray} {gt:ByteArray → Int → Int → Int × Bool}
theorem FI.cap {l:List Pt} {i:Nat} {a:Sv × Ne.Nv} (h:FI θ gt l i a) {t:Int} (ht:0 ≤ t) (hn:∀ x ∈ l,x.now ≤ t):(∀ x ∈ a.1.m,x.u ≤ t + 604800) ∧ ∀ x ∈ a.2.m,x.u ≤ t + 604800:=by
 refine ⟨fun x hx=>?_,fun x hx=>?_⟩
 ·obtain ⟨p,hp, -,rfl⟩:=h.s.it x hx;exact Ap (hn p hp) ht
 ·obtain ⟨p,hp, -,h1, -⟩:=h.n.it x hx;rw [h1];exact Ap (hn p hp) ht
set_option maxHeartbeats 16000000 in
theorem Cb (T:θ.Ok ext) (O:Ne.FR gt ext) (C:nM ext) (Q:DY θ ext) (M:BX nm ext) (L:MC θ nm gt) (hF:200000000000001 ≤ F) (l:List Pt) (a d:Int) (q:Qn) (hl:l.length ≤ 200000000000000) (hd:∀ x ∈ l,x.s.d.length ≤ 200000000000000):G ext F (n + 9) 4 [vl (l.map rP),.agg [.f (.int .i64 a),.f (.int .i64 d)],q.v] = some ([vb true],[vl (l.map rP),.agg [.f (.int .i64 a),.f (.int .i64 d)],q.v]):=by
 refine eT (cf:=c4) rfl ?_
 have hs:=fun n=>F7 (ext:=ext) (F:=F) (n:=n) l 40 hl hd hF
 have hv:=fun n=>JC (F:=F) (n:=n) T O C Q M L hF
 by_cases h1:wD l = true ∧ (l.length:Int) ≤ 40
 case neg =>
  rw [if_neg h1] at hs
  simp only [c4,hs,hv,go_sem,Nat.reduceAdd,Nat.reduceMul,Nat.reduceEqDiff,Nat.reduceBEq,Nat.reduceMod,Nat.reduceDiv,↓reduceIte,reduceCtorEq]
 rw [if_pos h1] at hs
 have XR:decide ((1:Int) = 0) = false:=rfl
 by_cases h3:q.q.size ≤ 300
 case neg =>
  have h3':decide ((300:Int) < (q.q.size:Int)) = true:=decide_eq_true (by omega)
  simp only [c4,hs,XR,hv,h3',go_sem,Nat.reduceAdd,Nat.reduceMul,Nat.reduceEqDiff,Nat.reduceBEq,Nat.reduceMod,Nat.reduceDiv,↓reduceIte,reduceCtorEq]
 have h3':decide ((300:Int) < (q.q.size:Int)) = false:=decide_eq_false (by omega)
 by_cases h4:a < 0
 ·have h4':decide (a < 0) = true:=decide_eq_true h4
  simp only [c4,hs,XR,hv,h3',h4',go_sem,Nat.reduceAdd,Nat.reduceMul,Nat.reduceEqDiff,Nat.reduceBEq,Nat.reduceMod,Nat.reduceDiv,↓reduceIte,reduceCtorEq]
 have h4':decide (a < 0) = false:=decide_eq_false h4
 by_cases h5:d < 0
 ·have h5':decide (d < 0) = true:=decide_eq_true h5
  simp only [c4,hs,XR,hv,h3',h4',h5',go_sem,Nat.reduceAdd,Nat.reduceMul,Nat.reduceEqDiff,Nat.reduceBEq,Nat.reduceMod,Nat.reduceDiv,↓reduceIte,reduceCtorEq]
 have h5':decide (d < 0) = false:=decide_eq_false h5
 by_cases h6:549755813888 < a
 ·have h6':decide (549755813888 < a) = true:=decide_eq_true h6
  simp only [c4,hs,XR,hv,h3',h4',h5',h6',go_sem,Nat.reduceAdd,Nat.reduceMul,Nat.reduceEqDiff,Nat.reduceBEq,Nat.reduceMod,Nat.reduceDiv,↓reduceIte,reduceCtorEq]
 have h6':decide (549755813888 < a) = false:=decide_eq_false h6
 by_cases h7:549755813888 < d
 ·have h7':decide (549755813888 < d) = true:=decide_eq_true h7
  simp only [c4,hs,XR,hv,h3',h4',h5',h6',h7',go_sem,Nat.reduceAdd,Nat.reduceMul,Nat.reduceEqDiff,Nat.reduceBEq,Nat.reduceMod,Nat.reduceDiv,↓reduceIte,reduceCtorEq]
 have h7':decide (549755813888 < d) = false:=decide_eq_false h7
 simp only [c4,hs,XR,h3',h4',h5',h6',h7',go_sem,Nat.reduceAdd,Nat.reduceMul,Nat.reduceEqDiff,Nat.reduceBEq,Nat.reduceMod,Nat.reduceDiv,↓reduceIte,reduceCtorEq]
 refine jW l.length (fun i=>⟨[(0,PV.c (CV.one (PL.f (FV.sl (l.map rP))))),(4,PV.c (CV.one (PL.ptr 100000 0))),(5,PV.c (CV.one (PL.ptr 120000 0))),(7,PV.c (CV.one (PL.f (FV.int IntKind.i64 i))))],[(100000,Ob.iM [PL.f (FV.int IntKind.i64 a),PL.f (FV.int IntKind.i64 d)]),(120000,Ob.iM [PL.f (FV.str q.q),PL.f (FV.int IntKind.i64 q.t),PL.f (FV.int IntKind.i64 q.c)])]⟩) (fun i=>∀ x ∈ l.take i,x.now ≤ a) (by omega) rfl (by simp) (fun i hi hP=>?_) (fun hP=>?_)
 ·obtain ⟨x,hx,hlt,ht,h0⟩:=at_ hi
  have hn:=nx hi (by omega)
  by_cases hna:a < x.now
  ·have hna':decide (a < x.now) = true:=decide_eq_true hna
   simp only [List.length_map,List.getElem?_map,hlt,hx,ht,h0,hn,rP,hna',hv,go_sem,Nat.reduceAdd,Nat.reduceMul,Nat.reduceEqDiff,Nat.reduceBEq,Nat.reduceMod,Nat.reduceDiv,↓reduceIte,reduceCtorEq]
  ·have hna':decide (a < x.now) = false:=decide_eq_false hna
   simp only [List.length_map,List.getElem?_map,hlt,hx,ht,h0,hn,rP,hna',go_sem,Nat.reduceAdd,Nat.reduceMul,Nat.reduceEqDiff,Nat.reduceBEq,Nat.reduceMod,Nat.reduceDiv,↓reduceIte,reduceCtorEq]
   exact all_succ hP hx (by omega)
 ·rw [List.take_length] at hP
  have hde:=@end_ _ l
  have fA:=fiA (θ:=θ) (gt:=gt) l
  have W:=fA.w h1.1
  obtain ⟨cp1,cp2⟩:=fA.cap (by omega) hP
  have f:=fun n=>lW (F:=F) (n:=n) T O C Q hF l (by omega) h1.1
  have hw:IntKind.i64.wrap (a + d) = a + d:=wB (by omega) (by omega)
  have g:=fun n=>nP (F:=F) (n:=n) M C hF (jM θ gt l).1 (jM θ gt l).2 a q W.hd W.hu W.hy W.hd2 W.hu2
  have g':=fun n=>nP (F:=F) (n:=n) M C hF (jM θ gt l).1 (jM θ gt l).2 (a + d) q W.hd W.hu W.hy W.hd2 W.hu2
  have hA:=Tf (nm:=nm) (jM θ gt l).1 (Ne.fQ (jM θ gt l).2 a) a q
  have hB:=Tf (nm:=nm) (jM θ gt l).1 (Ne.fQ (jM θ gt l).2 (a + d)) (a + d) q
  have hon:=fun (h3:(yE nm (cZ (jM θ gt l).1 a) (Ne.fQ (jM θ gt l).2 a) a q).e ≠ 3) h4 hl'=>VG (nm:=nm) (q:=q) (MB (s:=(jM θ gt l).1) (m:=(jM θ gt l).2) (a:=a) (d:=d) (by omega) (by omega) (by omega) cp1 cp2) (by omega) rfl hA.e h3 h4 hl'
  generalize yE nm (cZ (jM θ gt l).1 (a + d)) (Ne.fQ (jM θ gt l).2 (a + d)) (a + d) q = B at g' hB hon
  generalize yE nm (cZ (jM θ gt l).1 a) (Ne.fQ (jM θ gt l).2 a) a q = A at g hA hon
  generalize (jM θ gt l).1 = S at f g g'
  generalize (jM θ gt l).2 = N at f g g'
  have hAl:=hA.len
  have hBl:=hB.len
  have la:=fun n=>yG (ext:=ext) (F:=F) (n:=n) A (by omega) hF
  have lb:=fun n=>yG (ext:=ext) (F:=F) (n:=n) B (by omega) hF
  by_cases a3:A.e = 3
  ·have a3':decide (A.e = 3) = true:=decide_eq_true a3
   simp only [hde,List.length_map,f,g,g',hw,a3',hv,go_sem,Nat.reduceAdd,Nat.reduceMul,Nat.reduceEqDiff,Nat.reduceBEq,Nat.reduceMod,Nat.reduceDiv,↓reduceIte,reduceCtorEq]
   done
  have a3':decide (A.e = 3) = false:=decide_eq_false a3
  by_cases a4:A.e = 4
  ·have a4':decide (A.e = 4) = true:=decide_eq_true a4
   simp only [hde,List.length_map,f,g,g',hw,a3',a4',hv,go_sem,Nat.reduceAdd,Nat.reduceMul,Nat.reduceEqDiff,Nat.reduceBEq,Nat.reduceMod,Nat.reduceDiv,↓reduceIte,reduceCtorEq]
   done
  have a4':decide (A.e = 4) = false:=decide_eq_false a4
  by_cases a5:zL (lefts A) ≤ d
  ·have a5':decide (zL (lefts A) ≤ d) = true:=decide_eq_true a5
   simp only [hde,List.length_map,f,g,g',hw,a3',a4',la,a5',hv,go_sem,Nat.reduceAdd,Nat.reduceMul,Nat.reduceEqDiff,Nat.reduceBEq,Nat.reduceMod,Nat.reduceDiv,↓reduceIte,reduceCtorEq]
   done
  have a5':decide (zL (lefts A) ≤ d) = false:=decide_eq_false a5
  obtain ⟨e1,e2⟩:=hon a3 a4 (by omega)
  have b1:B.e = A.e:=by rw [e1]
  have b2:B.nm = A.nm:=by rw [e1]
  have b3:B.hits = A.hits.map (sub d):=by rw [e1]
  have b4:B.hits.length = A.hits.length:=by rw [b3];simp
  have bt:∀ b:Bool,decide (b = b) = true:=fun b=>decide_eq_true rfl
  have x1:decide (A.e = A.e) = true:=decide_eq_true rfl
  have x2:decide (A.nm = A.nm) = true:=decide_eq_true rfl
  have x3:decide ((A.hits.length:Int) = (A.hits.length:Int)) = true:=decide_eq_true rfl
  subst e1
  generalize ah2:(if A.e = 0 then A.oK else sub d A.oK) = so at g' lb e2
  simp only [Ch.v] at g' lb
  simp only [hde,List.length_map,f,g,g',hw,a3',a4',la,a5',x1,x2,x3,go_sem,Nat.reduceAdd,Nat.reduceMul,Nat.reduceEqDiff,Nat.reduceBEq,Nat.reduceMod,Nat.reduceDiv,↓reduceIte,reduceCtorEq]
  refine jW A.hits.length (fun i=>⟨[(4,PV.c (CV.one (PL.ptr 100000 0))),(10,PV.c (CV.one (PL.ptr 220000 0))),(11,PV.c (CV.one (PL.ptr 240000 0))),(12,PV.c (CV.one (PL.f (FV.int IntKind.i64 i))))],[(100000,Ob.iM [PL.f (FV.int IntKind.i64 a),PL.f (FV.int IntKind.i64 d)]),(220000,Ob.iM [PL.f (FV.sl (List.map rH A.hits)),PL.f (FV.int IntKind.i64 A.e),PL.f (FV.str A.nm),PL.f (FV.str A.oK.s.q),PL.f (FV.int IntKind.i64 A.oK.s.t),PL.f (FV.int IntKind.i64 A.oK.s.c),PL.f (FV.sl (List.map fC A.oK.s.d)),PL.f (FV.int IntKind.i64 A.oK.s.ttl),PL.f (FV.int IntKind.i64 A.oK.left)]),(240000,Ob.iM [PL.f (FV.sl (List.map rH (List.map (sub d) A.hits))),PL.f (FV.int IntKind.i64 A.e),PL.f (FV.str A.nm),PL.f (FV.str so.s.q),PL.f (FV.int IntKind.i64 so.s.t),PL.f (FV.int IntKind.i64 so.s.c),PL.f (FV.sl (List.map fC so.s.d)),PL.f (FV.int IntKind.i64 so.s.ttl),PL.f (FV.int IntKind.i64 so.left)])]⟩) (fun i=>True) (by omega) rfl trivial (fun i hi _=>?_) (fun _=>?_)
  ·obtain ⟨x,hx,hlt,ht,h0⟩:=at_ hi
   have hn:=nx hi (by omega)
   have hxa:(A.hits.map rH)[i]? = some (rH x):=by rw [List.getElem?_map,hx];rfl
   have hxb:((A.hits.map (sub d)).map rH)[i]? = some (rH (sub d x)):=by rw [List.getElem?_map,List.getElem?_map,hx];rfl
   have hwx:IntKind.i64.wrap (x.left - (x.left - d)) = d:=by rw [show x.left - (x.left - d) = d by omega];exact wB (by omega) (by omega)
   have xd:decide (d = d) = true:=decide_eq_true rfl
   have xk:decide (kq x.k = kq x.k) = true:=decide_eq_true rfl
   simp only [List.length_map,hxa,hxb,hlt,ht,h0,hn,rH,sub,hwx,xd,decide_true,go_sem,Nat.reduceAdd,Nat.reduceMul,Nat.reduceEqDiff,Nat.reduceBEq,Nat.reduceMod,Nat.reduceDiv,↓reduceIte,reduceCtorEq]
   done
  ·have Z7:=@end_ _ A.hits
   have hwl:IntKind.i64.wrap (zL (lefts A) - zL (lefts ⟨A.hits.map (sub d),A.e,A.nm,so⟩)) = d:=by rw [e2];exact wB (by omega) (by omega)
   have xd:decide (d = d) = true:=decide_eq_true rfl
   rcases yF A.hits with hz0 | hz0
   ·have hz:decide (((A.hits.length:Nat):Int) = 0) = true:=by rw [hz0];rfl
    by_cases a0:A.e = 0
    ·exact absurd hz0 (hA.found a0)
    ·have a0':decide (A.e = 0) = false:=decide_eq_false a0
     simp only [List.length_map,Z7,hz,a0',la,lb,hwl,xd,hv,go_sem,Nat.reduceAdd,Nat.reduceMul,Nat.reduceEqDiff,Nat.reduceBEq,Nat.reduceMod,Nat.reduceDiv,↓reduceIte,reduceCtorEq]
     done
   ·have hz:decide (((A.hits.length:Nat):Int) = 0) = false:=decide_eq_false (by have:=List.length_pos_iff.mpr hz0;omega)
    simp only [List.length_map,Z7,hz,la,lb,hwl,xd,hv,go_sem,Nat.reduceAdd,Nat.reduceMul,Nat.reduceEqDiff,Nat.reduceBEq,Nat.reduceMod,Nat.reduceDiv,↓reduceIte,reduceCtorEq]
    done
end Go.Proofs.Ytfokaoeinpnagaa.Kc
set_option maxRecDepth 4000
namespace Go.Proofs.Ytfokaoeinpnagaa.Ev
open Go
section
variable {Γ : Env} {F s c1 c2:Nat} {ca cb cc:CC} {D:St → Option St} {cf:CF} {fK:List AV} {σ:St}
@[go_sem ↓] theorem afs {k:List AV × List AV → Prop} {u:Tok k}:W k u (Me Γ F ca cb s D cf fK) ↔ fK.length = cf.np ∧ W (fun e=>W (fun p=>p.1 = .jc ∧ W (fun t=>W (fun q=>(∀ id,q.1 ≠ .ext id) ∧ W (fun t=>W (fun b=>W (fun l=>W (fun r=>k (r.1,b.1)) ⟨⟩ (mE cf.ro b.2 l)) ⟨⟩ (slots b.2 cf.res)) ⟨⟩ (jU t e.1 fK)) ⟨⟩ (D q.2)) ⟨⟩ (ev Γ F cb t)) ⟨⟩ (some ⟨put p.2.tm s (.c (.one .any)),p.2.ob⟩)) ⟨⟩ (ev Γ F ca e.2)) ⟨⟩ (enter cf.bo 0 [] ⟨[],[]⟩ fK):=by
 simp only [Me,dO,dx,bq,bH,ne_eq,Decidable.not_not]
 refine and_congr Iff.rfl (cK fun e=>cK fun p=>?_)
 obtain ⟨o,σ'⟩:=p
 cases o with
 | jc =>
  simp only [true_and,bq]
  refine cK fun q=>?_
  obtain ⟨o,σ'⟩:=q
  cases o with
  | ext i=>simp [jr]
  | jc=>simp only [reduceCtorEq,not_false_eq_true,implies_true,true_and,bq,bX]
  | ret=>simp only [reduceCtorEq,not_false_eq_true,implies_true,true_and,bq,bX]
 | ext i=>simp [jr]
 | ret=>simp [jr]
def ds0 (ob:List (Nat × Ob)):Option PV → Option PV → Option St
 | some x,some y=>some ⟨[(0,x),(1,y)],ob⟩
 | _,_=>none
@[go_sem] theorem Z8 {ob:List (Nat × Ob)} {x y:PV}:ds0 ob (some x) (some y) = some ⟨[(0,x),(1,y)],ob⟩:=rfl
@[go_sem ↓] theorem agU {k:St → Prop} {u:Tok k}:W k u (ZO Γ F cc c1 c2 σ) ↔ W (fun t=>W (fun p=>(∀ id,p.1 ≠ .ext id) ∧ W (fun z=>k ⟨[(c1,z)],p.2.ob⟩) ⟨⟩ (get p.2.tm 0)) ⟨⟩ (ev Γ F cc t)) ⟨⟩ (ds0 σ.ob (get σ.tm c1) (get σ.tm c2)):=by
 unfold ZO ds0
 cases h1:get σ.tm c1 with
 | none=>simp only [dO,jr]
 | some x =>
  cases h2:get σ.tm c2 with
  | none=>simp only [dO,jr,bH]
  | some y =>
   simp only [dO,bH,bq]
   refine cK fun p=>?_
   obtain ⟨o,σ'⟩:=p
   cases o with
   | ext i=>simp [jr]
   | jc=>simp only [ne_eq,reduceCtorEq,not_false_eq_true,implies_true,true_and,bX]
   | ret=>simp only [ne_eq,reduceCtorEq,not_false_eq_true,implies_true,true_and,bX]
end
end Go.Proofs.Ytfokaoeinpnagaa.Ev
namespace Go.Proofs.Ytfokaoeinpnagaa.Kc
open Go Ev
variable {ext : Env} {F n:Nat} {θ:Th}
def pA : CC:=(.seq (.reg [⟨(some 4),none,(.box 52 (.t 0))⟩,⟨(some 6),none,(.box 27 (.t 2))⟩,⟨(some 8),none,(.alloc 59 [(.f (.int .i64 0))])⟩] [1,3,4,6,8]) (.rU [⟨⟨(some 14),none,(.load 5 true (.t 6))⟩,[200000]⟩,⟨⟨(some 15),none,(.mv (.t 1))⟩,[200000]⟩,⟨⟨(some 16),none,(.fa 4 (.t 6))⟩,[200000]⟩,⟨⟨(some 17),none,(.load 1 false (.t 16))⟩,[200000]⟩,⟨⟨(some 18),none,(.call false 39 [(.t 15),(.t 17)])⟩,[200000]⟩,⟨⟨(some 19),none,(.mv (.t 3))⟩,[200000]⟩,⟨⟨(some 20),none,(.build [(.f (.str ⟨#[]⟩)),(.f (.int .i64 0)),(.f (.int .i64 0)),.dN,(.f (.int .i64 0)),(.f (.int .i64 0)),(.f (.int .i64 0))] [⟨0,⟨5,(.t 14)⟩⟩,⟨5,⟨1,(.t 18)⟩⟩,⟨6,⟨1,(.t 19)⟩⟩])⟩,[200000]⟩,⟨⟨(some 9),none,(.alloc 95 [(.f (.str ⟨#[]⟩)),(.f (.int .i64 0)),(.f (.int .i64 0)),.dN,(.f (.int .i64 0)),(.f (.int .i64 0)),(.f (.int .i64 0))])⟩,[]⟩] [] [] [⟨none,none,(.store 7 (.t 9) (.t 20))⟩] [1,4,6,8,9]))
def pB : CC:=(.seq (.seq (.reg [⟨(some 22),none,(.load 1 false (.t 4))⟩,⟨(some 23),none,(.mv (.t 1))⟩,⟨(some 24),none,(.load 7 true (.t 9))⟩,⟨(some 25),none,(.call false 41 [(.t 22),(.t 23),(.t 24)])⟩,⟨none,none,(.store 1 (.t 8) (.t 25))⟩] [4,6,8,9]) (.seq (.reg [⟨(some 26),none,(.load 1 false (.t 8))⟩,⟨(some 27),none,(.cmp .ne (.t 26) (.k (.one (.f (.int .i64 0)))))⟩] [4,6,8,9,27]) (.cond (.t 27) (.seq (.reg [⟨(some 28),none,(.load 1 false (.t 8))⟩,⟨none,none,(.store 1 (.t 8) (.t 28))⟩] [4,8]) .ret) .skip))) (.seq (.rU [⟨⟨(some 29),none,(.load 1 false (.t 4))⟩,[]⟩,⟨⟨(some 30),none,(.mh (.t 29))⟩,[]⟩,⟨⟨(some 31),none,(.fa 1 (.t 30))⟩,[]⟩,⟨⟨(some 32),none,(.load 1 false (.t 31))⟩,[]⟩,⟨⟨(some 33),none,(.fa 0 (.t 6))⟩,[]⟩,⟨⟨(some 34),none,(.load 3 true (.t 33))⟩,[]⟩,⟨⟨(some 35),none,(.load 7 true (.t 9))⟩,[]⟩,⟨⟨(some 36),none,(.call false 42 [(.t 35)])⟩,[]⟩] [] [] [⟨none,none,(.wZ (.agg [.str,(.int .i64),(.int .i64)]) (.t 32) (.t 34) (.t 36))⟩] [4,6,8]) (.seq (.rU [⟨⟨(some 38),none,(.load 1 false (.t 4))⟩,[]⟩,⟨⟨(some 39),none,(.mh (.t 38))⟩,[]⟩,⟨⟨(some 40),none,(.fa 2 (.t 39))⟩,[]⟩,⟨⟨(some 41),none,(.load 1 false (.t 40))⟩,[]⟩,⟨⟨(some 42),none,(.fa 0 (.t 6))⟩,[]⟩,⟨⟨(some 43),none,(.load 3 true (.t 42))⟩,[]⟩,⟨⟨(some 44),none,(.call false 44 [(.t 41),(.t 43)])⟩,[]⟩,⟨⟨(some 45),none,(.load 1 false (.t 4))⟩,[]⟩,⟨⟨(some 46),none,(.mh (.t 45))⟩,[]⟩,⟨⟨(some 47),none,(.fa 0 (.t 46))⟩,[]⟩,⟨⟨(some 48),none,(.load 1 false (.t 47))⟩,[]⟩,⟨⟨(some 49),none,(.call false 43 [(.t 44),(.t 48)])⟩,[]⟩,⟨⟨(some 37),none,(.mv (.t 49))⟩,[]⟩,⟨⟨(some 50),none,(.ext (.t 37) 0)⟩,[]⟩,⟨⟨(some 51),none,(.ext (.t 37) 1)⟩,[]⟩,⟨⟨(some 10),none,(.mv (.t 50))⟩,[]⟩] [] [] [⟨(some 11),none,(.mv (.t 51))⟩] [4,8,10,11]) (.seq (.seq (.reg [⟨(some 52),none,(.mv (.t 11))⟩,⟨(some 53),none,(.fZ (.t 52))⟩,⟨(some 54),none,(.mv (.k (.one (.f (.int .i64 0)))))⟩] [4,8,10,52,53,54]) (.block 0 (.loop [4,8,10,52,53,54] [20201,20205,20208,100000,180000,530002,530004,530006,530008,530010,530012,530014,530016,530202,530204,530206,530208,530210,530212,530214,530216,530402,530404,530406,530408,530410,530412,530414,530416,530602,530604,530606,530608,530610,530612,530614,530616,530802,530804,530806,530808,530810,530812,530814,530816,531002,531004,531006,531008,531010,531012,531014,531016,1000200,1002200] [] (.seq (.reg [⟨(some 55),none,(.cmp .lt (.t 54) (.t 53))⟩] [4,8,10,52,53,54,55]) (.seq (.cond (.t 55) .skip (.exit 0)) (.seq (.block 1 (.seq (.reg [⟨(some 56),none,(.ia 3 (.t 52) (.t 54))⟩,⟨(some 57),none,(.load 3 true (.t 56))⟩,⟨(some 13),none,(.alloc 24 [(.f (.str ⟨#[]⟩)),(.f (.int .i64 0)),(.f (.int .i64 0))])⟩,⟨none,none,(.store 3 (.t 13) (.t 57))⟩] [4,8,10,13,52,53,54]) (.rU [⟨⟨(some 58),none,(.load 1 false (.t 4))⟩,[]⟩,⟨⟨(some 59),none,(.mh (.t 58))⟩,[]⟩,⟨⟨(some 60),none,(.fa 1 (.t 59))⟩,[]⟩,⟨⟨(some 61),none,(.load 1 false (.t 60))⟩,[]⟩,⟨⟨(some 62),none,(.load 3 true (.t 13))⟩,[]⟩] [] [] [⟨none,none,(.del (.agg [.str,(.int .i64),(.int .i64)]) (.t 61) (.t 62))⟩] [4,8,10,52,53,54]))) (.reg [⟨(some 63),none,(.ar .add (.t 54) (.k (.one (.f (.int .i64 1)))))⟩,⟨(some 54),none,(.mv (.t 63))⟩] [4,8,10,52,53,54]))))))) (.seq (.reg [⟨(some 64),none,(.load 1 false (.t 4))⟩,⟨(some 65),none,(.mv (.t 10))⟩,⟨(some 66),none,(.mh (.t 64))⟩,⟨(some 67),none,(.fa 2 (.t 66))⟩,⟨none,none,(.store 1 (.t 67) (.t 65))⟩] [4,8]) (.seq (.reg [⟨none,none,(.store 1 (.t 8) (.k (.one (.f (.int .i64 0)))))⟩] [4,8]) .ret))))))
def MG : CF:=⟨4,[(.cell 8 1 false)],[],[],.skip⟩
def Z9 : CF:=⟨2,[],[],[],(.seq (.reg [⟨(some 2),none,(.load 1 false (.t 0))⟩,⟨(some 3),none,(.cmp .eq (.t 2) (.k (.one (.f (.int .i64 0)))))⟩] [0,1,3]) (.cond (.t 3) (.reg [⟨(some 4),none,(.load 1 false (.t 1))⟩,⟨(some 5),none,(.mh (.t 4))⟩,⟨(some 6),none,(.fa 3 (.t 5))⟩,⟨(some 7),none,(.load 1 false (.t 6))⟩,⟨(some 8),none,(.ar .add (.t 7) (.k (.one (.f (.int .i64 1)))))⟩,⟨(some 9),none,(.mh (.t 4))⟩,⟨(some 10),none,(.fa 3 (.t 9))⟩,⟨none,none,(.store 1 (.t 10) (.t 8))⟩] [0]) .skip))⟩
noncomputable abbrev vO (ext:Env) (F n:Nat):List AV → Option (List AV × List AV):=Me (G ext F n) F pA pB 21 (ZO (G ext F n) F Z9.body 8 4) MG
theorem MH (now:Int) (x:Se) (r:Int):vO ext F (n + 9) [.one .iy,vi now,x.v,vi r] = some ([vi 1],[.one .iy,vi now,x.v,vi r]):=by
 refine LA ?_
 have hu:=fun n=>yw (ext:=ext) (F:=F) (n:=n) now x.ttl
 have hm:=fun n=>L8 (ext:=ext) (F:=F) (n:=n) now (x.it (fD now x.ttl) r)
 simp only [vO,pA,pB,MG,Z9,hu,hm,Int.reduceEq,go_sem,Nat.reduceAdd,Nat.reduceMul,Nat.reduceEqDiff,Nat.reduceBEq,Nat.reduceMod,Nat.reduceDiv,↓reduceIte,reduceCtorEq]
theorem MI (T:θ.Ok ext) (C:nM ext) (s:Sv) (now:Int) (x:Se) (r:Int) (hF:200000000000001 ≤ F) (h1:0 ≤ s.room ∧ s.room ≤ 1000000) (h2:0 ≤ s.ch ∧ s.ch ≤ 1000000000000) (h3:s.o.length ≤ 100000) (h4:x.q.size ≤ 1000000) (h5:x.d.length ≤ 1000000) (h6:∀ y ∈ x.d,y.size ≤ 1000000):vO ext F (n + 9) [s.v,vi now,x.v,vi r] = some ([vi (uQ θ s now x r).2],[(uQ θ s now x r).1.v,vi now,x.v,vi r]):=by
 refine LA ?_
 have hu:=fun n=>yw (ext:=ext) (F:=F) (n:=n) now x.ttl
 have hm:=fun n=>Vy (F:=F) (n:=n) T s now (x.it (fD now x.ttl) r) hF h4 h5 h6
 by_cases h0:Jv θ s now (x.it (fD now x.ttl) r) = 0
 ·have hw:IntKind.i64.wrap (s.ch + 1) = s.ch + 1:=wB (by omega) (by omega)
  have hcl:=fun n=>DX (ext:=ext) (F:=F) (n:=n) C (x.it (fD now x.ttl) r) h5
  have hq:=@sS s.o x.k
  have ht:=fun n=>DW (ext:=ext) (F:=F) (n:=n) C s.o x.k (by omega) hF
  have hc:=fun n=>LZ (ext:=ext) (F:=F) (n:=n) C (C8 s.o x.k ++ [x.k]) s.room (by simp;omega) (by omega) hF
  have hup:=yA s.m (x.it (fD now x.ttl) r)
  simp only [kq,rI] at hup
  rw [h0] at hm
  have he:uQ θ s now x r = (⟨s.room,((C8 s.o x.k ++ [x.k]).take ((C8 s.o x.k ++ [x.k]).length - s.room.toNat)).foldl rid (upd s.m (x.it (fD now x.ttl) r)),(C8 s.o x.k ++ [x.k]).drop ((C8 s.o x.k ++ [x.k]).length - s.room.toNat),s.ch + 1⟩,0):=by
   unfold uQ
   simp only [ne_eq,h0,not_true_eq_false,if_false]
  rw [he]
  generalize Yg:C8 s.o x.k ++ [x.k] = t at ht hc ⊢
  generalize t.drop (t.length - s.room.toNat) = td at hc ⊢
  generalize ZL:t.take (t.length - s.room.toNat) = tt at hc ⊢
  have htl:tt.length ≤ 1000000:=by rw [← ZL,List.length_take,← Yg,List.length_append,List.length_singleton];omega
  generalize hM:upd s.m (x.it (fD now x.ttl) r) = M at hup ⊢
  simp only [vO,pA,pB,MG,Z9,hu,hm,Int.reduceEq,hcl,ht,hc,hup,hw,go_sem,Nat.reduceAdd,Nat.reduceMul,Nat.reduceEqDiff,Nat.reduceBEq,Nat.reduceMod,Nat.reduceDiv,↓reduceIte,reduceCtorEq]
  refine jW tt.length (fun i=>⟨[(4,PV.c (CV.one (PL.ptr 100000 0))),(8,PV.c (CV.one (PL.ptr 180000 0))),(10,PV.c (CV.one (PL.f (FV.sl (List.map rQ td))))),(52,PV.c (CV.one (PL.f (FV.sl (List.map rQ tt))))),(53,PV.c (CV.one (PL.f (FV.int IntKind.i64 ↑(List.map rQ tt).length)))),(54,PV.c (CV.one (PL.f (FV.int IntKind.i64 i))))],[(20201,Ob.iM [PL.f (FV.int IntKind.i64 s.room),PL.mp 530004,PL.f (FV.sl (List.map rQ s.o)),PL.f (FV.int IntKind.i64 s.ch)]),(100000,Ob.iM [PL.ptr 20201 0]),(180000,Ob.iM [PL.f (FV.int IntKind.i64 0)]),(530004,Ob.map C9 (((tt.take i).foldl rid M).map ent))]⟩) (fun _=>True) (by omega) rfl trivial (fun i hi _=>?_) (fun _=>?_)
  ·obtain ⟨k,hx,hlt,hit,h00⟩:=at_ hi
   have hn':=nx hi (by omega)
   have hdl:=yx ((tt.take i).foldl rid M) k
   have hfo:(tt.take (i + 1)).foldl rid M = rid ((tt.take i).foldl rid M) k:=by rw [List.take_add_one,hx,List.foldl_append];rfl
   simp only [List.length_map,List.getElem?_map,hlt,hx,hit,h00,hn',rQ,hdl,go_sem,Nat.reduceAdd,Nat.reduceMul,Nat.reduceEqDiff,Nat.reduceBEq,Nat.reduceMod,Nat.reduceDiv,↓reduceIte,reduceCtorEq]
   rw [hfo]
  ·have hd:=@end_ _ tt
   simp only [List.length_map,hd,hw,List.take_length,Int.reduceEq,go_sem,Nat.reduceAdd,Nat.reduceMul,Nat.reduceEqDiff,Nat.reduceBEq,Nat.reduceMod,Nat.reduceDiv,↓reduceIte,reduceCtorEq]
   done
 ·have he:uQ θ s now x r = (s,Jv θ s now (x.it (fD now x.ttl) r)):=by
   unfold uQ
   simp only [ne_eq,h0,not_false_eq_true,if_true]
  rw [he]
  simp only [vO,pA,pB,MG,Z9,hu,hm,Int.reduceEq,h0,go_sem,Nat.reduceAdd,Nat.reduceMul,Nat.reduceEqDiff,Nat.reduceBEq,Nat.reduceMod,Nat.reduceDiv,↓reduceIte,reduceCtorEq]
end Go.Proofs.Ytfokaoeinpnagaa.Kc
namespace Go.Proofs.Ytfokaoeinpnagaa.Ev
open Go
def Ga (P:Program):List Field → Nat → Bool
 | [],_=>true
 | f :: fs,i=>(f.name != "_") && (f.offset == i) && (EW P f.type).isSome && Ga P fs (i + 1)
def okT (P:Program) (t:TypeId):Bool:=!P.eqGuardType P.depth t && match P.underlying t with
 | some (.struct fs)=>!P.stoodInHeld t && Ga P fs.toList 0
 | some (.int _)=>true
 | some .string=>true
 | some .bool=>true
 | _=>false
section
variable {P : Program} {t:TypeId} {w:World}
theorem uX {k:SK} (h:EW P t = some k):(∃ i,P.underlying t = some (.int i) ∧ k = .int i) ∨ (P.underlying t = some .bool ∧ k = .bool) ∨ (P.underlying t = some .string ∧ k = .str):=by
 unfold EW at h
 split at h <;> simp_all
theorem Tg {d:Nat} {k:SK} (h:EW P t = some k) {a b:SV} (ha:a.sk = k) (hb:b.sk = k):(Op.equalIn (d + 1) t (encS a) (encS b)).run P w = .ok (decide (a = b)) w:=by
 rcases uX h with ⟨i,hu,rfl⟩ | ⟨hu,rfl⟩ | ⟨hu,rfl⟩
 ·cases a <;> cases b <;> simp_all [SV.sk,encS,Op.equalIn,run_underlying hu]
  rw [Bool.eq_iff_iff];simp
 ·cases a <;> cases b <;> simp_all [SV.sk,encS,Op.equalIn,run_underlying hu]
  rw [Bool.eq_iff_iff];simp
 ·cases a <;> cases b <;> simp_all [SV.sk,encS,Op.equalIn,run_underlying hu]
  exact Mq.uH _ _
theorem Cc {k:SK} (h:EW P t = some k) {xs:Array Value} {o:Nat} {v:Value} (hx:xs[o]? = some v):(part t xs o).run P w = .ok v w:=by
 rcases uX h with ⟨i,hu,rfl⟩ | ⟨hu,rfl⟩ | ⟨hu,rfl⟩ <;> simp [part,isAgg,run_underlying hu,hx]
theorem Aq {d:Nat} {xs ys:Array Value}:∀ {fs:List Field} {i:Nat} {ks:List SK} {ZZ9 bs:List SV},Ga P fs i = true → Jg P fs = some ks → ZZ9.map SV.sk = ks → bs.map SV.sk = ks → (∀ j:Nat,xs[i + j]? = ZZ9[j]?.map encS) → (∀ j:Nat,ys[i + j]? = bs[j]?.map encS) →
  (Op.eqFields (d + 1) xs ys fs).run P w = .ok (decide (ZZ9 = bs)) w
 | [],i,ks,ZZ9,bs,_,hk,ha,hb,_,_=>by
  cases hk
  simp only [List.map_eq_nil_iff] at ha hb
  subst ha;subst hb
  simp [Op.eqFields]
 | f :: fs,i,ks,ZZ9,bs,hf,hk,ha,hb,hx,hy=>by
  obtain ⟨k,h1,h2⟩:=zbm hk
  obtain ⟨l,h3,rfl⟩:=zmm h2
  unfold Ga at hf
  simp only [Bool.and_eq_true,bne_iff_ne,ne_eq,beq_iff_eq] at hf
  obtain ⟨⟨⟨f1,f2⟩,f3⟩,f4⟩:=hf
  cases ZZ9 with
  | nil=>simp at ha
  | cons a ZZ9 =>
  cases bs with
  | nil=>simp at hb
  | cons b bs =>
  simp only [List.map_cons,List.cons.injEq] at ha hb
  have ex:xs[f.offset]? = some (encS a):=by rw [f2];simpa using hx 0
  have ey:ys[f.offset]? = some (encS b):=by rw [f2];simpa using hy 0
  have ih:=Aq (d:=d) f4 h3 ha.2 hb.2 (fun j=>by have:=hx (j + 1);rw [show i + 1 + j = i + (j + 1) from by omega];simpa using this) (fun j=>by have:=hy (j + 1);rw [show i + 1 + j = i + (j + 1) from by omega];simpa using this)
  unfold Op.eqFields
  rw [if_pos f1]
  simp only [Sem.run_bind,Cc h1 ex,Cc h1 ey,Result.andThen_ok,Tg h1 ha.1 hb.1,List.cons.injEq]
  by_cases hab:a = b
  ·subst hab;simp [ih]
  ·simp [hab]
theorem PN {e:Bool} {n:Nat} {k:SK} (h:EW P t = some k) {a:SV} (ha:a.sk = k):(Instr.checkKey e (n + 1) t (encS a)).run P w = .ok () w:=by
 rcases uX h with ⟨i,hu,rfl⟩ | ⟨hu,rfl⟩ | ⟨hu,rfl⟩ <;> cases a <;> simp_all [SV.sk,encS,Instr.checkKey,run_underlying hu]
theorem Ec {e:Bool} {n:Nat} {cs:Array Value}:∀ {fs:List Field} {i:Nat} {ks:List SK} {ZZ9:List SV},Ga P fs i = true → Jg P fs = some ks → ZZ9.map SV.sk = ks → (∀ j:Nat,cs[i + j]? = ZZ9[j]?.map encS) →
  (forIn fs PUnit.unit (fun (f:Field) (_:PUnit)=>(do
   if f.name ≠ "_" then Instr.checkKey e (n + 1) f.type (← part f.type cs f.offset)
   pure (ForInStep.yield PUnit.unit):Sem (ForInStep PUnit)))).run P w = .ok PUnit.unit w
 | [],i,ks,ZZ9,_,_,_,_=>by simp
 | f :: fs,i,ks,ZZ9,hf,hk,ha,hx=>by
  obtain ⟨k,h1,h2⟩:=zbm hk
  obtain ⟨l,h3,rfl⟩:=zmm h2
  unfold Ga at hf
  simp only [Bool.and_eq_true,bne_iff_ne,ne_eq,beq_iff_eq] at hf
  obtain ⟨⟨⟨f1,f2⟩,f3⟩,f4⟩:=hf
  cases ZZ9 with
  | nil=>simp at ha
  | cons a ZZ9 =>
  simp only [List.map_cons,List.cons.injEq] at ha
  have ex:cs[f.offset]? = some (encS a):=by rw [f2];simpa using hx 0
  have ih:=Ec (e:=e) (n:=n) f4 h3 ha.2 (fun j=>by have:=hx (j + 1);rw [show i + 1 + j = i + (j + 1) from by omega];simpa using this)
  rw [List.forIn_cons]
  simp only [if_pos f1,Sem.run_bind,Cc h1 ex,Result.andThen_ok,PN h1 ha.1,Sem.run_pure]
  exact ih
theorem PO {e:Bool} {n:Nat} {fs:Array Field} {ks:List SK} {ZZ9:List SV} (hu:P.underlying t = some (.struct fs)) (hf:Ga P fs.toList 0 = true) (hk:Jg P fs.toList = some ks) (ha:ZZ9.map SV.sk = ks):(Instr.checkKey e (n + 2) t (.agg (ZZ9.map encS).toArray)).run P w = .ok () w:=by
 have:=Ec (w:=w) (e:=e) (n:=n) hf hk ha (cs:=(ZZ9.map encS).toArray) (fun j=>by simp)
 unfold Instr.checkKey
 simp only [Sem.run_bind,run_underlying hu,Result.andThen_ok]
 rw [← Array.forIn_toList]
 simp only [ne_eq,ite_not] at this ⊢
 simp at this ⊢
 rw [this]
 rfl
theorem PS {n:Nat} {ZZ9:List SV} (hs:∀ (n:Nat) (a:SV),Instr.sameBits n (encS a) (encS a) = true):Instr.sameBits (n + 1) (.agg (ZZ9.map encS).toArray) (.agg (ZZ9.map encS).toArray) = true:=by
 unfold Instr.sameBits
 simp only [beq_self_eq_true,Bool.true_and,List.all_eq_true]
 intro p hp
 have:∀ (l:List Value) (p:Value × Value),p ∈ l.zip l → p.1 = p.2 ∧ p.1 ∈ l:=by
  intro l
  induction l with
  | nil=>intro p hp;simp at hp
  | cons x l ih =>
   intro p hp
   rcases List.mem_cons.mp hp with rfl | hp
   ·exact ⟨rfl,by simp⟩
   ·exact ⟨(ih p hp).1,List.mem_cons_of_mem _ (ih p hp).2⟩
 obtain ⟨h1,h2⟩:=this _ _ hp
 obtain ⟨x,y⟩:=p
 simp only at h1 h2
 subst h1
 simp only [List.mem_map] at h2
 obtain ⟨s,_,rfl⟩:=h2
 exact hs _ s
theorem Ia {n:Nat} (a:SV):Instr.sameBits n (encS a) (encS a) = true:=by
 cases a <;> simp [encS,Instr.sameBits]
 rw [Mq.uH];simp
theorem Ed {ks:List SK} {a:KV} (h:a.ks = .agg ks):∃ ZZ9,a = .agg ZZ9 ∧ ZZ9.map SV.sk = ks:=by
 cases a with
 | one x=>cases h
 | agg ZZ9=>exact ⟨ZZ9,rfl,by simpa [KV.ks] using h⟩
theorem Au {k:SK} {a:KV} (h:a.ks = .one k):∃ x,a = .one x ∧ x.sk = k:=by
 cases a with
 | one x=>exact ⟨x,rfl,by simpa [KV.ks] using h⟩
 | agg ZZ9=>cases h
theorem PU {n:Nat} {d:TypeDesc} (hu:P.underlying t = some d) (hd:∀ ms,d ≠ .interface ms):(Op.eqGuardIn (n + 1) t .nilIface .nilIface).run P w = .ok false w:=by
 unfold Op.eqGuardIn
 simp only [Sem.run_bind,run_underlying hu,Result.andThen_ok]
 cases d <;> first | rfl | exact absurd rfl (hd _)
theorem Ce {d:TypeDesc} (hu:P.underlying t = some d) (hd:∀ ms,d ≠ .interface ms) (w:World):(Op.eqGuardIn Op.maxDepth t .nilIface .nilIface).run P w = .ok false w:=by
 unfold Op.maxDepth
 exact PU hu hd
set_option maxHeartbeats 2000000 in
theorem VJ (h:okT P t = true):lH P t:=by
 unfold okT at h
 rw [Bool.and_eq_true] at h
 obtain ⟨hg,h⟩:=h
 have hg':P.eqGuardType P.depth t = false:=by simpa using hg
 have gd:(∀ w,(Op.eqGuardIn Op.maxDepth t .nilIface .nilIface).run P w = .ok false w) → ∀ op x y,∀ (a b:Value) (w:World),(eqGuard op t x y a b).run P w = .ok () w:=by
  intro hn op x y a b w
  have key:(Sem.run P (match a,b with
   | .nilIface,.nilIface=>do
    if (x matches .const _) || (y matches .const _) then return
    if ← Op.eqGuardIn Op.maxDepth t a b then unsupported (.noEntry "binop/eql: two nil values of an interface type with methods, neither of them the literal nil")
   | .agg _,.agg _=>do
    if !(← program).eqGuardType (← program).depth t then return
    if ← Op.eqGuardIn Op.maxDepth t a b then unsupported (.noEntry "binop/eql: two nil values of an interface type with methods, in a part of a struct or an array")
   | _,_=>pure ()) w) = .ok () w:=by
   cases a <;> cases b <;> first | rfl | (simp only [Sem.run_bind,run_program,Result.andThen_ok,hg'];rfl) | skip
   cases x <;> cases y <;> first | rfl | simp [hn]
  unfold eqGuard
  split
  ·exact key
  ·exact key
  ·rfl
 cases hu:P.underlying t with
 | none=>rw [hu] at h;cases h
 | some d =>
  rw [hu] at h
  have sc:∀ k,EW P t = some k → xI P t = some (.one k) → (∀ w,(Op.eqGuardIn Op.maxDepth t .nilIface .nilIface).run P w = .ok false w) → (∀ a:SV,a.sk = k → MapKept.IsKey d (encS a)) → (∀ a b:SV,a.sk = k → b.sk = k → Instr.sameNow d (encS a) (encS b) = some (decide (a = b))) → lH P t:=by
   intro k hk hks hn h1 h2
   have hcase:∀ {sh},xI P t = some sh → sh = .one k:=fun e=>by rw [hks] at e;cases e;rfl
   refine ⟨fun sh e=>?_,fun sh e a b w ha hb=>?_,gd hn⟩
   ·obtain rfl:=hcase e
    refine Mq.Key.Oj hu (fun a ha=>?_) (fun a b ha hb=>?_) (fun a ha=>?_)
    ·obtain ⟨x,rfl,hx⟩:=Au ha;exact h1 x hx
    ·obtain ⟨x,rfl,hx⟩:=Au ha
     obtain ⟨y,rfl,hy⟩:=Au hb
     simp only [nI,KV.one.injEq]
     exact h2 x y hx hy
    ·obtain ⟨x,rfl,hx⟩:=Au ha;exact Ia x
   ·obtain rfl:=hcase e
    obtain ⟨x,rfl,hx⟩:=Au ha
    obtain ⟨y,rfl,hy⟩:=Au hb
    simp only [nI,KV.one.injEq]
    unfold Op.equal Op.maxDepth
    exact Tg hk hx hy
  cases d with
  | int i =>
   refine sc (.int i) (by simp [EW,hu]) (by simp [xI,EW,hu]) (Ce hu (fun _ h=>by cases h)) (fun a ha=>?_) (fun a b ha hb=>?_)
   ·cases a <;> simp_all [SV.sk,encS,MapKept.IsKey]
   ·cases a <;> cases b <;> simp_all [SV.sk,encS,Instr.sameNow]
    rw [Bool.eq_iff_iff];simp
  | bool =>
   refine sc .bool (by simp [EW,hu]) (by simp [xI,EW,hu]) (Ce hu (fun _ h=>by cases h)) (fun a ha=>?_) (fun a b ha hb=>?_)
   ·cases a <;> simp_all [SV.sk,encS,MapKept.IsKey]
   ·cases a <;> cases b <;> simp_all [SV.sk,encS,Instr.sameNow]
    rw [Bool.eq_iff_iff];simp
  | string =>
   refine sc .str (by simp [EW,hu]) (by simp [xI,EW,hu]) (Ce hu (fun _ h=>by cases h)) (fun a ha=>?_) (fun a b ha hb=>?_)
   ·cases a <;> simp_all [SV.sk,encS,MapKept.IsKey]
   ·cases a <;> cases b <;> simp_all [SV.sk,encS,Instr.sameNow]
    exact Mq.uH _ _
  | struct fs =>
   simp only [Bool.and_eq_true,Bool.not_eq_true'] at h
   have hcase:∀ {sh},xI P t = some sh → ∃ ks,Jg P fs.toList = some ks ∧ sh = .agg ks:=fun e=>by
    unfold xI at e
    rw [hu] at e
    obtain ⟨ks,h1,h2⟩:=zmm e
    exact ⟨ks,h1,h2.symm⟩
   have idx:∀ (ZZ9:List SV) (j:Nat),((ZZ9.map encS).toArray)[0 + j]? = ZZ9[j]?.map encS:=fun ZZ9 j=>by simp
   have heq:∀ sh,xI P t = some sh → ∀ (a b:KV) (w:World),a.ks = sh → b.ks = sh → (Op.equal t (nI a) (nI b)).run P w = .ok (decide (a = b)) w:=by
    intro sh e a b w ha hb
    obtain ⟨ks,hks,rfl⟩:=hcase e
    obtain ⟨ZZ9,rfl,ha1⟩:=Ed ha
    obtain ⟨bs,rfl,hb1⟩:=Ed hb
    have hf:P.fieldsOf t = fs:=by simp [Program.fieldsOf,hu]
    unfold Op.equal Op.maxDepth
    simp only [nI,KV.agg.injEq]
    rw [run_equalIn_struct (P:=P) w _ t _ _ (by rw [hf];exact hu) h.1,hf]
    exact Aq h.2 hks ha1 hb1 (idx ZZ9) (idx bs)
   refine ⟨fun sh e=>?_,heq,gd (Ce hu (fun _ h=>by cases h))⟩
   ·obtain ⟨ks,hks,rfl⟩:=hcase e
    refine Mq.Key.KG hu (fun e' a w ha=>?_) (fun a b w ha hb=>heq _ e a b w ha hb) (fun a ha=>?_) (fun a ha=>?_)
    ·obtain ⟨ZZ9,rfl,ha1⟩:=Ed ha
     exact PO (n:=9998) hu h.2 hks ha1
    ·obtain ⟨ZZ9,rfl,ha1⟩:=Ed ha
     exact PS (n:=9999) (fun n a=>Ia a)
    ·obtain ⟨ZZ9,rfl,ha1⟩:=Ed ha
     exact ⟨_,rfl⟩
  | _=>simp at h
end
end Go.Proofs.Ytfokaoeinpnagaa.Ev

/- A part of the proof of StoreBounds: cut, joined and given short names by a program of this session (wip/tools/pack.py); Lean checks it. No condition. -/
import Derived.Test.YtdkkgecdhapfhaaPSBdsg
import Derived.Test.YtdkkgecdhapfhaaPSBdsf
import Derived.Below
import Derived.Defers
import Derived.Test.YtdkkgecdhapfhaaPSBdsd
import Derived.Laws.StructEq
import Derived.Test.YtdkkgecdhapfhaaProg
import Derived.WalkKit
set_option linter.unusedSectionVars false
set_option linter.unusedSimpArgs false
set_option linter.unusedVariables false
namespace Go.Proofs.Ytdkkgecdhapfhaa.Ka
open Go Ev
variable {ext : Env} {F n:Nat}
structure Th where
  jC:ByteArray → Bool
  low:ByteArray → ByteArray
  wh:Int → ByteArray → Bool
  lw:Int → ByteArray → ByteArray
structure Th.Ok (θ:Th) (ext:Env):Prop where
  nc:∀ q,q.size ≤ 1000000 → ext 91 [vs q] = some ([vb (θ.jC q)],[vs q])
  nl:∀ q,q.size ≤ 1000000 → ext 92 [vs q] = some ([vs (θ.low q)],[vs q])
  rc:∀ q,q.size ≤ 1000000 → ext 100 [vs q] = some ([vb (θ.jC q)],[vs q])
  rl:∀ q,q.size ≤ 1000000 → ext 101 [vs q] = some ([vs (θ.low q)],[vs q])
  dc:∀ k q,q.size ≤ 1000000 → ext 94 [vi k,vs q] = some ([vb (θ.wh k q)],[vi k,vs q])
  dl:∀ k q,q.size ≤ 1000000 → ext 95 [vi k,vs q] = some ([vs (θ.lw k q)],[vi k,vs q])
  ec:∀ k q,q.size ≤ 1000000 → ext 83 [vi k,vs q] = some ([vb (θ.wh k q)],[vi k,vs q])
  el:∀ k q,q.size ≤ 1000000 → ext 84 [vi k,vs q] = some ([vs (θ.lw k q)],[vi k,vs q])
variable {θ : Th}
theorem X7 (T:θ.Ok ext) (q:ByteArray) (h:q.size ≤ 1000000):G ext F (n + 1) 91 [vs q] = some ([vb (θ.jC q)],[vs q]):=(congrFun (qX rfl) _).trans (T.nc q h)
theorem X8 (T:θ.Ok ext) (q:ByteArray) (h:q.size ≤ 1000000):G ext F (n + 1) 92 [vs q] = some ([vs (θ.low q)],[vs q]):=(congrFun (qX rfl) _).trans (T.nl q h)
theorem X9 (T:θ.Ok ext) (k:Int) (q:ByteArray) (h:q.size ≤ 1000000):G ext F (n + 1) 94 [vi k,vs q] = some ([vb (θ.wh k q)],[vi k,vs q]):=(congrFun (qX rfl) _).trans (T.dc k q h)
theorem Ya (T:θ.Ok ext) (k:Int) (q:ByteArray) (h:q.size ≤ 1000000):G ext F (n + 1) 95 [vi k,vs q] = some ([vs (θ.lw k q)],[vi k,vs q]):=(congrFun (qX rfl) _).trans (T.dl k q h)
def Th.key (θ:Th) (q:ByteArray) (t c:Int):Bool:=decide (θ.jC q = true ∧ θ.low q = q ∧ (0 ≤ t ∧ t ≤ 65535) ∧ (0 ≤ c ∧ c ≤ 65535))
def Th.dat (θ:Th) (t:Int) (d:List ByteArray):Bool:=decide ((∀ x ∈ d,θ.wh t x = true ∧ θ.lw t x = x) ∧ d.Nodup)
def Th.set (θ:Th) (q:ByteArray) (t c:Int) (d:List ByteArray) (ttl:Int):Bool:=decide (θ.key q t c = true ∧ θ.dat t d = true ∧ (0 ≤ ttl ∧ ttl < 2147483648) ∧ d ≠ [])
theorem Gl {l:List ByteArray} {s:ByteArray}:EW l s = true ↔ s ∈ l:=by
  unfold EW
  rw [List.any_eq_true]
  simp
theorem Yb {l:List ByteArray}:((l.map gB).all fun r=>r.length == 1) = true:=by
  rw [List.all_eq_true]
  intro r hr
  obtain ⟨x, -,rfl⟩:=List.mem_map.mp hr
  rfl
theorem KU {t:Int} {d:List ByteArray} {i:Nat} {x:ByteArray} (hx:d[i]? = some x) (h:θ.dat t (d.take i) = true) (hc:θ.wh t x = true) (hw:θ.lw t x = x) (hi:EW (d.take i) x = false):θ.dat t (d.take (i + 1)) = true:=by
  unfold Th.dat at *
  have hi:¬ x ∈ d.take i:=fun h=>by rw [Gl.mpr h] at hi;cases hi
  rw [decide_eq_true_eq] at *
  refine ⟨all_succ h.1 hx ⟨hc,hw⟩,?_⟩
  rw [List.take_add_one,hx,Option.toList_some]
  refine List.nodup_append.mpr ⟨h.2,List.pairwise_singleton _ _,fun a ha b hb=>?_⟩
  rw [List.mem_singleton] at hb;subst hb;rintro rfl;exact hi ha
theorem EY {t:Int} {d:List ByteArray} {i:Nat} {x:ByteArray} (hx:d[i]? = some x) (h:θ.wh t x = false ∨ θ.lw t x ≠ x ∨ EW (d.take i) x = true):θ.dat t d = false:=by
  unfold Th.dat
  rw [decide_eq_false_iff_not]
  rintro ⟨h1,h2⟩
  have hm:=h1 x (List.mem_of_getElem? hx)
  rcases h with h | h | h
  · rw [h] at hm;simp at hm
  · exact h hm.2
  · rw [Gl,List.mem_take_iff_getElem] at h
    obtain ⟨j,hj,he⟩:=h
    have h3:=List.getElem?_eq_some_iff.mp hx
    exact List.pairwise_iff_getElem.mp h2 j i (by omega) h3.1 (by omega) (by rw [he,h3.2])
theorem Iz (T:θ.Ok ext) (q:ByteArray) (t c:Int) (d:List ByteArray) (ttl:Int) (hl:d.length ≤ 1000000000000) (hF:200000000000001 ≤ F) (hq:q.size ≤ 1000000) (hd:∀ x ∈ d,x.size ≤ 1000000):G ext F (n + 3) 73 [xG q t c d ttl] = some ([vb (θ.set q t c d ttl)],[xG q t c d ttl]):=by
  refine gU (cf:=c73) rfl ?_
  have h1:=fun n=>X7 (F:=F) (n:=n) T q hq
  have h2:=fun n=>X8 (F:=F) (n:=n) T q hq
  simp only [c73,h1,h2,Q8,go_sem,Nat.reduceAdd,Nat.reduceMul,Nat.reduceEqDiff,Nat.reduceBEq,Nat.reduceMod,Nat.reduceDiv,↓reduceIte,reduceCtorEq]
  repeat' (refine cu (fun h=>?_) (fun h=>?_) <;> simp only [h,h1,h2,Q8,go_sem,Nat.reduceAdd,Nat.reduceMul,Nat.reduceEqDiff,Nat.reduceBEq,Nat.reduceMod,Nat.reduceDiv,↓reduceIte,reduceCtorEq])
  · refine qY d.length (fun i=>⟨[(1,PV.c (CV.one (PL.ptr 40000 0))),(3,PV.c (CV.one (PL.ptr 80000 0))),(39,PV.c (CV.one (PL.f (FV.sl (List.map gB d))))),(40,PV.c (CV.one (PL.f (FV.int IntKind.i64 (List.map gB d).length)))),(41,PV.c (CV.one (PL.f (FV.int .i64 i))))],[(40000,.mg [.f (.str q),.f (.int .i64 t),.f (.int .i64 c),.f (.sl (d.map gB)),.f (.int .i64 ttl)]),(80000,Ob.mg [PL.f (FV.str q),PL.f (FV.int IntKind.i64 t),PL.f (FV.int IntKind.i64 c)])]⟩) (fun i=>θ.dat t (d.take i) = true) (by omega) rfl (by simp [Th.dat]) (fun i hi hP=>?_) (fun hP=>?_)
    · obtain ⟨x,hx,hlt,ht,h0⟩:=at_ hi
      have hn:=nx hi (Nat.le_trans hl (by decide))
      have h1:=fun n=>X9 (F:=F) (n:=n) T t x (hd x (List.mem_of_getElem? hx))
      have h2:=fun n=>Ya (F:=F) (n:=n) T t x (hd x (List.mem_of_getElem? hx))
      have h3:=fun n=>Dl (ext:=ext) (F:=F) (n:=n) (d.take i) x (by simp;omega) hF
      have hle:(i:Int) ≤ (d.length:Int):=by omega
      have hrw:=@Yb d
      have hcut:(0:Int) ≤ i ∧ (i:Int) ≤ d.length:=by omega
      simp only [List.length_map,List.getElem?_map,hlt,hx,ht,h0,gB,h1,h2,h3,go_sem,Nat.reduceAdd,Nat.reduceMul,Nat.reduceEqDiff,Nat.reduceBEq,Nat.reduceMod,Nat.reduceDiv,↓reduceIte,reduceCtorEq]
      repeat' (refine cu (fun h=>?_) (fun h=>?_) <;> simp only [h,List.length_map,List.getElem?_map,hlt,hx,ht,h0,hn,gB,h1,h2,h3,hle,hrw,← List.map_take,List.drop_zero,Nat.sub_zero,hcut,go_sem,Nat.reduceAdd,Nat.reduceMul,Nat.reduceEqDiff,Nat.reduceBEq,Nat.reduceMod,Nat.reduceDiv,↓reduceIte,reduceCtorEq])
      · simp [Th.set,EY hx (.inr (.inr h))]
      · exact KU hx hP (by assumption) (of_decide_eq_true (by assumption)) h
      · simp [Th.set,EY hx (.inr (.inl (of_decide_eq_false h)))]
      · simp [Th.set,EY hx (.inl h)]
    · have hd:=@end_ _ d
      rw [List.take_length] at hP
      simp only [List.length_map,hd,go_sem,Nat.reduceAdd,Nat.reduceMul,Nat.reduceEqDiff,Nat.reduceBEq,Nat.reduceMod,Nat.reduceDiv,↓reduceIte,reduceCtorEq]
      repeat' (refine cu (fun h=>?_) (fun h=>?_) <;> simp only [h,List.length_map,hd,go_sem,Nat.reduceAdd,Nat.reduceMul,Nat.reduceEqDiff,Nat.reduceBEq,Nat.reduceMod,Nat.reduceDiv,↓reduceIte,reduceCtorEq])
      all_goals (simp [Th.set,Th.key,hP];simp_all)
      all_goals (cases d <;> simp <;> omega)
  all_goals (simp [Th.set,Th.key];try simp_all)
  all_goals (try omega)
end Go.Proofs.Ytdkkgecdhapfhaa.Ka
set_option maxRecDepth 4000
namespace Go.Proofs.Ytdkkgecdhapfhaa.Ka
open Go Ev
variable {ext : Env} {F n:Nat} {θ:Th}
structure Sr where
  room:Int
  l:List It
  ch:Int
abbrev Sr.v (s:Sr):AV:=vst s.room s.l s.ch
abbrev It.v (x:It):AV:=vit x.q x.t x.c x.d x.ttl x.u x.r
def NZ : It:=⟨⟨#[]⟩,0,0,[],0,0,0⟩
def old (l:List It) (k:Qn):Option It:=l.find? fun x=>decide (x.k = k)
def rid (l:List It) (k:Qn):List It:=l.eraseP fun x=>decide (x.k = k)
def N7 (s:Sr) (now:Int) (k:Qn):Sr × It × Bool:=match old s.l k with
  | some x=>if fU now x.u then (⟨s.room,rid s.l k ++ [x],s.ch⟩,x,true) else (s,NZ,false)
  | none=>(s,NZ,false)
def y7 (room:Int) (l:List It):List It:=if room < l.length then l.drop 1 else l
def uL (θ:Th) (s:Sr) (now:Int) (x:Se) (r:Int):Sr × Int :=
  if s.room = 0 ∨ Ck now = false ∨ θ.set x.q x.t x.c x.d x.ttl = false ∨ r < 1 ∨ 5 < r then (s,1)
  else if fU now (dD now x.ttl) = false then (s,14)
  else match old s.l x.k with
    | some o=>if mH o.r (fU now o.u) r = false then (s,10) else (⟨s.room,y7 s.room (rid s.l x.k ++ [⟨x.q,x.t,x.c,x.d,x.ttl,dD now x.ttl,r⟩]),s.ch + 1⟩,0)
    | none=>(⟨s.room,y7 s.room (rid s.l x.k ++ [⟨x.q,x.t,x.c,x.d,x.ttl,dD now x.ttl,r⟩]),s.ch + 1⟩,0)
abbrev Th.arg (θ:Th) (s:Sr) (now:Int) (x:Se) (r:Int):Prop:=s.room = 0 ∨ Ck now = false ∨ θ.set x.q x.t x.c x.d x.ttl = false ∨ r < 1 ∨ 5 < r
theorem KW {s:Sr} {now:Int} {x:Se} {r:Int} (h:θ.arg s now x r):uL θ s now x r = (s,1):=by unfold uL;exact if_pos h
theorem Gn {s:Sr} {now:Int} {x:Se} {r:Int} (h:¬ θ.arg s now x r) (h2:fU now (dD now x.ttl) = false):uL θ s now x r = (s,14):=by
  unfold uL;rw [if_neg h,if_pos h2]
theorem Gp {s:Sr} {now:Int} {x:Se} {r:Int} {o:It} (h:¬ θ.arg s now x r) (h2:fU now (dD now x.ttl) = true) (ho:old s.l x.k = some o) (h3:mH o.r (fU now o.u) r = false):uL θ s now x r = (s,10):=by
  unfold uL;rw [if_neg h,if_neg (by rw [h2];decide),ho];exact if_pos h3
theorem Gq {s:Sr} {now:Int} {x:Se} {r:Int} {l:List It} (h:¬ θ.arg s now x r) (h2:fU now (dD now x.ttl) = true) (h3:∀ o,old s.l x.k = some o → mH o.r (fU now o.u) r = true) (hl:y7 s.room (rid s.l x.k ++ [⟨x.q,x.t,x.c,x.d,x.ttl,dD now x.ttl,r⟩]) = l):uL θ s now x r = (⟨s.room,l,s.ch + 1⟩,0):=by
  subst hl
  unfold uL;rw [if_neg h,if_neg (by rw [h2];decide)]
  cases ho:old s.l x.k with
  | none=>rfl
  | some o=>exact if_neg (by rw [h3 o ho];decide)
end Go.Proofs.Ytdkkgecdhapfhaa.Ka
set_option maxRecDepth 4000
namespace Go.Proofs.Ytdkkgecdhapfhaa.Ka
open Go Ev
variable {ext : Env} {F n:Nat}
theorem Q9 {α:Type} {body:St → Option (Out × St)} {rs:St → St} {k:Out × St → Prop} {u:Tok k} {F:Nat} {σ:St} (N:Nat) (T:α → St) (P:Nat → α → Prop) (hF:N < F) (x:α) (hs:rs σ = T x) (h0:P 0 x)
    (step:∀ i x,i < N → P i x → W (fun p=>match p.1 with
      | .jr=>∃ y,rs p.2 = T y ∧ P (i + 1) y
      | o=>k (o,p.2)) ⟨⟩ (body (T x)))
    (last:∀ x,P N x → W (fun p=>match p.1 with
      | .jr=>False
      | o=>k (o,p.2)) ⟨⟩ (body (T x))):W k u (iter body rs F σ):=by
  refine Bg (fun m σ=>∃ i x,i ≤ N ∧ m = N - i ∧ rs σ = T x ∧ P i x) ?_ F N σ hF ⟨0,x,Nat.zero_le _,rfl,hs,h0⟩
  rintro m σ ⟨i,x,hi,rfl,hr,hP⟩
  rw [hr]
  by_cases hlt:i < N
  · refine uK (step i x hlt hP) fun p hp=>?_
    obtain ⟨o,s⟩:=p
    cases o with
    | jr =>
      obtain ⟨y,h1,h2⟩:=hp
      exact ⟨N - (i + 1),by omega,i + 1,y,by omega,rfl,h1,h2⟩
    | ext j=>exact hp
    | ret=>exact hp
  · have:i = N:=by omega
    subst this
    refine uK (last x hP) fun p hp=>?_
    obtain ⟨o,s⟩:=p
    cases o with
    | jr=>exact hp.elim
    | ext j=>exact hp
    | ret=>exact hp
abbrev Qn.f (k:Qn):List FV:=[.str k.q,.int .i64 k.t,.int .i64 k.c]
abbrev fnQ (k:Qn):AV:=.one (.fn 90 [k.f])
theorem KX (x k:Qn):G ext F (n + 1) 90 [vq x.q x.t x.c,.one (.fp k.f)] = some ([vb (decide (x = k))],[vq x.q x.t x.c,.one (.fp k.f)]):=by
  refine gU (cf:=c90) rfl ?_
  simp only [c90,go_sem,Nat.reduceAdd,Nat.reduceMul,Nat.reduceEqDiff,Nat.reduceBEq,Nat.reduceMod,Nat.reduceDiv,↓reduceIte,reduceCtorEq]
  cases x;cases k;simp
def Ra (l:List Qn) (k:Qn):Int:=match l.findIdx? fun x=>decide (x = k) with | some i=>i | none=>-1
theorem TR {l:List Qn} {k:Qn} (h:∀ x ∈ l,x ≠ k):Ra l k = -1:=by
  have:l.findIdx? (fun x=>decide (x = k)) = none:=List.findIdx?_eq_none_iff.mpr fun x hx=>by simpa using h x hx
  simp [Ra,this]
theorem TS {l:List Qn} {k:Qn} {i:Nat} {x:Qn} (h:∀ x ∈ l.take i,x ≠ k) (hx:l[i]? = some x) (hk:x = k):Ra l k = i:=by
  have hi:=(List.getElem?_eq_some_iff.mp hx)
  have:l.findIdx? (fun x=>decide (x = k)) = some i:=by
    refine List.findIdx?_eq_some_iff_getElem.mpr ⟨hi.1,by simp [hi.2,hk],fun j hj=>?_⟩
    have:=h (l[j]'(by have:=hi.1;omega)) (by rw [List.mem_take_iff_getElem];exact ⟨j,by have:=hi.1;omega,rfl⟩)
    simpa using this
  simp [Ra,this]
theorem TT (l:List Qn) (k:Qn):(Ra l k = -1 ∧ ∀ x ∈ l,x ≠ k) ∨ ∃ (i:Nat),Ra l k = (i:Int) ∧ ∃ h:i < l.length,(∀ x ∈ l.take i,x ≠ k) ∧ l[i] = k:=by
  have hp:Ra l k = match l.findIdx? fun x=>decide (x = k) with | some i=>(i:Int) | none=>-1:=rfl
  cases h:l.findIdx? fun x=>decide (x = k) with
  | none =>
    rw [h] at hp
    exact .inl ⟨hp,fun x hx=>by simpa using List.findIdx?_eq_none_iff.mp h x hx⟩
  | some i =>
    rw [h] at hp
    obtain ⟨hi,hx,hb⟩:=List.findIdx?_eq_some_iff_getElem.mp h
    refine .inr ⟨i,hp,hi,fun x hx=>?_,by simpa using hx⟩
    obtain ⟨j,hj,rfl⟩:=List.mem_take_iff_getElem.mp hx
    have:=hb j (by omega)
    simpa using this
theorem Bh (l:List Qn) (k:Qn) (hl:l.length ≤ 1000000000000) (hF:200000000000001 ≤ F):G ext F (n + 2) 108 [vl (l.map rQ),fnQ k] = some ([vi (Ra l k)],[vl (l.map rQ),fnQ k]):=by
  refine gU (cf:=NQ) rfl ?_
  simp only [NQ,go_sem,Nat.reduceAdd,Nat.reduceMul,Nat.reduceEqDiff,Nat.reduceBEq,Nat.reduceMod,Nat.reduceDiv,↓reduceIte,reduceCtorEq]
  refine qY l.length (fun i=>⟨[(0,PV.c (CV.one (PL.f (FV.sl (l.map rQ))))),(1,PV.c (CV.one (PL.fn 90 [k.f]))),(7,PV.c (CV.one (PL.f (FV.int .i64 (l.map rQ).length)))),(8,PV.c (CV.one (PL.f (FV.int .i64 i))))],[]⟩) (fun i=>∀ x ∈ l.take i,x ≠ k) (by omega) rfl (by simp) (fun i hi hP=>?_) (fun hP=>?_)
  · obtain ⟨x,hx,hd,ht,h0⟩:=at_ hi
    have hn:=nx hi (Nat.le_trans hl (by decide))
    have hq:=fun n=>KX (ext:=ext) (F:=F) (n:=n) x k
    simp only [List.length_map,List.getElem?_map,hd,hx,ht,h0,rQ,hq,go_sem,Nat.reduceAdd,Nat.reduceMul,Nat.reduceEqDiff,Nat.reduceBEq,Nat.reduceMod,Nat.reduceDiv,↓reduceIte,reduceCtorEq]
    repeat' (refine cu (fun h=>?_) (fun h=>?_) <;> simp only [h,List.length_map,List.getElem?_map,hd,hx,ht,h0,hn,rQ,hq,go_sem,Nat.reduceAdd,Nat.reduceMul,Nat.reduceEqDiff,Nat.reduceBEq,Nat.reduceMod,Nat.reduceDiv,↓reduceIte,reduceCtorEq])
    · rw [TS hP hx (by simpa using h)]
    · exact all_succ hP hx (by simpa using h)
  · have hd:=@end_ _ l
    simp only [List.length_map,hd,go_sem,Nat.reduceAdd,Nat.reduceMul,Nat.reduceEqDiff,Nat.reduceBEq,Nat.reduceMod,Nat.reduceDiv,↓reduceIte,reduceCtorEq]
    repeat' (refine cu (fun h=>?_) (fun h=>?_) <;> simp only [h,List.length_map,hd,go_sem,Nat.reduceAdd,Nat.reduceMul,Nat.reduceEqDiff,Nat.reduceBEq,Nat.reduceMod,Nat.reduceDiv,↓reduceIte,reduceCtorEq])
    rw [List.take_length] at hP
    rw [TR hP]
theorem N8 {l:List Qn} {k x:Qn} {i:Nat} (h:l[i]? = some x):(l.take (i + 1)).filter (fun y=>decide (y ≠ k)) = (l.take i).filter (fun y=>decide (y ≠ k)) ++ if x = k then [] else [x]:=by
  rw [List.take_add_one,List.filter_append,h]
  by_cases hx:x = k <;> simp [hx]
theorem y8 (l:List Qn) (k:Qn) (hl:l.length ≤ 1000000000000) (hF:200000000000001 ≤ F):G ext F (n + 3) 89 [.one (.own 3 (l.map rQ)),fnQ k] = some ([.one (.own 3 ((l.filter fun x=>decide (x ≠ k)).map rQ))],[.one .any,fnQ k]):=by
  refine gU (cf:=c89) rfl ?_
  have h1:=fun n=>Bh (ext:=ext) (F:=F) (n:=n) l k hl hF
  simp only [c89,h1,go_sem,Nat.reduceAdd,Nat.reduceMul,Nat.reduceEqDiff,Nat.reduceBEq,Nat.reduceMod,Nat.reduceDiv,↓reduceIte,reduceCtorEq]
  rcases TT l k with ⟨hp,hno⟩ | ⟨i0,hp,hi0,hpre,hat⟩
  · rw [hp]
    simp only [show decide ((-1:Int) = -1) = true from rfl,go_sem,Nat.reduceAdd,Nat.reduceMul,Nat.reduceEqDiff,Nat.reduceBEq,Nat.reduceMod,Nat.reduceDiv,↓reduceIte,reduceCtorEq]
    rw [List.filter_eq_self.mpr (fun x hx=>by simpa using hno x hx)]
  · rw [hp]
    have hne:decide ((i0:Int) = -1) = false:=by simp
    simp only [hne,nx hi0 (Nat.le_trans hl (by decide)),List.length_map,go_sem,Nat.reduceAdd,Nat.reduceMul,Nat.reduceEqDiff,Nat.reduceBEq,Nat.reduceMod,Nat.reduceDiv,↓reduceIte,reduceCtorEq]
    refine Q9 (l.length - (i0 + 1)) (fun x:List Qn × Nat × Nat=>⟨[(0,PV.c (CV.one (PL.own 20202 x.1.length))),(1,PV.c (CV.one (PL.fn 90 [k.f]))),(5,PV.c (CV.one (PL.f (FV.int IntKind.i64 x.2.1)))),(6,PV.c (CV.one (PL.f (FV.int IntKind.i64 x.2.2))))],[(20202,Ob.row 3 (x.1.map rQ))]⟩) (fun r x=>x.2.2 = i0 + 1 + r ∧ x.2.1 < x.2.2 ∧ x.1.length = l.length ∧ x.1.take x.2.1 = (l.take x.2.2).filter (fun y=>decide (y ≠ k)) ∧ x.1.drop x.2.2 = l.drop x.2.2) (by omega) (l,i0,i0 + 1) rfl ⟨rfl,Nat.lt_succ_self _,rfl,?_,rfl⟩ (fun r x hr hP=>?_) (fun x hP=>?_)
    · rw [List.take_add_one,List.filter_append,List.filter_eq_self.mpr (fun x hx=>by simpa using hpre x hx),List.getElem?_eq_getElem hi0]
      simp [hat]
    · obtain ⟨R,c,j⟩:=x
      obtain ⟨rfl,hc,hlen,htk,hdr⟩:=hP
      simp only at hc hlen htk hdr ⊢
      have hj:i0 + 1 + r < R.length:=by omega
      obtain ⟨x,hx,hd,ht,h0⟩:=at_ hj
      have hn:=nx hj (by omega)
      have hq:=fun n=>KX (ext:=ext) (F:=F) (n:=n) x k
      have hlt:((i0 + 1 + r:Nat):Int) < (R.length:Int):=by omega
      have hcR:c < R.length:=by omega
      obtain ⟨y,hy,hcd,hct,hc0⟩:=at_ hcR
      have hcl:(c:Int) < (R.length:Int):=by omega
      have hcn:=nx hcR (by omega)
      simp only [List.length_map,List.getElem?_map,hd,hx,ht,h0,rQ,hq,hlt,go_sem,Nat.reduceAdd,Nat.reduceMul,Nat.reduceEqDiff,Nat.reduceBEq,Nat.reduceMod,Nat.reduceDiv,↓reduceIte,reduceCtorEq]
      repeat' (refine cu (fun h=>?_) (fun h=>?_) <;> simp only [h,List.length_map,List.getElem?_map,hd,hx,ht,h0,hn,rQ,hq,hlt,hy,hct,hc0,hcl,hcn,go_sem,Nat.reduceAdd,Nat.reduceMul,Nat.reduceEqDiff,Nat.reduceBEq,Nat.reduceMod,Nat.reduceDiv,↓reduceIte,reduceCtorEq])
      all_goals
        have hxl:l[i0 + 1 + r]? = some x:=by
          have:=congrArg (fun z:List Qn=>z[0]?) hdr
          simp only [List.getElem?_drop,Nat.add_zero,hx] at this
          exact this.symm
        have hdr':List.drop (i0 + 1 + r + 1) R = List.drop (i0 + 1 + r + 1) l:=by
          have:=congrArg (List.drop 1) hdr
          simpa only [List.drop_drop] using this
        have hft:=N8 (k:=k) hxl
      · simp only [decide_eq_true_eq] at h
        rw [if_pos h,List.append_nil] at hft
        exact ⟨(R,c,i0 + 1 + r + 1),rfl,rfl,by show c < i0 + 1 + r + 1;omega,hlen,by rw [hft];exact htk,hdr'⟩
      · simp only [decide_eq_false_iff_not] at h
        rw [if_neg h] at hft
        refine ⟨(R.set c x,c + 1,i0 + 1 + r + 1),?_,rfl,by show c + 1 < i0 + 1 + r + 1;omega,by simp [hlen],?_,?_⟩
        · simp [List.map_set,rQ]
        · show List.take (c + 1) (R.set c x) = _
          rw [hft,List.take_add_one,List.take_set,List.set_eq_of_length_le (by simp;omega),htk,List.getElem?_set_self hcR]
          rfl
        · show List.drop _ (R.set c x) = _
          rw [List.drop_set_of_lt (show c < i0 + 1 + r + 1 by omega)]
          exact hdr'
    · obtain ⟨R,c,j⟩:=x
      obtain ⟨rfl,hc,hlen,htk,hdr⟩:=hP
      simp only at hc hlen htk hdr ⊢
      have hj:i0 + 1 + (l.length - (i0 + 1)) = R.length:=by omega
      rw [hj]
      rw [hj,List.take_of_length_le (l:=l) (i:=R.length) (by omega)] at htk
      have hd:=@end_ _ R
      have hct:(c:Int).toNat = c:=by simp
      have htt:List.take c (List.take c (List.map rQ R) ++ List.replicate (R.length - c) [FV.str ⟨#[]⟩,FV.int IntKind.i64 0,FV.int IntKind.i64 0]) = (l.filter fun y=>decide (y ≠ k)).map rQ:=by
        rw [List.take_append_of_le_length (by simp;omega),List.take_take,Nat.min_self,← List.map_take,htk]
      simp only [List.length_map,hd,go_sem,Nat.reduceAdd,Nat.reduceMul,Nat.reduceEqDiff,Nat.reduceBEq,Nat.reduceMod,Nat.reduceDiv,↓reduceIte,reduceCtorEq]
      repeat' (refine cu (fun h=>?_) (fun h=>?_) <;> simp only [h,List.length_map,hd,go_sem,Nat.reduceAdd,Nat.reduceMul,Nat.reduceEqDiff,Nat.reduceBEq,Nat.reduceMod,Nat.reduceDiv,↓reduceIte,reduceCtorEq])
      rw [hct]
      exact ⟨by omega,by omega,⟨by omega,by simp;omega⟩,by rw [htt]⟩
structure qZ (ext:Env):Prop where
  cq:∀ l:List Qn,l.length ≤ 1000000 → ext 70 [vl (l.map rQ)] = some ([.one (.own 3 (l.map rQ))],[vl (l.map rQ)])
  cs:∀ l:List ByteArray,l.length ≤ 1000000 → ext 88 [vl (l.map gB)] = some ([vl (l.map gB)],[vl (l.map gB)])
theorem Gr (C:qZ ext) (l:List Qn) (h:l.length ≤ 1000000):G ext F (n + 1) 70 [vl (l.map rQ)] = some ([.one (.own 3 (l.map rQ))],[vl (l.map rQ)]):=(congrFun (qX rfl) _).trans (C.cq l h)
theorem Yc (C:qZ ext) (l:List ByteArray) (h:l.length ≤ 1000000):G ext F (n + 1) 88 [vl (l.map gB)] = some ([vl (l.map gB)],[vl (l.map gB)]):=(congrFun (qX rfl) _).trans (C.cs l h)
def sM (l:List Qn) (k:Qn):List Qn:=l.filter fun x=>decide (x ≠ k)
theorem wm {l:List Qn} {k:Qn}:(sM l k).length ≤ l.length:=List.length_filter_le ..
theorem Dp (C:qZ ext) (l:List Qn) (k:Qn) (hl:l.length ≤ 1000000) (hF:200000000000001 ≤ F):G ext F (n + 4) 69 [vl (l.map rQ),vq k.q k.t k.c] = some ([.one (.own 3 ((sM l k).map rQ))],[vl (l.map rQ),vq k.q k.t k.c]):=by
  refine gU (cf:=c69) rfl ?_
  have h1:=fun n=>Gr (F:=F) (n:=n) C l hl
  have h2:=fun n=>y8 (ext:=ext) (F:=F) (n:=n) l k (by omega) hF
  simp only [c69,h1,h2,go_sem,Nat.reduceAdd,Nat.reduceMul,Nat.reduceEqDiff,Nat.reduceBEq,Nat.reduceMod,Nat.reduceDiv,↓reduceIte,reduceCtorEq]
  rfl
theorem Dq (C:qZ ext) (l:List Qn) (k:Qn) (hl:l.length ≤ 1000000) (hF:200000000000001 ≤ F):G ext F (n + 5) 67 [vl (l.map rQ),vq k.q k.t k.c] = some ([vl ((sM l k ++ [k]).map rQ)],[vl (l.map rQ),vq k.q k.t k.c]):=by
  refine gU (cf:=c67) rfl ?_
  have h1:=fun n=>Dp (ext:=ext) (F:=F) (n:=n) C l k hl hF
  have hl2:=@wm l k
  simp only [c67,h1,List.length_map,go_sem,Nat.reduceAdd,Nat.reduceMul,Nat.reduceEqDiff,Nat.reduceBEq,Nat.reduceMod,Nat.reduceDiv,↓reduceIte,reduceCtorEq]
  have hsz:((sM l k).length + 1) * 32 ≤ 140737488355328:=by omega
  simp [rQ,hsz]
theorem Yd (l:List Qn):((l.map rQ).all fun r=>r.length == 3) = true:=by
  rw [List.all_eq_true]
  intro r hr
  obtain ⟨x, -,rfl⟩:=List.mem_map.mp hr
  rfl
theorem TU (C:qZ ext) (l:List Qn) (most:Int) (hl:l.length ≤ 1000000) (hm:0 ≤ most ∧ most ≤ 1000000000000) (hF:200000000000001 ≤ F):G ext F (n + 2) 66 [vl (l.map rQ),vi most] = some ([vl ((l.drop (l.length - most.toNat)).map rQ),vl ((l.take (l.length - most.toNat)).map rQ)],[vl (l.map rQ),vi most]):=by
  refine gU (cf:=c66) rfl ?_
  have h1:=fun n=>Gr (F:=F) (n:=n) C (l.drop (l.length - most.toNat)) (by simp;omega)
  have h2:=fun n=>Gr (F:=F) (n:=n) C (l.take (l.length - most.toNat)) (by simp;omega)
  obtain ⟨a,ha⟩:∃ a,a = l.length - most.toNat:=⟨_,rfl⟩
  rw [← ha] at h1 h2 ⊢
  have hc:IntKind.i64.wrap ((l.length:Int) - if (if (l.length:Int) < most then (l.length:Int) else most) < 0 then 0 else if (l.length:Int) < most then (l.length:Int) else most) = (a:Int):=by
    rw [KJ (by split <;> split <;> omega) (by split <;> split <;> omega)]
    split <;> split <;> omega
  have hat:(a:Int).toNat = a:=by simp
  have hc1:(0:Int) ≤ a ∧ (a:Int) ≤ (l.length:Int):=by omega
  have hk1:List.take (l.length - a) (List.drop a (l.map rQ)) = (l.drop a).map rQ:=by rw [List.take_of_length_le (by simp),List.map_drop]
  have hk2:List.take a (l.map rQ) = (l.take a).map rQ:=List.map_take.symm
  simp only [c66,List.length_map,hc,hat,hc1,hk1,hk2,h1,h2,Yd l,List.drop_zero,Nat.sub_zero,go_sem,Nat.reduceAdd,Nat.reduceMul,Nat.reduceEqDiff,Nat.reduceBEq,Nat.reduceMod,Nat.reduceDiv,↓reduceIte,reduceCtorEq]
end Go.Proofs.Ytdkkgecdhapfhaa.Ka
set_option maxRecDepth 4000
namespace Go.Proofs.Ytdkkgecdhapfhaa.Ka
open Go Ev
variable {ext : Env} {F n:Nat} {θ:Th}
abbrev shQ : KS:=.agg [.str,.int .i64,.int .i64]
abbrev kq (k:Qn):KV:=.agg [.str k.q,.int .i64 k.t,.int .i64 k.c]
def ent (x:It):KV × FC:=(kq x.k,.agg (rI x))
structure Sv where
  room:Int
  m:List It
  o:List Qn
  ch:Int
abbrev Sv.v (s:Sv):AV:=.one (.ptr [.f (.int .i64 s.room),.mp shQ (s.m.map ent),.f (.sl (s.o.map rQ)),.f (.int .i64 s.ch)])
def TW : Option Sv → AV
  | some s=>s.v
  | none=>.one .jq
theorem sN (s:Sv):TW (some s) = s.v:=rfl
theorem Dr : TW none = .one .jq:=rfl
theorem TY {a b:Qn}:kq a = kq b ↔ a = b:=by
  constructor
  · intro h;simp only [kq,KV.agg.injEq,List.cons.injEq,SV.str.injEq,SV.int.injEq] at h
    cases a;cases b;simp_all
  · rintro rfl;rfl
theorem xH (l:List It) (k:Qn):Eu (l.map ent) (kq k) = l.findIdx? fun x=>decide (x.k = k):=by
  unfold Eu
  rw [List.map_map,List.findIdx?_map]
  refine congrArg (fun p=>List.findIdx? p l) (funext fun x=>?_)
  simp only [Function.comp,ent]
  by_cases h:x.k = k
  · simp [h]
  · have:¬ kq x.k = kq k:=fun e=>h (TY.mp e)
    simp only [this,h,decide_false]
theorem xI (l:List It) (k:Qn):Cn (l.map ent) (kq k) = (old l k).map fun x=>.agg (rI x):=by
  have hf:old l k = (l.findIdx? fun x=>decide (x.k = k)).bind fun i=>l[i]?:=List.find?_eq_bind_findIdx?_getElem? ..
  unfold Cn
  rw [xH,hf]
  cases l.findIdx? fun x=>decide (x.k = k) with
  | none=>rfl
  | some i=>simp only [Option.bind_some,List.getElem?_map];cases l[i]? <;> rfl
theorem Dt (l:List It) (k:Qn):Ey (l.map ent) (kq k) = (rid l k).map ent:=by
  unfold Ey rid
  rw [xH,List.eraseP_eq_eraseIdx]
  cases l.findIdx? fun x=>decide (x.k = k) with
  | none=>rfl
  | some i=>simp [List.eraseIdx_eq_take_drop_succ,List.map_take,List.map_drop]
def upd (l:List It) (x:It):List It:=match l.findIdx? fun y=>decide (y.k = x.k) with
  | some i=>l.set i x
  | none=>l ++ [x]
theorem KY (l:List It) (x:It):Ew (l.map ent) (kq x.k) (.agg (rI x)) = (upd l x).map ent:=by
  unfold Ew upd
  rw [xH]
  cases l.findIdx? fun y=>decide (y.k = x.k) with
  | none=>simp [ent]
  | some i=>simp [List.map_set,ent]
theorem Bj (room:Int):G ext F (n + 1) 16 [vi room] = some ([TW (if room < 1 ∨ 1000 < room then none else some ⟨room,[],[],0⟩)],[vi room]):=by
  refine gU (cf:=c16) rfl ?_
  simp only [c16,go_sem,Nat.reduceAdd,Nat.reduceMul,Nat.reduceEqDiff,Nat.reduceBEq,Nat.reduceMod,Nat.reduceDiv,↓reduceIte,reduceCtorEq]
  repeat' (refine cu (fun h=>?_) (fun h=>?_) <;> simp only [h,go_sem,Nat.reduceAdd,Nat.reduceMul,Nat.reduceEqDiff,Nat.reduceBEq,Nat.reduceMod,Nat.reduceDiv,↓reduceIte,reduceCtorEq])
  all_goals (simp only [decide_eq_true_eq,decide_eq_false_iff_not] at *)
  all_goals first | rw [if_pos (by omega)] | rw [if_neg (by omega)]
  all_goals rfl
theorem xJ (o:Option Sv):G ext F (n + 1) 31 [TW o] = some ([vi (match o with | some s=>s.ch | none=>0)],[TW o]):=by
  refine gU (cf:=c31) rfl ?_
  cases o with
  | none =>
    rw [Dr]
    simp only [c31,go_sem,Nat.reduceAdd,Nat.reduceMul,Nat.reduceEqDiff,Nat.reduceBEq,Nat.reduceMod,Nat.reduceDiv,↓reduceIte,reduceCtorEq]
  | some s =>
    rw [sN]
    simp only [c31,go_sem,Nat.reduceAdd,Nat.reduceMul,Nat.reduceEqDiff,Nat.reduceBEq,Nat.reduceMod,Nat.reduceDiv,↓reduceIte,reduceCtorEq]
theorem Du (C:qZ ext) (o:Option Sv) (ho:∀ s,o = some s → s.o.length ≤ 1000000):G ext F (n + 2) 29 [TW o] = some ([vl ((match o with | some s=>s.o | none=>[]).map rQ)],[TW o]):=by
  refine gU (cf:=Ir) rfl ?_
  cases o with
  | none =>
    rw [Dr]
    simp only [Ir,go_sem,Nat.reduceAdd,Nat.reduceMul,Nat.reduceEqDiff,Nat.reduceBEq,Nat.reduceMod,Nat.reduceDiv,↓reduceIte,reduceCtorEq]
  | some s =>
    rw [sN]
    have h1:=fun n=>Gr (F:=F) (n:=n) C s.o (ho s rfl)
    simp only [Ir,h1,go_sem,Nat.reduceAdd,Nat.reduceMul,Nat.reduceEqDiff,Nat.reduceBEq,Nat.reduceMod,Nat.reduceDiv,↓reduceIte,reduceCtorEq]
theorem Dv (C:qZ ext) (x:It) (hx:x.d.length ≤ 1000000):G ext F (n + 2) 65 [x.v] = some ([x.v],[x.v]):=by
  refine gU (cf:=c65) rfl ?_
  have h1:=fun n=>Yc (F:=F) (n:=n) C x.d hx
  simp only [c65,h1,go_sem,Nat.reduceAdd,Nat.reduceMul,Nat.reduceEqDiff,Nat.reduceBEq,Nat.reduceMod,Nat.reduceDiv,↓reduceIte,reduceCtorEq]
def qJ (s:Sv) (now:Int) (k:Qn):It × Bool:=match old s.m k with
  | some x=>if fU now x.u then (x,true) else (NZ,false)
  | none=>(NZ,false)
theorem wo (C:qZ ext) (s:Sv) (now:Int) (k:Qn) (hd:∀ x ∈ s.m,x.d.length ≤ 1000000):G ext F (n + 3) 25 [s.v,vi now,vq k.q k.t k.c] = some ([(qJ s now k).1.v,vb (qJ s now k).2],[s.v,vi now,vq k.q k.t k.c]):=by
  refine gU (cf:=MO) rfl ?_
  have hk:=xI s.m k
  unfold qJ
  cases ho:old s.m k with
  | none =>
    rw [ho] at hk
    simp only [MO,hk,Option.map_none,Option.isSome_none,go_sem,Nat.reduceAdd,Nat.reduceMul,Nat.reduceEqDiff,Nat.reduceBEq,Nat.reduceMod,Nat.reduceDiv,↓reduceIte,reduceCtorEq]
    rfl
  | some x =>
    rw [ho] at hk
    have h1:=fun n=>Dv (F:=F) (n:=n) C x (hd x (List.mem_of_find?_eq_some ho))
    cases hv:fU now x.u
    all_goals
      simp only [MO,hk,Option.map_some,Option.isSome_some,rI,sK,hv,h1,go_sem,Nat.reduceAdd,Nat.reduceMul,Nat.reduceEqDiff,Nat.reduceBEq,Nat.reduceMod,Nat.reduceDiv,↓reduceIte,reduceCtorEq]
    rfl
def nY (s:Sv) (now:Int) (k:Qn):Sv × It × Bool:=match old s.m k with
  | some x=>if fU now x.u then (⟨s.room,s.m,sM s.o k ++ [k],s.ch⟩,x,true) else (s,NZ,false)
  | none=>(s,NZ,false)
theorem KZ (C:qZ ext) (s:Sv) (now:Int) (k:Qn) (hd:∀ x ∈ s.m,x.d.length ≤ 1000000) (ho:s.o.length ≤ 1000000) (hF:200000000000001 ≤ F):G ext F (n + 6) 21 [s.v,vi now,vq k.q k.t k.c] = some ([(nY s now k).2.1.v,vb (nY s now k).2.2],[(nY s now k).1.v,vi now,vq k.q k.t k.c]):=by
  refine gU (cf:=c21) rfl ?_
  have h1:=fun n=>wo (ext:=ext) (F:=F) (n:=n) C s now k hd
  have h2:=fun n=>Dq (ext:=ext) (F:=F) (n:=n) C s.o k ho hF
  unfold qJ at h1
  unfold nY
  cases hold:old s.m k with
  | none =>
    simp only [hold] at h1
    simp only [c21,h1,h2,go_sem,Nat.reduceAdd,Nat.reduceMul,Nat.reduceEqDiff,Nat.reduceBEq,Nat.reduceMod,Nat.reduceDiv,↓reduceIte,reduceCtorEq]
  | some x =>
    cases hv:fU now x.u
    all_goals simp only [hold,hv,if_true,if_false,Bool.false_eq_true] at h1
    all_goals
      simp only [c21,h1,h2,go_sem,Nat.reduceAdd,Nat.reduceMul,Nat.reduceEqDiff,Nat.reduceBEq,Nat.reduceMod,Nat.reduceDiv,↓reduceIte,reduceCtorEq]
    all_goals simp [hv]
def xK (s:Sv) (k:Qn):Sv × Bool:=match old s.m k with
  | some _=>(⟨s.room,rid s.m k,sM s.o k,s.ch + 1⟩,true)
  | none=>(s,false)
theorem Gs (C:qZ ext) (s:Sv) (k:Qn) (hc:0 ≤ s.ch ∧ s.ch ≤ 1000000000000) (ho:s.o.length ≤ 1000000) (hF:200000000000001 ≤ F):G ext F (n + 5) 27 [s.v,vq k.q k.t k.c] = some ([vb (xK s k).2],[(xK s k).1.v,vq k.q k.t k.c]):=by
  refine gU (cf:=X3) rfl ?_
  have hk:=xI s.m k
  have hk2:=Dt s.m k
  have h1:=fun n=>Dp (ext:=ext) (F:=F) (n:=n) C s.o k ho hF
  have hw:IntKind.i64.wrap (s.ch + 1) = s.ch + 1:=KJ (by omega) (by omega)
  unfold xK
  cases hold:old s.m k with
  | none =>
    rw [hold] at hk
    simp only [X3,hk,Option.map_none,Option.isSome_none,go_sem,Nat.reduceAdd,Nat.reduceMul,Nat.reduceEqDiff,Nat.reduceBEq,Nat.reduceMod,Nat.reduceDiv,↓reduceIte,reduceCtorEq]
  | some x =>
    rw [hold] at hk
    simp only [X3,hk,hk2,Option.map_some,Option.isSome_some,rI,h1,hw,go_sem,Nat.reduceAdd,Nat.reduceMul,Nat.reduceEqDiff,Nat.reduceBEq,Nat.reduceMod,Nat.reduceDiv,↓reduceIte,reduceCtorEq]
def nA (θ:Th) (s:Sv) (now:Int) (x:It):Int :=
  if x.u < 0 ∨ θ.set x.q x.t x.c x.d x.ttl = false ∨ x.r < 1 ∨ 5 < x.r then 1
  else if fU now x.u = false then 14
  else match old s.m x.k with
    | some o=>if mH o.r (fU now o.u) x.r = false then 10 else 0
    | none=>0
theorem K3 (now:Int) (x:It):G ext F (n + 4) 64 [.one .jq,vi now,x.v] = some ([vi 1],[.one .jq,vi now,x.v]):=by
  refine gU (cf:=c64) rfl ?_
  simp only [c64,go_sem,Nat.reduceAdd,Nat.reduceMul,Nat.reduceEqDiff,Nat.reduceBEq,Nat.reduceMod,Nat.reduceDiv,↓reduceIte,reduceCtorEq]
theorem T9 (T:θ.Ok ext) (s:Sv) (now:Int) (x:It) (hF:200000000000001 ≤ F) (hq:x.q.size ≤ 1000000) (hn:x.d.length ≤ 1000000) (hd:∀ y ∈ x.d,y.size ≤ 1000000):G ext F (n + 4) 64 [s.v,vi now,x.v] = some ([vi (nA θ s now x)],[s.v,vi now,x.v]):=by
  refine gU (cf:=c64) rfl ?_
  have hk:=xI s.m x.k
  have h1:=fun n=>Iz (ext:=ext) (F:=F) (n:=n) T x.q x.t x.c x.d x.ttl (by omega) hF hq hd
  unfold nA
  cases hold:old s.m x.k with
  | none =>
    rw [hold] at hk
    simp only [c64,h1,hk,sK,Option.map_none,Option.isSome_none,go_sem,Nat.reduceAdd,Nat.reduceMul,Nat.reduceEqDiff,Nat.reduceBEq,Nat.reduceMod,Nat.reduceDiv,↓reduceIte,reduceCtorEq]
    repeat' (refine cu (fun h=>?_) (fun h=>?_) <;> simp only [h,h1,hk,sK,Option.map_none,Option.isSome_none,go_sem,Nat.reduceAdd,Nat.reduceMul,Nat.reduceEqDiff,Nat.reduceBEq,Nat.reduceMod,Nat.reduceDiv,↓reduceIte,reduceCtorEq])
    all_goals clear h1 hk
    all_goals simp only [decide_eq_true_eq,decide_eq_false_iff_not] at *
    all_goals simp [*]
  | some o =>
    rw [hold] at hk
    simp only [c64,h1,hk,sK,Gh,Option.map_some,Option.isSome_some,rI,go_sem,Nat.reduceAdd,Nat.reduceMul,Nat.reduceEqDiff,Nat.reduceBEq,Nat.reduceMod,Nat.reduceDiv,↓reduceIte,reduceCtorEq]
    repeat' (refine cu (fun h=>?_) (fun h=>?_) <;> simp only [h,h1,hk,sK,Gh,Option.map_some,Option.isSome_some,rI,go_sem,Nat.reduceAdd,Nat.reduceMul,Nat.reduceEqDiff,Nat.reduceBEq,Nat.reduceMod,Nat.reduceDiv,↓reduceIte,reduceCtorEq])
    all_goals clear h1 hk
    all_goals simp only [decide_eq_true_eq,decide_eq_false_iff_not] at *
    all_goals simp [*]
end Go.Proofs.Ytdkkgecdhapfhaa.Ka
set_option maxRecDepth 4000
namespace Go.Proofs.Ytdkkgecdhapfhaa.Ka
open Go Ev
variable {ext : Env} {F n:Nat} {θ:Th}
abbrev Se.it (x:Se) (u r:Int):It:=⟨x.q,x.t,x.c,x.d,x.ttl,u,r⟩
def gL (θ:Th) (s:Sv) (now:Int) (x:Se) (r:Int):Sv × Int :=
  let it:=x.it (dD now x.ttl) r
  if nA θ s now it ≠ 0 then (s,nA θ s now it)
  else
    let t:=sM s.o x.k ++ [x.k]
    (⟨s.room,(t.take (t.length - s.room.toNat)).foldl rid (upd s.m it),t.drop (t.length - s.room.toNat),s.ch + 1⟩,0)
structure Gt (θ:Th) (ext:Env):Prop where
  p0:∀ now x r,ext 19 [.one .jq,vi now,Se.v x,vi r] = some ([vi 1],[.one .jq,vi now,x.v,vi r])
  p1:∀ (s:Sv) now (x:Se) r,0 ≤ s.room ∧ s.room ≤ 1000000 → 0 ≤ s.ch ∧ s.ch ≤ 1000000000000 → s.o.length ≤ 100000 → s.m.length ≤ 100000 → x.q.size ≤ 1000000 → x.d.length ≤ 1000000 → (∀ y ∈ x.d,y.size ≤ 1000000) →
    ext 19 [s.v,vi now,x.v,vi r] = some ([vi (gL θ s now x r).2],[(gL θ s now x r).1.v,vi now,x.v,vi r])
theorem q8 (Q:Gt θ ext) (s:Sv) (now:Int) (x:Se) (r:Int) (h1:0 ≤ s.room ∧ s.room ≤ 1000000) (h2:0 ≤ s.ch ∧ s.ch ≤ 1000000000000) (h3:s.o.length ≤ 100000) (h3':s.m.length ≤ 100000) (h4:x.q.size ≤ 1000000) (h5:x.d.length ≤ 1000000) (h6:∀ y ∈ x.d,y.size ≤ 1000000):G ext F (n + 1) 19 [s.v,vi now,x.v,vi r] = some ([vi (gL θ s now x r).2],[(gL θ s now x r).1.v,vi now,x.v,vi r]):=(congrFun (qX rfl) _).trans (Q.p1 s now x r h1 h2 h3 h3' h4 h5 h6)
abbrev na : ByteArray:=⟨#[1,97,0]⟩
abbrev nb : ByteArray:=⟨#[1,98,0]⟩
abbrev Ye : ByteArray:=⟨#[1,99,0]⟩
abbrev dd : ByteArray:=⟨#[49,49,49,49]⟩
structure Th.Live (θ:Th):Prop where
  a1:θ.jC na = true
  a2:θ.low na = na
  b1:θ.jC nb = true
  b2:θ.low nb = nb
  c1:θ.jC Ye = true
  c2:θ.low Ye = Ye
  e1:θ.wh 1 dd = true
  e2:θ.lw 1 dd = dd
abbrev sa : Se:=⟨na,1,1,[dd],5⟩
abbrev sb : Se:=⟨nb,1,1,[dd],5⟩
abbrev sc : Se:=⟨Ye,1,1,[dd],5⟩
abbrev sz : Se:=⟨na,1,1,[dd],0⟩
abbrev t0 : Sv:=⟨2,[],[],0⟩
abbrev t1 : Sv:=⟨2,[sa.it 6 5],[sa.k],1⟩
abbrev t2 : Sv:=⟨2,[sa.it 6 5,sb.it 6 3],[sa.k,sb.k],2⟩
abbrev t3 : Sv:=⟨2,[sa.it 6 5,sb.it 6 3],[sb.k,sa.k],2⟩
abbrev t4 : Sv:=⟨2,[sa.it 6 5,sc.it 7 1],[sa.k,sc.k],3⟩
abbrev t5 : Sv:=⟨2,[sc.it 7 1],[sc.k],4⟩
theorem K4 (L:θ.Live) (ttl:Int) (h:0 ≤ ttl ∧ ttl < 2147483648):θ.set na 1 1 [dd] ttl = true:=by simp [Th.set,Th.key,Th.dat,L.a1,L.a2,L.e1,L.e2,h]
theorem Yf (L:θ.Live):θ.set nb 1 1 [dd] 5 = true:=by simp [Th.set,Th.key,Th.dat,L.b1,L.b2,L.e1,L.e2]
theorem Yg (L:θ.Live):θ.set Ye 1 1 [dd] 5 = true:=by simp [Th.set,Th.key,Th.dat,L.c1,L.c2,L.e1,L.e2]
theorem lv1 (L:θ.Live):gL θ t0 1 sa 5 = (t1,0):=by simp [gL,nA,K4 L 5 (by decide),dD,Ck,fU,old,upd,sM]
theorem lv2 (L:θ.Live):gL θ t1 1 sb 3 = (t2,0):=by simp [gL,nA,Yf L,dD,Ck,fU,old,upd,sM,List.findIdx?_cons]
theorem lv3 (L:θ.Live):gL θ t2 2 sa 4 = (t2,10):=by simp [gL,nA,K4 L 5 (by decide),dD,Ck,fU,old,mH]
theorem lv4 : nY t2 2 sa.k = (t3,sa.it 6 5,true):=by simp [nY,old,fU,Ck,sM]
theorem lv5 (L:θ.Live):gL θ t3 2 sc 1 = (t4,0):=by simp [gL,nA,Yg L,dD,Ck,fU,old,upd,sM,rid,List.findIdx?_cons,List.eraseP_cons]
theorem lv6 : qJ t4 2 sb.k = (NZ,false):=by simp [qJ,old]
theorem lv7 : qJ t4 6 sa.k = (NZ,false):=by simp [qJ,old,fU,Ck]
theorem lv8 (L:θ.Live):gL θ t4 2 sz 5 = (t4,14):=by simp [gL,nA,K4 L 0 (by decide),dD,Ck,fU]
theorem lv9 : xK t4 sa.k = (t5,true):=by simp [xK,old,rid,sM,List.eraseP_cons]
theorem adT : xK t5 sa.k = (t5,false):=by simp [xK,old]
theorem adU (L:θ.Live):gL θ t5 (-1) sa 5 = (t5,1):=by simp [gL,nA,dD,Ck]
theorem K5 (Q:Gt θ ext) (C:qZ ext) (L:θ.Live) (hF:200000000000001 ≤ F):G ext F (n + 7) 15 [] = some ([vb true],[]):=by
  refine gU (cf:=c15) rfl ?_
  have n2:∀ n,G ext F (n + 1) 16 [vi 2] = some ([t0.v],[vi 2]):=fun n=>Bj 2
  have n0:∀ n,G ext F (n + 1) 16 [vi 0] = some ([.one .jq],[vi 0]):=fun n=>Bj 0
  have n1:∀ n,G ext F (n + 1) 16 [vi 1001] = some ([.one .jq],[vi 1001]):=fun n=>Bj 1001
  have p1:=fun n=>q8 (F:=F) (n:=n) Q t0 1 sa 5 (by decide) (by decide) (by decide) (by decide) (by decide) (by decide) (by decide)
  have p2:=fun n=>q8 (F:=F) (n:=n) Q t1 1 sb 3 (by decide) (by decide) (by decide) (by decide) (by decide) (by decide) (by decide)
  have p3:=fun n=>q8 (F:=F) (n:=n) Q t2 2 sa 4 (by decide) (by decide) (by decide) (by decide) (by decide) (by decide) (by decide)
  have p4:=fun n=>KZ (F:=F) (n:=n) C t2 2 sa.k (by decide) (by decide) hF
  have p5:=fun n=>q8 (F:=F) (n:=n) Q t3 2 sc 1 (by decide) (by decide) (by decide) (by decide) (by decide) (by decide) (by decide)
  have p6:=fun n=>wo (F:=F) (n:=n) C t4 2 sb.k (by decide)
  have p7:=fun n=>wo (F:=F) (n:=n) C t4 6 sa.k (by decide)
  have p8:=fun n=>q8 (F:=F) (n:=n) Q t4 2 sz 5 (by decide) (by decide) (by decide) (by decide) (by decide) (by decide) (by decide)
  have p9:=fun n=>Gs (F:=F) (n:=n) C t4 sa.k (by decide) (by decide) hF
  have p10:=fun n=>Gs (F:=F) (n:=n) C t5 sa.k (by decide) (by decide) hF
  have p11:=fun n=>q8 (F:=F) (n:=n) Q t5 (-1) sa 5 (by decide) (by decide) (by decide) (by decide) (by decide) (by decide) (by decide)
  have c4:=fun n=>xJ (ext:=ext) (F:=F) (n:=n) (some t4)
  have c5:=fun n=>xJ (ext:=ext) (F:=F) (n:=n) (some t5)
  have k4:=fun n=>Du (ext:=ext) (F:=F) (n:=n) C (some t4) (by rintro s ⟨⟩;decide)
  rw [lv1 L] at p1
  rw [lv2 L] at p2
  rw [lv3 L] at p3
  rw [lv4] at p4
  rw [lv5 L] at p5
  rw [lv6] at p6
  rw [lv7] at p7
  rw [lv8 L] at p8
  rw [lv9] at p9
  rw [adT] at p10
  rw [adU L] at p11
  simp only [sN,List.map_cons,List.map_nil,gB,ent,rI,rQ,Sv.v,Se.v,It.v,xG,vit,Se.it,Se.k,kq] at n2 p1 p2 p3 p4 p5 p6 p7 p8 p9 p10 p11 c4 c5 k4
  simp only [c15,n2,n0,n1,p1,p2,p3,p4,p5,p6,p7,p8,p9,p10,p11,c4,c5,k4,show ((2:Nat):Int) = 2 from rfl,go_sem,Nat.reduceAdd,Nat.reduceMul,Nat.reduceEqDiff,Nat.reduceBEq,Nat.reduceMod,Nat.reduceDiv,↓reduceIte,reduceCtorEq]
end Go.Proofs.Ytdkkgecdhapfhaa.Ka
namespace Go.Proofs.Ytdkkgecdhapfhaa.Ka
open Go Ev
variable {θ : Th}
abbrev ks (l:List It):List Qn:=l.map It.k
theorem N9 {b:Qn}:old [] b = none:=rfl
theorem sO {x:It} {l:List It} {b:Qn}:old (x :: l) b = if x.k = b then some x else old l b:=by
  unfold old;rw [List.find?_cons];by_cases h:x.k = b <;> simp [h]
theorem Bl {l:List It} {b:Qn} (h:b ∉ ks l):old l b = none:=by
  unfold old;rw [List.find?_eq_none]
  intro x hx;simp only [decide_eq_true_eq];rintro rfl;exact h (List.mem_map_of_mem hx)
theorem wu {l:List It} {b:Qn} {x:It} (h:old l b = some x):x.k = b ∧ x ∈ l:=⟨by simpa using List.find?_some h,List.mem_of_find?_eq_some h⟩
theorem Dw {x:It} {l:List It} {a:Qn}:rid (x :: l) a = if x.k = a then l else x :: rid l a:=by
  unfold rid;rw [List.eraseP_cons];by_cases h:x.k = a <;> simp [h]
theorem Bn {l:List It} {a:Qn}:(rid l a).Sublist l:=List.eraseP_sublist ..
theorem pK {l:List It} {a:Qn} (h:(ks l).Nodup):(ks (rid l a)).Nodup:=(Bn.map _).nodup h
theorem pO {l:List It} {a b:Qn} (h:(ks l).Nodup):old (rid l a) b = if b = a then none else old l b:=by
  induction l with
  | nil=>simp [rid,N9]
  | cons x l ih =>
    have hc:=List.nodup_cons.mp h
    rw [Dw]
    by_cases hx:x.k = a
    · rw [if_pos hx]
      by_cases hb:b = a
      · rw [if_pos hb];exact Bl (by rw [hb,← hx];exact hc.1)
      · rw [if_neg hb,sO,if_neg (by rw [hx];exact fun e=>hb e.symm)]
    · rw [if_neg hx,sO,sO,ih hc.2]
      by_cases hb:b = a
      · subst hb;rw [if_neg hx,if_pos rfl,if_pos rfl]
      · rw [if_neg hb,if_neg hb]
theorem K6 {l:List It} {a:Qn} (h:(ks l).Nodup):ks (rid l a) = sM (ks l) a:=by
  induction l with
  | nil=>rfl
  | cons x l ih =>
    have hc:=List.nodup_cons.mp h
    rw [Dw]
    by_cases hx:x.k = a
    · rw [if_pos hx]
      have:sM (ks l) a = ks l:=List.filter_eq_self.mpr fun y hy=>by
        simp only [decide_eq_true_eq];rintro rfl;rw [← hx] at hy;exact hc.1 hy
      simp only [ks,List.map_cons,sM,List.filter_cons,hx,ne_eq,decide_not] at this ⊢
      simp [this]
    · rw [if_neg hx]
      simp only [ks,List.map_cons,sM,List.filter_cons] at ih ⊢
      rw [ih hc.2];simp [hx]
theorem sP {l:List It} {x:It} {b:Qn} (h:x.k ∉ ks l):old (l ++ [x]) b = if b = x.k then some x else old l b:=by
  unfold old;rw [List.find?_append]
  by_cases hb:b = x.k
  · subst hb
    have:=Bl h;unfold old at this
    rw [this];simp
  · have:¬ x.k = b:=fun e=>hb e.symm
    simp [hb,this]
theorem Bo (l:List It) (x:It):(x.k ∉ ks l ∧ upd l x = l ++ [x]) ∨ ∃ a y b,l = a ++ y :: b ∧ y.k = x.k ∧ x.k ∉ ks a ∧ upd l x = a ++ x :: b:=by
  unfold upd
  cases h:l.findIdx? fun y=>decide (y.k = x.k) with
  | none =>
    refine .inl ⟨fun hm=>?_,rfl⟩
    obtain ⟨y,hy,hk⟩:=List.mem_map.mp hm
    have:=List.findIdx?_eq_none_iff.mp h y hy
    simp [hk] at this
  | some i =>
    obtain ⟨hi,hx,hb⟩:=List.findIdx?_eq_some_iff_getElem.mp h
    refine .inr ⟨l.take i,l[i],l.drop (i + 1),?_,by simpa using hx,fun hm=>?_,?_⟩
    · rw [List.getElem_cons_drop,List.take_append_drop]
    · obtain ⟨y,hy,hk⟩:=List.mem_map.mp hm
      obtain ⟨j,hj,rfl⟩:=List.mem_take_iff_getElem.mp hy
      have:=hb j (by omega)
      simp [hk] at this
    · simp only [List.set_eq_take_append_cons_drop,hi,if_true]
theorem Gu {l:List It} {x:It} {b:Qn}:old (upd l x) b = if b = x.k then some x else old l b:=by
  rcases Bo l x with ⟨h,hu⟩ | ⟨a,y,c,rfl,hy,ha,hu⟩
  · rw [hu,sP h]
  · rw [hu]
    have hno:=Bl ha
    unfold old at hno ⊢
    rw [List.find?_append,List.find?_append,List.find?_cons,List.find?_cons]
    by_cases hb:b = x.k
    · subst hb;rw [hno];simp
    · have h1:¬ x.k = b:=fun e=>hb e.symm
      have h2:¬ y.k = b:=fun e=>hb (by rw [← hy,e])
      simp [hb,h1,h2]
theorem pQ {l:List It} {x:It} (h:(ks l).Nodup):(ks (upd l x)).Nodup:=by
  rcases Bo l x with ⟨hn,hu⟩ | ⟨a,y,c,rfl,hy,ha,hu⟩
  · rw [hu]
    simp only [ks,List.map_append,List.map_cons,List.map_nil]
    refine List.nodup_append.mpr ⟨h,List.pairwise_singleton _ _,fun p hp q hq=>?_⟩
    rw [List.mem_singleton] at hq;subst hq;rintro rfl;exact hn hp
  · rw [hu]
    have:ks (a ++ x :: c) = ks (a ++ y :: c):=by simp [ks,hy]
    rw [this];exact h
structure Rl (s:Sv) (k:Sr):Prop where
  room:s.room = k.room
  ch:s.ch = k.ch
  ord:s.o = ks k.l
  kQ:(ks k.l).Nodup
  K7:(ks s.m).Nodup
  old:∀ b,old s.m b = old k.l b
  len:(k.l.length:Int) ≤ k.room
theorem Oa {l:List It} {a:Qn}:(rid l a).length ≤ l.length:=Bn.length_le
theorem Oc {l:List It} {x:It} (hx:old l x.k = some x) (h:(ks l).Nodup):(ks (rid l x.k ++ [x])).Nodup:=by
  simp only [ks,List.map_append,List.map_cons,List.map_nil]
  refine List.nodup_append.mpr ⟨pK h,List.pairwise_singleton _ _,fun p hp q hq=>?_⟩
  rw [List.mem_singleton] at hq;subst hq;rintro rfl
  have h1:=pO (b:=x.k) (a:=x.k) h
  rw [if_pos rfl] at h1
  obtain ⟨y,hy,hk⟩:=List.mem_map.mp hp
  have:=List.find?_eq_none.mp h1 y hy
  simp [hk] at this
theorem pR {l:List It} {a:Qn} (h:(ks l).Nodup):a ∉ ks (rid l a):=fun hp=>by
  have h1:=pO (b:=a) (a:=a) h
  rw [if_pos rfl] at h1
  obtain ⟨y,hy,hk⟩:=List.mem_map.mp hp
  have:=List.find?_eq_none.mp h1 y hy
  simp [hk] at this
theorem IB {l:List It} {x:It} (h:(ks l).Nodup) (hn:x.k ∉ ks l):(ks (l ++ [x])).Nodup:=by
  simp only [ks,List.map_append,List.map_cons,List.map_nil]
  refine List.nodup_append.mpr ⟨h,List.pairwise_singleton _ _,fun p hp q hq=>?_⟩
  rw [List.mem_singleton] at hq;subst hq;rintro rfl;exact hn hp
theorem Ua {l:List It} {a:Qn} {x:It} (h:old l a = some x):(rid l a).length + 1 = l.length:=by
  obtain ⟨hk,hm⟩:=wu h
  have:=List.length_eraseP_of_mem (p:=fun y:It=>decide (y.k = a)) hm (by simp [hk])
  have hp:0 < l.length:=List.length_pos_of_mem hm
  unfold rid;omega
theorem Od {s:Sv} {k:Sr} (h:Rl s k) (now:Int) (b:Qn):(nY s now b).2 = (N7 k now b).2 ∧ Rl (nY s now b).1 (N7 k now b).1:=by
  unfold nY N7;rw [h.old b]
  cases hb:Ka.old k.l b with
  | none=>exact ⟨rfl,h⟩
  | some x =>
    obtain ⟨hk,hm⟩:=wu hb
    subst hk
    dsimp only
    split
    · refine ⟨rfl,h.room,h.ch,?_,Oc hb h.kQ,h.K7,fun c=>?_,?_⟩
      · show sM s.o x.k ++ [x.k] = ks (rid k.l x.k ++ [x])
        rw [h.ord,← K6 h.kQ];simp [ks]
      · show old s.m c = old (rid k.l x.k ++ [x]) c
        rw [sP (pR h.kQ),h.old c,pO h.kQ]
        by_cases hc:c = x.k
        · rw [if_pos hc,hc,hb]
        · rw [if_neg hc,if_neg hc]
      · have:=Ua hb;have:=h.len
        show (((rid k.l x.k ++ [x]).length:Nat):Int) ≤ k.room
        simp;omega
    · exact ⟨rfl,h⟩
theorem IC {now ttl:Int}:dD now ttl < 0 ↔ Ck now = false ∨ ttl < 0:=by
  unfold dD Ck
  split
  · rename_i h
    simp only [decide_eq_true_eq] at h
    simp only [decide_eq_false_iff_not]
    constructor
    · intro h1;split at h1 <;> omega
    · rintro (h1 | h1) <;> omega
  · rename_i h
    simp only [decide_eq_true_eq] at h
    simp only [decide_eq_false_iff_not]
    constructor
    · intro _;omega
    · intro _;decide
theorem Gv {s:Sv} {k:Sr} (h:Rl s k) (hr:1 ≤ k.room) {now:Int} {x:Se} {r:Int}:(dD now x.ttl < 0 ∨ θ.set x.q x.t x.c x.d x.ttl = false ∨ r < 1 ∨ 5 < r) ↔ θ.arg k now x r:=by
  unfold Th.arg
  rw [IC]
  constructor
  · rintro ((h1 | h1) | h1)
    · exact .inr (.inl h1)
    · exact .inr (.inr (.inl (by unfold Th.set;rw [decide_eq_false_iff_not];rintro ⟨-, -,h2, -⟩;omega)))
    · exact .inr (.inr h1)
  · rintro (h1 | h1 | h1)
    · omega
    · exact .inl (.inl h1)
    · exact .inr h1
theorem Oe {s:Sv} {k:Sr} (h:Rl s k) (hr:1 ≤ k.room) (now:Int) (x:Se) (r:Int):(gL θ s now x r).2 = (uL θ k now x r).2 ∧ Rl (gL θ s now x r).1 (uL θ k now x r).1:=by
  have hold:=h.old x.k
  by_cases ha:θ.arg k now x r
  · have hm:nA θ s now (x.it (dD now x.ttl) r) = 1:=by unfold nA;exact if_pos ((Gv h hr).mpr ha)
    have hs:gL θ s now x r = (s,1):=by unfold gL;simp only [hm];rfl
    rw [hs,KW ha];exact ⟨rfl,h⟩
  have ha':=fun e=>ha ((Gv (θ:=θ) h hr).mp e)
  cases hl:fU now (dD now x.ttl) with
  | false =>
    have hm:nA θ s now (x.it (dD now x.ttl) r) = 14:=by unfold nA;rw [if_neg ha',if_pos hl]
    have hs:gL θ s now x r = (s,14):=by unfold gL;simp only [hm];rfl
    rw [hs,Gn ha hl];exact ⟨rfl,h⟩
  | true =>
  by_cases hov:∃ o,old k.l x.k = some o ∧ mH o.r (fU now o.u) r = false
  · obtain ⟨o,ho,hov⟩:=hov
    have hm:nA θ s now (x.it (dD now x.ttl) r) = 10:=by
      unfold nA;rw [if_neg ha',if_neg (by rw [hl];decide)]
      show (match old s.m x.k with | some o=>if mH o.r (fU now o.u) r = false then (10:Int) else 0 | none=>0) = 10
      rw [hold,ho];exact if_pos hov
    have hs:gL θ s now x r = (s,10):=by unfold gL;simp only [hm];rfl
    rw [hs,Gp ha hl ho hov];exact ⟨rfl,h⟩
  have Yh:∀ o,old k.l x.k = some o → mH o.r (fU now o.u) r = true:=fun o ho=>by
    cases hv:mH o.r (fU now o.u) r with
    | true=>rfl
    | false=>exact absurd ⟨o,ho,hv⟩ hov
  have hm:nA θ s now (x.it (dD now x.ttl) r) = 0:=by
    unfold nA;rw [if_neg ha',if_neg (by rw [hl];decide)]
    show (match old s.m x.k with | some o=>if mH o.r (fU now o.u) r = false then (10:Int) else 0 | none=>0) = 0
    rw [hold]
    cases ho:old k.l x.k with
    | none=>rfl
    | some o=>exact if_neg (by rw [Yh o ho];decide)
  rw [Gq ha hl Yh rfl]
  have hs:gL θ s now x r = (⟨s.room,((sM s.o x.k ++ [x.k]).take ((sM s.o x.k ++ [x.k]).length - s.room.toNat)).foldl rid (upd s.m (x.it (dD now x.ttl) r)),(sM s.o x.k ++ [x.k]).drop ((sM s.o x.k ++ [x.k]).length - s.room.toNat),s.ch + 1⟩,0):=by unfold gL;simp only [hm];rfl
  rw [hs]
  refine ⟨rfl,?_⟩
  generalize hit:x.it (dD now x.ttl) r = it
  have hkx:it.k = x.k:=by rw [← hit]
  have hit':(⟨x.q,x.t,x.c,x.d,x.ttl,dD now x.ttl,r⟩:It) = it:=hit
  rw [hit']
  have ht:sM s.o x.k ++ [x.k] = ks (rid k.l x.k ++ [it]):=by rw [h.ord,← K6 h.kQ];simp [ks,hkx]
  rw [ht]
  have hnd:(ks (rid k.l x.k ++ [it])).Nodup:=IB (pK h.kQ) (by rw [hkx];exact pR h.kQ)
  have hm1:∀ c,old (upd s.m it) c = old (rid k.l x.k ++ [it]) c:=fun c=>by
    rw [Gu,sP (by rw [hkx];exact pR h.kQ),hkx,pO h.kQ,h.old c]
    by_cases hc:c = x.k <;> simp [hc]
  have hlen:=h.len
  have hl2:=@Oa k.l x.k
  generalize hL:rid k.l x.k ++ [it] = L at ht hnd hm1 ⊢
  have hLl:L.length = (rid k.l x.k).length + 1:=by rw [← hL];simp
  have hkl:(ks L).length = L.length:=by simp [ks]
  rw [hkl,h.room]
  by_cases hc:k.room < (L.length:Int)
  · have h1:L.length - k.room.toNat = 1:=by omega
    rw [h1]
    have hcut:y7 k.room L = L.drop 1:=by unfold y7;exact if_pos hc
    rw [hcut]
    cases L with
    | nil=>simp at hLl
    | cons y L =>
      have hn:=List.nodup_cons.mp hnd
      refine ⟨h.room ▸ rfl,by show s.ch + 1 = k.ch + 1;rw [h.ch],rfl,hn.2,pK (pQ h.K7),fun c=>?_,?_⟩
      · show old (rid (upd s.m it) y.k) c = old L c
        rw [pO (pQ h.K7),hm1 c,sO]
        by_cases hy:c = y.k
        · subst hy;rw [if_pos rfl,Bl hn.1]
        · rw [if_neg hy,if_neg (fun e=>hy e.symm)]
      · simp only [List.length_cons] at hLl
        show ((L.length:Nat):Int) ≤ k.room
        omega
  · have h1:L.length - k.room.toNat = 0:=by omega
    rw [h1]
    have hcut:y7 k.room L = L:=by unfold y7;exact if_neg hc
    rw [hcut]
    refine ⟨h.room ▸ rfl,by show s.ch + 1 = k.ch + 1;rw [h.ch],rfl,hnd,pQ h.K7,hm1,by show (L.length:Int) ≤ k.room;omega⟩
end Go.Proofs.Ytdkkgecdhapfhaa.Ka
set_option maxRecDepth 4000
namespace Go.Proofs.Ytdkkgecdhapfhaa.Ka
open Go Ev
variable {ext : Env} {F n:Nat} {θ:Th}
abbrev Op.v (o:Op):AV:=.agg [.f (.int .i64 o.o),.f (.int .i64 o.now),.f (.str o.q),.f (.int .i64 o.t),.f (.int .i64 o.c),.f (.sl (o.d.map gB)),.f (.int .i64 o.ttl),.f (.int .i64 o.r)]
abbrev Op.se (o:Op):Se:=⟨o.q,o.t,o.c,o.d,o.ttl⟩
end Go.Proofs.Ytdkkgecdhapfhaa.Ka
set_option maxRecDepth 4000
namespace Go.Proofs.Ytdkkgecdhapfhaa.Ka
open Go Ev
variable {ext : Env} {F n:Nat} {θ:Th}
structure Sz (i:Nat) (s:Sv):Prop where
  r:0 ≤ s.room ∧ s.room ≤ 1000000
  c:0 ≤ s.ch ∧ s.ch ≤ i
  o:s.o.length ≤ i
  m:s.m.length ≤ i
  d:∀ x ∈ s.m,x.d.length ≤ 1000000
theorem Og {l:List It} {x:It}:(upd l x).length ≤ l.length + 1:=by
  rcases Bo l x with ⟨-,hu⟩ | ⟨a,y,c,rfl, -, -,hu⟩ <;> rw [hu] <;> simp
theorem Oh {l:List It} {x y:It} (h:y ∈ upd l x):y = x ∨ y ∈ l:=by
  rcases Bo l x with ⟨-,hu⟩ | ⟨a,z,c,rfl, -, -,hu⟩ <;> rw [hu] at h <;> simp at h ⊢
  · rcases h with h | h <;> simp [h]
  · rcases h with h | h | h <;> simp [h]
theorem xL : ∀ {g:List Qn} {l:List It},(g.foldl rid l).Sublist l
  | [],l=>List.Sublist.refl _
  | a :: g,l=>(xL (g:=g)).trans Bn
theorem Sz.put {i:Nat} {s:Sv} (h:Sz i s) (now:Int) (x:Se) (r:Int) (hx:x.d.length ≤ 1000000):Sz (i + 1) (gL θ s now x r).1:=by
  have hc:=h.c
  have hq:=@wm s.o x.k
  have ho:=h.o
  have hm:=h.m
  have hu:=@Og s.m (x.it (dD now x.ttl) r)
  unfold gL
  dsimp only
  split
  · exact ⟨h.r,by show 0 ≤ s.ch ∧ s.ch ≤ _;omega,by show s.o.length ≤ _;omega,by show s.m.length ≤ _;omega,h.d⟩
  · refine ⟨h.r,by show 0 ≤ s.ch + 1 ∧ s.ch + 1 ≤ _;omega,?_,?_,fun y hy=>?_⟩
    · show (List.drop _ _).length ≤ _
      rw [List.length_drop,List.length_append,List.length_singleton];omega
    · exact Nat.le_trans xL.length_le (by omega)
    · rcases Oh (xL.subset hy) with rfl | h1
      · exact hx
      · exact h.d y h1
theorem Ub {l:List Op} {x:Op} (h:y5 l = true) (hx:x ∈ l):x.q.size ≤ 1000000 ∧ x.d.length ≤ 1000000 ∧ ∀ y ∈ x.d,y.size ≤ 1000000:=by
  have h1:=List.all_eq_true.mp h x hx
  unfold oI Dm at h1
  rw [Bool.and_eq_true,List.all_eq_true,decide_eq_true_eq] at h1
  refine ⟨by omega,?_,fun y hy=>?_⟩
  · cases hd:x.d with
    | nil=>simp
    | cons y d =>
      have:=h1.1 y (by rw [hd];simp)
      simp only [Bool.and_eq_true,decide_eq_true_eq] at this
      rw [hd] at this;omega
  · have:=h1.1 y hy
    simp only [Bool.and_eq_true,decide_eq_true_eq] at this
    omega
end Go.Proofs.Ytdkkgecdhapfhaa.Ka
set_option maxRecDepth 4000
namespace Go.Proofs.Ytdkkgecdhapfhaa.Ka
open Go Ev
variable {ext : Env} {F n:Nat} {θ:Th}
theorem EZ (l:List Se) (q:ByteArray) (t c:Int) (hl:l.length ≤ 1000000000000) (hF:200000000000001 ≤ F):G ext F (n + 1) 33 [.one (.own 5 (l.map rS)),vq q t c] = some ([((nw ⟨q,t,c⟩ l).getD se0).v],[.one (.own 5 (l.map rS)),vq q t c]):=by
  refine gU (cf:=KI) rfl ?_
  simp only [KI,go_sem,Nat.reduceAdd,Nat.reduceMul,Nat.reduceEqDiff,Nat.reduceBEq,Nat.reduceMod,Nat.reduceDiv,↓reduceIte,reduceCtorEq]
  refine qY l.length (fun i=>⟨[(0,PV.c (CV.one (PL.own 30201 (List.map rS l).length))),(3,PV.c (CV.one (PL.ptr 80000 0))),(4,PV.c (CV.one (PL.ptr 100000 0))),(5,PV.c (CV.one (PL.ptr 120000 0))),(6,PV.c (CV.one (PL.f (FV.int IntKind.i64 i))))],[(30201,Ob.row 5 (List.map rS l)),(80000,Ob.mg [PL.f (FV.str q),PL.f (FV.int IntKind.i64 t),PL.f (FV.int IntKind.i64 c)]),(100000,Ob.mg [PL.f (FV.str ⟨#[]⟩),PL.f (FV.int IntKind.i64 0),PL.f (FV.int IntKind.i64 0),PL.fF,PL.f (FV.int IntKind.i64 0)]),(120000,Ob.mg (nwC (nw ⟨q,t,c⟩ (l.take i))))]⟩) (fun i=>True) (by omega) rfl trivial (fun i hi hP=>?_) (fun hP=>?_)
  · obtain ⟨x,hx,hd,ht,h0⟩:=at_ hi
    have hn:=nx hi (Nat.le_trans hl (by decide))
    have hs:=NY (k:=⟨q,t,c⟩) hx
    obtain ⟨s, -,hc⟩:=KR (nw ⟨q,t,c⟩ (l.take i))
    have hi2:(i:Int) < (l.length:Int):=by omega
    rcases hc with ⟨hc, -⟩ | hc
    all_goals
      simp only [List.length_map,List.getElem?_map,hd,hx,ht,h0,rS,hc,hi2,go_sem,Nat.reduceAdd,Nat.reduceMul,Nat.reduceEqDiff,Nat.reduceBEq,Nat.reduceMod,Nat.reduceDiv,↓reduceIte,reduceCtorEq]
      repeat' (refine cu (fun h=>?_) (fun h=>?_) <;> simp only [h,List.length_map,List.getElem?_map,hd,hx,ht,h0,hn,rS,hc,hi2,go_sem,Nat.reduceAdd,Nat.reduceMul,Nat.reduceEqDiff,Nat.reduceBEq,Nat.reduceMod,Nat.reduceDiv,↓reduceIte,reduceCtorEq])
    all_goals (rw [hs];simp only [decide_eq_true_eq,decide_eq_false_iff_not] at h)
    · rw [if_pos (show x.k = ⟨q,t,c⟩ by simpa using h)];rfl
    · rw [if_neg (show x.k ≠ ⟨q,t,c⟩ by simpa using h),hc]
    · rw [if_pos (show x.k = ⟨q,t,c⟩ by simpa using h)];rfl
    · rw [if_neg (show x.k ≠ ⟨q,t,c⟩ by simpa using h),hc]
  · have hd:=@end_ _ l
    rw [List.take_length]
    obtain ⟨s,hs,hc⟩:=KR (nw ⟨q,t,c⟩ l)
    rw [← hs]
    rcases hc with ⟨hc,he⟩ | hc
    · simp only [List.length_map,hd,hc,go_sem,Nat.reduceAdd,Nat.reduceMul,Nat.reduceEqDiff,Nat.reduceBEq,Nat.reduceMod,Nat.reduceDiv,↓reduceIte,reduceCtorEq]
      repeat' (refine cu (fun h=>?_) (fun h=>?_) <;> simp only [h,List.length_map,hd,hc,go_sem,Nat.reduceAdd,Nat.reduceMul,Nat.reduceEqDiff,Nat.reduceBEq,Nat.reduceMod,Nat.reduceDiv,↓reduceIte,reduceCtorEq])
      simp only [Se.v,xG,he,List.map_nil]
    · simp only [List.length_map,hd,hc,go_sem,Nat.reduceAdd,Nat.reduceMul,Nat.reduceEqDiff,Nat.reduceBEq,Nat.reduceMod,Nat.reduceDiv,↓reduceIte,reduceCtorEq]
      repeat' (refine cu (fun h=>?_) (fun h=>?_) <;> simp only [h,List.length_map,hd,hc,go_sem,Nat.reduceAdd,Nat.reduceMul,Nat.reduceEqDiff,Nat.reduceBEq,Nat.reduceMod,Nat.reduceDiv,↓reduceIte,reduceCtorEq])
theorem Dx : ∀ {g:List Qn} {l:List It} {b:Qn} {x:It},(ks l).Nodup → old (g.foldl rid l) b = some x → old l b = some x
  | [],_,_,_,_,h=>h
  | a :: g,l,b,x,hn,h=>by
    have h1:=Dx (g:=g) (pK hn) h
    rw [pO hn] at h1
    split at h1
    · cases h1
    · exact h1
theorem Uc {b:Qn} {l:List Se} {x:Se}:nw b (l ++ [x]) = if x.k = b then some x else nw b l:=by
  unfold nw;rw [List.foldl_append];rfl
abbrev It.se (x:It):Se:=⟨x.q,x.t,x.c,x.d,x.ttl⟩
structure Bd (room:Int) (last:List Se) (s:Sv):Prop where
  rl:∃ k,Rl s k ∧ k.room = room
  r1:1 ≤ room
  fit:∀ b x,old s.m b = some x → nw b last = some x.se
theorem Ud {s:Sv} {now:Int} {x:Se} {r:Int}:((gL θ s now x r).2 ≠ 0 ∧ (gL θ s now x r).1 = s) ∨ ((gL θ s now x r).2 = 0 ∧ ∃ g:List Qn,(gL θ s now x r).1.m = g.foldl rid (upd s.m (x.it (dD now x.ttl) r))):=by
  unfold gL
  dsimp only
  split
  · rename_i h;exact .inl ⟨h,rfl⟩
  · exact .inr ⟨rfl,_,rfl⟩
theorem IE {room:Int} {l:List It} {x:It} (hr:1 ≤ room) (h:x.k ∉ ks l):old (y7 room (l ++ [x])) x.k = some x:=by
  unfold y7
  split
  · rename_i hc
    cases l with
    | nil=>simp at hc;omega
    | cons y l =>
      simp only [List.cons_append,List.drop_succ_cons,List.drop_zero]
      rw [sP (fun hm=>h (List.mem_cons_of_mem _ hm)),if_pos rfl]
  · rw [sP h,if_pos rfl]
theorem K8 {k:Sr} {now:Int} {x:Se} {r:Int} (h:(uL θ k now x r).2 = 0):fU now (dD now x.ttl) = true ∧ (uL θ k now x r).1.l = y7 k.room (rid k.l x.k ++ [x.it (dD now x.ttl) r]):=by
  by_cases ha:θ.arg k now x r
  · rw [KW ha] at h;cases h
  cases hl:fU now (dD now x.ttl) with
  | false=>rw [Gn ha hl] at h;cases h
  | true =>
    refine ⟨rfl,?_⟩
    by_cases hov:∃ o,old k.l x.k = some o ∧ mH o.r (fU now o.u) r = false
    · obtain ⟨o,ho,hov⟩:=hov
      rw [Gp ha hl ho hov] at h;cases h
    · rw [Gq ha hl (fun o ho=>by
        cases hv:mH o.r (fU now o.u) r with
        | true=>rfl
        | false=>exact absurd ⟨o,ho,hv⟩ hov) rfl]
theorem Bd.put {room:Int} {last:List Se} {s:Sv} (h:Bd room last s) (now:Int) (x:Se) (r:Int) :
    ((gL θ s now x r).2 ≠ 0 ∧ (gL θ s now x r).1 = s) ∨ ((gL θ s now x r).2 = 0 ∧ Bd room (last ++ [x]) (gL θ s now x r).1 ∧ qJ (gL θ s now x r).1 now x.k = (x.it (dD now x.ttl) r,true)):=by
  rcases Ud (θ:=θ) (s:=s) (now:=now) (x:=x) (r:=r) with h1 | ⟨h1,g,hg⟩
  · exact .inl h1
  · refine .inr ⟨h1,?_,?_⟩
    all_goals obtain ⟨k,hk,hkr⟩:=h.rl
    all_goals obtain ⟨e1,e2⟩:=Oe (θ:=θ) hk (by rw [hkr];exact h.r1) now x r
    · refine ⟨⟨_,e2,?_⟩,h.r1,fun b y hy=>?_⟩
      · rw [h1] at e1
        have h3:=K8 e1.symm
        rw [← hkr]
        unfold uL
        split
        · rfl
        · split
          · rfl
          · split <;> first | rfl | (split <;> rfl)
      · rw [hg] at hy
        have h2:=Dx (pQ hk.K7) hy
        rw [Gu] at h2
        rw [Uc]
        split at h2
        · rename_i hb
          cases h2
          subst hb
          rw [if_pos rfl]
        · rename_i hb
          rw [if_neg (fun e=>hb e.symm)]
          exact h.fit b y h2
    · rw [h1] at e1
      obtain ⟨h2,h3⟩:=K8 e1.symm
      have h4:old (gL θ s now x r).1.m x.k = some (x.it (dD now x.ttl) r):=by
        rw [e2.old,h3]
        exact IE (x:=x.it (dD now x.ttl) r) (by rw [hkr];exact h.r1) (pR hk.kQ)
      unfold qJ
      rw [h4]
      simp [h2]
theorem Bd.get {room:Int} {last:List Se} {s:Sv} (h:Bd room last s) (now:Int) (b:Qn):Bd room last (nY s now b).1:=by
  obtain ⟨k,hk,hkr⟩:=h.rl
  refine ⟨⟨_,(Od hk now b).2,?_⟩,h.r1,fun c x hx=>h.fit c x ?_⟩
  · rw [← hkr];unfold N7;split
    · split <;> rfl
    · rfl
  · unfold nY at hx
    split at hx
    · split at hx <;> exact hx
    · exact hx
theorem Bd.o {room:Int} {last:List Se} {s:Sv} (h:Bd room last s):s.o.Nodup ∧ (s.o.length:Int) ≤ room:=by
  obtain ⟨k,hk,hkr⟩:=h.rl
  rw [hk.ord]
  exact ⟨hk.kQ,by have:=hk.len;rw [hkr] at this;simpa [ks] using this⟩
theorem Sz.get {i:Nat} {s:Sv} (h:Sz i s) (now:Int) (b:Qn):Sz (i + 1) (nY s now b).1:=by
  have hc:=h.c
  have hq:=@wm s.o b
  have ho:=h.o
  have hm:=h.m
  have same:Sz (i + 1) s:=⟨h.r,by omega,by omega,by omega,h.d⟩
  unfold nY
  split
  · split
    · exact ⟨h.r,by show 0 ≤ s.ch ∧ s.ch ≤ _;omega,by show (sM s.o b ++ [b]).length ≤ _;rw [List.length_append,List.length_singleton];omega,by show s.m.length ≤ _;omega,h.d⟩
    · exact same
  · exact same
theorem E5 (s:Sv) (now:Int) (b:Qn):(nY s now b).2 = (NZ,false) ∨ ∃ x,old s.m b = some x ∧ fU now x.u = true ∧ (nY s now b).2 = (x,true):=by
  unfold nY
  cases hb:old s.m b with
  | none=>exact .inl rfl
  | some x =>
    cases hl:fU now x.u with
    | false=>exact .inl (by simp [hl])
    | true=>exact .inr ⟨x,rfl,hl,by simp [hl]⟩
set_option maxHeartbeats 8000000 in
theorem IG (Q:Gt θ ext) (C:qZ ext) (L:θ.Live) (hF:200000000000001 ≤ F) (room:Int) (l:List Op) (hl:l.length ≤ 200000000000000) (hd:∀ x ∈ l,x.d.length ≤ 200000000000000):G ext F (n + 8) 4 [vi room,vl (l.map rO)] = some ([vb true],[vi room,vl (l.map rO)]):=by
  refine gU (cf:=c4) rfl ?_
  have hs:=fun n=>EX (ext:=ext) (F:=F) (n:=n) l 60 hl hd hF
  have hv:=fun n=>K5 (F:=F) (n:=n) Q C L hF
  cases hf:y5 l && decide ((l.length:Int) ≤ 60) with
  | false =>
    rw [hf] at hs
    simp only [c4,hs,hv,go_sem,Nat.reduceAdd,Nat.reduceMul,Nat.reduceEqDiff,Nat.reduceBEq,Nat.reduceMod,Nat.reduceDiv,↓reduceIte,reduceCtorEq]
  | true =>
    rw [hf] at hs
    have adV:y5 l = true ∧ l.length ≤ 60:=by
      rw [Bool.and_eq_true,decide_eq_true_eq] at hf
      exact ⟨hf.1,by omega⟩
    by_cases hr:room < 1 ∨ 1000 < room
    · simp only [c4,hs,hv,go_sem,Nat.reduceAdd,Nat.reduceMul,Nat.reduceEqDiff,Nat.reduceBEq,Nat.reduceMod,Nat.reduceDiv,↓reduceIte,reduceCtorEq]
      repeat' (refine cu (fun h=>?_) (fun h=>?_) <;> simp only [h,hs,hv,go_sem,Nat.reduceAdd,Nat.reduceMul,Nat.reduceEqDiff,Nat.reduceBEq,Nat.reduceMod,Nat.reduceDiv,↓reduceIte,reduceCtorEq])
      all_goals (exfalso;clear hs hv;simp only [decide_eq_true_eq,decide_eq_false_iff_not] at *;omega)
    · have hn:=fun n=>Bj (ext:=ext) (F:=F) (n:=n) room
      rw [if_neg hr,sN] at hn
      have c1:decide (room < 1) = false:=by simp;omega
      have c2:decide (1000 < room) = false:=by simp;omega
      simp only [c4,hs,hv,hn,c1,c2,go_sem,Nat.reduceAdd,Nat.reduceMul,Nat.reduceEqDiff,Nat.reduceBEq,Nat.reduceMod,Nat.reduceDiv,↓reduceIte,reduceCtorEq]
      refine Q9 l.length (fun x:Nat × Sv × List Se=>⟨[(0,PV.c (CV.one (PL.f (FV.int IntKind.i64 room)))),(1,PV.c (CV.one (PL.f (FV.sl (List.map rO l))))),(5,PV.c (CV.one (PL.ptr 540200 0))),(6,PV.c (CV.one (PL.own 140000 (x.2.2.map rS).length))),(7,PV.c (CV.one (PL.f (FV.int IntKind.i64 x.1))))],[(140000,Ob.row 5 (x.2.2.map rS)),(540200,Ob.mg [PL.f (FV.int IntKind.i64 x.2.1.room),PL.mp 540204,PL.f (FV.sl (x.2.1.o.map rQ)),PL.f (FV.int IntKind.i64 x.2.1.ch)]),(540204,Ob.map shQ (x.2.1.m.map ent))]⟩) (fun i x=>x.1 = i ∧ Sz i x.2.1 ∧ Bd room x.2.2 x.2.1 ∧ x.2.2.length ≤ i) (by omega) (0,⟨room,[],[],0⟩,[]) rfl ⟨rfl,⟨by show 0 ≤ room ∧ room ≤ _;omega,⟨Int.le_refl _,Int.le_refl _⟩,Nat.le_refl _,Nat.le_refl _,by simp⟩,⟨⟨⟨room,[],0⟩,⟨rfl,rfl,rfl,List.nodup_nil,List.nodup_nil,fun _=>rfl,by simp;omega⟩,rfl⟩,by omega,fun b x h=>by cases h⟩,by simp⟩ (fun i x hi hP=>?_) (fun x hP=>?_)
      · obtain ⟨i',s,last⟩:=x
        obtain ⟨rfl,hsz,hbd,hla⟩:=hP
        obtain ⟨x,hx,hlt,ht,h0⟩:=at_ hi
        have hn':=nx hi (Nat.le_trans hl (by decide))
        obtain ⟨z1,z2,z3⟩:=Ub adV.1 (List.mem_of_getElem? hx)
        have hc:=hsz.c
        have ho:=hsz.o
        have hm:=hsz.m
        simp only at hsz hbd hla hc ho hm hi hlt ht h0 hn' ⊢
        have same:=fun n (a b:Se) (ha:a.d.length ≤ 1000000) (hab:a = b)=>(NW (ext:=ext) (F:=F) (n:=n) a.q a.t a.c a.d a.ttl b.q b.t b.c b.d b.ttl (by omega) hF).trans (show some ([vb (Gj a.q a.t a.c a.d a.ttl b.q b.t b.c b.d b.ttl)],[a.v,b.v]) = some ([vb true],[a.v,b.v]) by subst hab;simp [Gj])
        have after:∀ s':Sv,Sz (i' + 1) s' → Bd room last s' ∨ Bd room (last ++ [x.se]) s' → (∀ n,G ext F (n + 2) 29 [s'.v] = some ([vl (s'.o.map rQ)],[s'.v])) ∧ decide (room < (s'.o.length:Int)) = false ∧ (∀ n,G ext F (n + 1) 34 [vl (s'.o.map rQ)] = some ([vb true],[vl (s'.o.map rQ)])):=by
          intro s' h1 h2
          have h3:s'.o.Nodup ∧ (s'.o.length:Int) ≤ room:=by rcases h2 with h2 | h2 <;> exact h2.o
          have h4:=h1.o
          refine ⟨fun n=>Du C (some s') (by rintro _ ⟨⟩;omega),by simp;omega,fun n=>?_⟩
          have:=KT (ext:=ext) (F:=F) (n:=n) s'.o (by omega) hF
          rwa [decide_eq_true h3.1] at this
        by_cases hdo:x.o = 0
        · have d0:decide (x.o = 0) = true:=decide_eq_true hdo
          have hp:=fun n=>q8 (F:=F) (n:=n) Q s x.now x.se x.r hsz.r (by omega) (by omega) (by omega) z1 z2 z3
          have hz:=hsz.put (θ:=θ) x.now x.se x.r z2
          rcases hbd.put (θ:=θ) x.now x.se x.r with ⟨h1,h2⟩ | ⟨h1,h2,h3⟩
          · rw [h2] at hp hz
            obtain ⟨k1,k2,k3⟩:=after s hz (.inl hbd)
            have e0:decide ((gL θ s x.now x.se x.r).2 = 0) = false:=decide_eq_false h1
            simp only [Sv.v] at hp k1
            simp only [List.length_map,List.getElem?_map,hlt,hx,ht,h0,hn',rO,hp,d0,e0,k1,k2,k3,go_sem,Nat.reduceAdd,Nat.reduceMul,Nat.reduceEqDiff,Nat.reduceBEq,Nat.reduceMod,Nat.reduceDiv,↓reduceIte,reduceCtorEq]
            exact ⟨(i' + 1,s,last),rfl,rfl,hz,hbd,by show last.length ≤ i' + 1;omega⟩
          · obtain ⟨k1,k2,k3⟩:=after _ hz (.inr h2)
            have e0:decide ((gL θ s x.now x.se x.r).2 = 0) = true:=decide_eq_true h1
            have hpk:=fun n=>wo (F:=F) (n:=n) C (gL θ s x.now x.se x.r).1 x.now x.se.k hz.d
            rw [h3] at hpk
            have hsm:=fun n=>same n x.se x.se z2 rfl
            have hap:List.map rS last ++ [[FV.str x.q,FV.int .i64 x.t,FV.int .i64 x.c,FV.sl (x.d.map gB),FV.int .i64 x.ttl]] = List.map rS (last ++ [x.se]):=by simp [rS]
            have hwl:(last.length + 1) * 56 ≤ 140737488355328:=by omega
            simp only [Sv.v] at hp k1 hpk
            simp only [List.length_map,List.getElem?_map,hlt,hx,ht,h0,hn',rO,hp,d0,e0,k1,k2,k3,hpk,hsm,decide_true,hap,go_sem,Nat.reduceAdd,Nat.reduceMul,Nat.reduceEqDiff,Nat.reduceBEq,Nat.reduceMod,Nat.reduceDiv,↓reduceIte,reduceCtorEq]
            exact ⟨by omega,(i' + 1,(gL θ s x.now x.se x.r).1,last ++ [x.se]),by simp,rfl,hz,h2,by show (last ++ [x.se]).length ≤ i' + 1;simp;omega⟩
        · have d0:decide (x.o = 0) = false:=decide_eq_false hdo
          have hg:=fun n=>KZ (F:=F) (n:=n) C s x.now x.se.k hsz.d (by omega) hF
          have hz:=hsz.get x.now x.se.k
          have hb2:=hbd.get x.now x.se.k
          obtain ⟨k1,k2,k3⟩:=after _ hz (.inl hb2)
          rcases E5 s x.now x.se.k with h1 | ⟨y,h1,h2,h3⟩
          · rw [h1] at hg
            simp only [Sv.v] at hg k1
            simp only [List.length_map,List.getElem?_map,hlt,hx,ht,h0,hn',rO,d0,hg,k1,k2,k3,go_sem,Nat.reduceAdd,Nat.reduceMul,Nat.reduceEqDiff,Nat.reduceBEq,Nat.reduceMod,Nat.reduceDiv,↓reduceIte,reduceCtorEq]
            exact ⟨(i' + 1,(nY s x.now x.se.k).1,last),rfl,rfl,hz,hb2,by show last.length ≤ i' + 1;omega⟩
          · rw [h3] at hg
            have hnw:=fun n=>EZ (ext:=ext) (F:=F) (n:=n) last x.q x.t x.c (by omega) hF
            have hfit:=hbd.fit _ _ h1
            have hyk:y.k = x.se.k:=(wu h1).1
            rw [show nw ⟨x.q,x.t,x.c⟩ last = some y.se from hfit] at hnw
            have hu:decide (y.u ≤ x.now) = false:=by
              unfold fU at h2;simp only [Bool.and_eq_true,decide_eq_true_eq] at h2;simp;omega
            have hke:decide (y.q = x.q ∧ y.t = x.t ∧ y.c = x.c) = true:=by
              simp only [Qn.mk.injEq] at hyk;simpa using hyk
            have hsm:=fun n=>same n y.se y.se (hsz.d y (wu h1).2) rfl
            simp only [Sv.v,Option.getD_some] at hg k1 hnw
            simp only [List.length_map,List.getElem?_map,hlt,hx,ht,h0,hn',rO,d0,hg,k1,k2,k3,hnw,hu,hke,hsm,go_sem,Nat.reduceAdd,Nat.reduceMul,Nat.reduceEqDiff,Nat.reduceBEq,Nat.reduceMod,Nat.reduceDiv,↓reduceIte,reduceCtorEq]
            exact ⟨(i' + 1,(nY s x.now x.se.k).1,last),rfl,rfl,hz,hb2,by show last.length ≤ i' + 1;omega⟩
      · obtain ⟨i',s,last⟩:=x
        obtain ⟨rfl,hsz,hbd,hla⟩:=hP
        have hd':=@end_ _ l
        simp only [List.length_map,hd',hv,go_sem,Nat.reduceAdd,Nat.reduceMul,Nat.reduceEqDiff,Nat.reduceBEq,Nat.reduceMod,Nat.reduceDiv,↓reduceIte,reduceCtorEq]
end Go.Proofs.Ytdkkgecdhapfhaa.Ka
namespace Go.Proofs.Ytdkkgecdhapfhaa.Ev
open Go Go.RowKit
def tvS : SV → TV
  | .int k n=>.f (.int k n)
  | .bool b=>.f (.bool b)
  | .str s=>.f (.str s)
def MP (l:List SV):List AV:=l.map fun x=>.one (tvS x)
section
variable {P : Program} {Fz:Nat → Prop} {w:World}
theorem Gw {x:SV} {v:Value} {bs:List Nat}:nu Fz w (tvS x) v bs ↔ v = encS x ∧ bs = []:=by
  cases x <;> simp only [tvS,nu,fq,encS]
theorem Dy : ∀ {l:List SV} {vs:List Value} {bs:List Nat},fM Fz w (MP l) vs bs → vs = l.map encS ∧ bs = []
  | [],[],_,h=>⟨rfl,h⟩
  | [],_ :: _,_,h=>h.elim
  | _ :: _,[],_,h=>h.elim
  | x :: l,v :: vs,_,⟨b1,b2,h1,h2,e⟩=>by
    obtain ⟨e1,e2⟩:=Gw.mp h1
    obtain ⟨e3,e4⟩:=Dy (l:=l) h2
    subst e1;subst e2;subst e3;subst e4
    exact ⟨rfl,by rw [e];rfl⟩
theorem xM : ∀ {l:List SV},fM Fz w (MP l) (l.map encS) []
  | []=>rfl
  | x :: l=>⟨[],[],Gw.mpr ⟨rfl,rfl⟩,xM (l:=l),rfl⟩
theorem Sat.wI {f:FuncId} {g:List AV → Option (List AV × List AV)} (h:∀ gJ r,g gJ = some r → ∃ ZZ9 rs:List SV,gJ = MP ZZ9 ∧ r = (MP rs,MP ZZ9) ∧
    ∀ w:World,Calls P f (ZZ9.map encS).toArray w fun e w'=>e = .returned (ret (rs.map encS)) ∧ Below w.heap.size w w'):Sat P f g:=by
  intro gJ rs rH hg Fz w vals bs ha hnd hap hfz
  obtain ⟨ZZ9,rs',rfl,e,hc⟩:=h gJ _ hg
  cases e
  obtain ⟨rfl,rfl⟩:=Dy ha
  refine (hc w).mono fun e w' ⟨h1,hb'⟩=>?_
  exact ⟨Fz,rs'.map encS,[],[],h1,fun _ h=>h,fun b hb=>⟨Nat.lt_of_lt_of_le (hfz b hb) hb'.size,.inl hb⟩,hb'.size,fun b hb _=>hb'.block b hb,⟨hb'.os,hb'.output⟩,xM,xM,by simp,fun b hb=>by simp at hb⟩
def sQ : List (FuncId × (List AV → Option (List AV × List AV))) → Env
  | []=>fun _ _=>none
  | (k,g) :: l=>fun f gJ=>if k = f then g gJ else sQ l f gJ
theorem xO : ∀ {l:List (FuncId × (List AV → Option (List AV × List AV)))},(∀ p ∈ l,Sat P p.1 p.2) → iQ P (sQ l)
  | [],_=>fun f gJ rs rH h=>by cases h
  | (k,g) :: l,h=>fun f gJ rs rH he=>by
    unfold sQ at he
    split at he
    · rename_i e;subst e;exact h (k,g) (by simp) gJ rs rH he
    · exact xO (fun p hp=>h p (List.mem_cons_of_mem _ hp)) f gJ rs rH he
theorem q9 : ∀ {l:List (FuncId × (List AV → Option (List AV × List AV)))},(∀ p ∈ l,∃ fn,P.funcs[p.1]? = some fn ∧ (fn.name == "runtime.NumGoroutine") = false ∧ fn.body.isSome = true) → eP P (sQ l)
  | [],_=>fun f gJ r h=>by cases h
  | (k,g) :: l,h=>fun f gJ r he=>by
    unfold sQ at he
    split at he
    · rename_i e;subst e;exact h (k,g) (by simp)
    · exact q9 (fun p hp=>h p (List.mem_cons_of_mem _ hp)) f gJ r he
end
end Go.Proofs.Ytdkkgecdhapfhaa.Ev
namespace Go.Proofs.Ytdkkgecdhapfhaa.Ev
open Go
def Rb (n:Nat) (ks:List Nat):Nat → Bool:=fun d=>decide (d < n) && !ks.contains d
noncomputable def K9 (Γ:Env) (F:Nat) (ca cb:CC) (s:Nat) (D:St → Option St) (cf:CF) (gJ:List AV):Option (List AV × List AV) :=
  if gJ.length ≠ cf.np then none else (enter cf.bo 0 [] ⟨[],[]⟩ gJ).bind fun e=>(ev Γ F ca e.2).bind fun p=>match p.1 with
    | .jr=>(ev Γ F cb ⟨put p.2.tm s (.c (.one .any)),p.2.ob⟩).bind fun q=>match q.1 with
      | .ext _=>none
      | _=>(D q.2).bind fun t=>(kI t e.1 gJ).bind fun b=>(slots b.2 cf.res).bind fun l=>(mY cf.ro b.2 l).map fun r=>(r.1,b.1)
    | _=>none
section
variable {P : Program} {Γ:Env} {bI Fz bK:Nat → Prop} {w0 w w':World} {bH bs:List Nat} {N:Fr} {F:Nat} {κ jw:Nat → Value} {σ fI σ':St} {a:Act} {X:Hx}
theorem Ok.reN (h:Ok bI w0 bH N jw σ a w) (N':Fr) (hn:N'.n = N.n) (hfs:∀ d,N'.ok d = false → a.tmps.getD d undef = N'.vs d):Ok bI w0 bH N' jw σ { a with defers:=N'.ds } w:=by
  obtain ⟨Fz,κ,h,hk⟩:=h
  exact ⟨Fz,κ,⟨h.tm,h.sz.trans hn.symm,rfl,hfs,h.ob,h.vk,h.pos,h.fz,h.yP,h.big,h.ext,h.kp⟩,hk⟩
theorem E8 (hm:P.follows .mixedOrders = true) (heq:∀ t ∈ X.eqs,lG P t) (mh:iQ P Γ) (hC:eP P Γ) {f g:FuncId} {fn gn:Func} {a1 a2 r:Code} {id s c1 c2 t1 t2:Nat} {p1 p2:String} {ET EU:Array Edge} (hf:P.funcs[f]? = some fn)
    (hb:fn.body = some (.seq a1 (.seq a2 (.seq (.region id #[{ dst:=some s,op:=.makeFunc (.func g) #[] #[.tmp c1,.tmp c2],type:=t1,pos:=p1,after:=ET,guard:=none },{ dst:=none,op:=.defer { callee:=.value (.tmp s),args:=#[],argTypes:=#[] },type:=t2,pos:=p2,after:=EU,guard:=none }] false) r))))
    (hg:P.funcs[g]? = some gn) (hgn:(gn.name == "runtime.NumGoroutine") = false) (hgb:gn.body.isSome = true) {cf:CF} {ca cb:CC} {ha hb' ra rb:List Hi}
    (hca:comp P X (RQ fn.ntmps) (.seq a1 a2) ha = some (ca,ra)) (hcb:comp P X (Rb fn.ntmps [c1,c2]) r hb' = some (cb,rb)) (hr:mG P fn.results.toList = some cf.res) (hnp:cf.np ≤ fn.ntmps) (hs:s < fn.ntmps) (hs1:c1 ≠ s) (hs2:c2 ≠ s) {D:St → Option St}
    (hD:∀ (bI:Nat → Prop) (w0:World) (bH:List Nat) (N:Fr) (jw:Nat → Value) (σ σ':St) (a:Act) (w:World),Ok bI w0 bH N jw σ a w → D σ = some σ' → CallsD P g #[a.tmps.getD c1 undef,a.tmps.getD c2 undef] .returning w fun e u w'=>u = .returning ∧ (∃ v,e = .returned v) ∧ Ok bI w0 bH N jw σ' a w')
    (F:Nat):Sat P f (K9 Γ F ca cb s D cf):=by
  intro gJ rs rH hE Fz w vals bs Vb hnd hap hfz
  unfold K9 at hE
  split at hE
  · cases hE
  rename_i hlen
  have hlen':gJ.length = cf.np:=Decidable.not_not.mp hlen
  have hvl:vals.length = gJ.length:=Vb.len
  obtain ⟨e,h1,hE⟩:=zbm hE
  obtain ⟨p,h2,hE⟩:=zbm hE
  refine calls_of_wp_defers hf hb ?_
  have hsz:(vals.toArray ++ Array.replicate (fn.ntmps - vals.toArray.size) undef).size = fn.ntmps:=by simp;omega
  obtain ⟨jw,hok,g2⟩:=entered (bo:=cf.bo) Vb hnd hap hfz hsz h1
  cases hp:p.1 with
  | ext i=>rw [hp] at hE;cases hE
  | ret=>rw [hp] at hE;cases hE
  | jr =>
  rw [hp] at hE
  obtain ⟨q,h3,hEq⟩:=zbm hE
  obtain ⟨x1,hx1,hx2⟩:=zbm hca
  obtain ⟨x2,hx3,hx4⟩:=zmm hx2
  cases hx4
  obtain ⟨y1,hy1,hy2⟩:=zbm h2
  have hyn:y1.1 = .jr ∧ ev Γ F x2.1 y1.2 = some p:=by
    cases hy:y1.1 with
    | jr=>rw [hy] at hy2;exact ⟨rfl,hy2⟩
    | ext i=>rw [hy] at hy2;cases hy2;cases hp
    | ret=>rw [hy] at hy2;cases hy2;cases hp
  obtain ⟨hy3,hy4⟩:=hyn
  refine wp_seq (Da hm heq mh hC a1 hx1 hok hy1 fun b1 u1 k1=>?_)
  rw [hy3]
  refine wp_seq (Da hm heq mh hC a2 hx3 k1 hy4 fun b2 u2 k2=>?_)
  rw [hp]
  refine wp_seq ?_
  have hmk:∀ v1 v2:Value,(Instr.makeFunc (.func g) #[] #[v1,v2]).run P u2 = .ok (.func (.func g) #[] #[v1,v2]) u2:=fun _ _=>rfl
  obtain ⟨v1,hv1⟩:∃ v,v = b2.tmps.getD c1 undef:=⟨_,rfl⟩
  obtain ⟨v2,hv2⟩:∃ v,v = b2.tmps.getD c2 undef:=⟨_,rfl⟩
  obtain ⟨b3,hb3⟩:∃ b,b = b2.put (some s) (.func (.func g) #[] #[v1,v2]):=⟨_,rfl⟩
  have hdef:b2.defers = []:=by obtain ⟨_,_,hr2,_⟩:=k2;exact hr2.kQ
  have hsz2:b2.tmps.size = fn.ntmps:=by obtain ⟨_,_,hr2,_⟩:=k2;exact hr2.sz
  have hk3:Ok Fz w bs (Fr.of fn.ntmps) jw ⟨put p.2.tm s (.c (.one .any)),p.2.ob⟩ b3 u2:=by
    obtain ⟨F2,EF,hr2,hk2⟩:=k2
    rw [hb3]
    exact ⟨F2,EF,hr2.put (by simpa [Fr.of,RQ] using hs) (pv:=.c (.one .any)) trivial,hk2⟩
  have hts:∀ d,d ≠ s → b3.tmps.getD d undef = b2.tmps.getD d undef:=fun d hd=>by
    rw [hb3]
    simp only [Act.put,Array.getD_eq_getD_getElem?,Array.getElem?_setIfInBounds]
    rw [if_neg (fun e=>hd e.symm)]
  obtain ⟨N1,hN1⟩:∃ N:Fr,N = ⟨fn.ntmps,[{ target:=.fn (.func g) #[v1,v2],args:=#[] }],Rb fn.ntmps [c1,c2],fun d h=>by simp [Rb] at h;omega,fun d=>b3.tmps.getD d undef⟩:=⟨_,rfl⟩
  have hk4:=hk3.reN N1 (by rw [hN1];rfl) (fun d _=>by rw [hN1])
  refine wp_region_lit (l:=[_,_]) ?_
  unfold wpList
  rw [if_pos (show Region.wanted _ _ = true from rfl)]
  left
  have r1:(execOp b2.eval { dst:=some s,op:=.makeFunc (.func g) #[] #[.tmp c1,.tmp c2],type:=t1,pos:=p1,after:=ET,guard:=none }).run P u2 = .ok (.value (.func (.func g) #[] #[v1,v2])) u2:=by
    unfold execOp
    simp [Act.eval,hmk,← hv1,← hv2]
  unfold Oper.wp
  rw [r1]
  show wpList P _ _ _ (b2.put (some s) _) u2
  rw [← hb3]
  unfold wpList
  rw [if_pos (show Region.wanted _ _ = true from rfl)]
  left
  have r2:(execOp b3.eval { dst:=none,op:=.defer { callee:=.value (.tmp s),args:=#[],argTypes:=#[] },type:=t2,pos:=p2,after:=EU,guard:=none }).run P u2 = .ok (.defer { target:=.fn (.func g) #[v1,v2],args:=#[] }) u2:=by
    have hvs:b3.eval (.tmp s) = .func (.func g) #[] #[v1,v2]:=by
      rw [hb3]
      simp only [Act.eval,Act.put,Array.getD_eq_getD_getElem?,Array.getElem?_setIfInBounds]
      rw [if_pos trivial,if_pos (by rw [hsz2];exact hs)]
      rfl
    unfold execOp resolve
    simp only [hvs]
    simp [Deferred.ofValue]
  unfold Oper.wp
  rw [r2]
  show wpList P _ _ _ { b3 with defers:={ target:=.fn (.func g) #[v1,v2],args:=#[] } :: b3.defers } u2
  unfold wpList
  show r.wp P _ _ _
  have hd3:b3.defers = []:=by rw [hb3];exact hdef
  rw [hd3]
  rw [hN1] at hk4
  refine Da hm heq mh hC r hcb hk4 h3 fun b4 u4 k4=>?_
  have hkeep:∀ d,(d = c1 ∨ d = c2) → b4.tmps.getD d undef = b3.tmps.getD d undef:=fun d hd=>by
    obtain ⟨_,_,hr4,_⟩:=k4
    exact hr4.fs d (by simp [Rb];rcases hd with rfl | rfl <;> simp)
  have hds:b4.defers = [{ target:=.fn (.func g) #[v1,v2],args:=#[] }]:=by obtain ⟨_,_,hr4,_⟩:=k4;exact hr4.kQ
  have fin:(∃ t,D q.2 = some t ∧ ((kI t e.1 gJ).bind fun b=>(slots b.2 cf.res).bind fun l=>(mY cf.ro b.2 l).map fun r=>(r.1,b.1)) = some (rs,rH)) → Leaves P fn b4.tmps (fun e w'=>∃ bK uI b1 b2,e = .returned (ret uI) ∧ Post Fz w vals bs rs rH bK w' uI b1 b2) b4.defers .returning u4:=by
    rintro ⟨t,d1,d2⟩
    rw [hds]
    refine leaves_cons (f:=g) (args:=#[v1,v2]) (by simp) ?_ ?_
    · show (callFunc g (#[] ++ #[v1,v2])).run P u4 = _
      rw [nU hg hgn hgb]
      simp
    · have hcd:=hD Fz w bs _ jw q.2 t b4 u4 k4 d1
      rw [hkeep c1 (.inl rfl),hkeep c2 (.inr rfl),hts c1 hs1,hts c2 hs2,← hv1,← hv2] at hcd
      refine hcd.mono ?_
      rintro e' u' w' ⟨rfl,⟨v,rfl⟩,k5⟩
      show Leaves P fn b4.tmps _ [] (settle .returning) w'
      obtain ⟨_,v',g3,g4⟩:=Ky hr Vb hap hfz g2 b4 w' k5 d2
      exact ⟨v',g3,g4⟩
  cases hq:q.1 with
  | ext i=>rw [hq] at hEq;cases hEq
  | jr =>
    rw [hq] at hEq
    obtain ⟨t,d1,d2⟩:=zbm hEq
    exact fin ⟨t,d1,d2⟩
  | ret =>
    rw [hq] at hEq
    obtain ⟨t,d1,d2⟩:=zbm hEq
    exact fin ⟨t,d1,d2⟩
noncomputable def Yi (Γ:Env) (F:Nat) (cc:CC) (c1 c2:Nat) (σ:St):Option St:=match get σ.tm c1,get σ.tm c2 with
  | some x,some y=>(ev Γ F cc ⟨[(0,x),(1,y)],σ.ob⟩).bind fun p=>match p.1 with
    | .ext _=>none
    | _=>(get p.2.tm 0).map fun z=>⟨[(c1,z)],p.2.ob⟩
  | _,_=>none
theorem Ue (hm:P.follows .mixedOrders = true) (heq:∀ t ∈ X.eqs,lG P t) (mh:iQ P Γ) (hC:eP P Γ) {g:FuncId} {gn:Func} {c:Code} {cc:CC} {h1 h2:List Hi} {c1 c2:Nat} (hg:P.funcs[g]? = some gn) (hb:gn.body = some c) (hc:comp P X (Rb gn.ntmps [0]) c h1 = some (cc,h2)) (hr:gn.results = #[]) (hn:2 ≤ gn.ntmps) (F:Nat)
    (bI:Nat → Prop) (w0:World) (bH:List Nat) (N:Fr) (jw:Nat → Value) (σ σ':St) (a:Act) (w:World) (hO:Ok bI w0 bH N jw σ a w) (hd:Yi Γ F cc c1 c2 σ = some σ') :
    CallsD P g #[a.tmps.getD c1 undef,a.tmps.getD c2 undef] .returning w fun e u w'=>u = .returning ∧ (∃ v,e = .returned v) ∧ Ok bI w0 bH N jw σ' a w':=by
  unfold Yi at hd
  split at hd
  · rename_i x y hx hy
    obtain ⟨p,h3,hd⟩:=zbm hd
    obtain ⟨b0,hb0⟩:∃ b:Act,b = { tmps:=#[a.tmps.getD c1 undef,a.tmps.getD c2 undef] ++ Array.replicate (gn.ntmps - 2) undef,defers:=[] }:=⟨_,rfl⟩
    have e0:b0.tmps.getD 0 undef = a.tmps.getD c1 undef:=by rw [hb0];simp [Array.getD_eq_getD_getElem?,Array.getElem?_append]
    have e1:b0.tmps.getD 1 undef = a.tmps.getD c2 undef:=by rw [hb0];simp [Array.getD_eq_getD_getElem?,Array.getElem?_append]
    obtain ⟨N',hN'⟩:∃ N:Fr,N = ⟨gn.ntmps,[],Rb gn.ntmps [0],fun d h=>by simp [Rb] at h;omega,fun d=>b0.tmps.getD d undef⟩:=⟨_,rfl⟩
    have C9:Ok bI w0 bH N' jw ⟨[(0,x),(1,y)],σ.ob⟩ b0 w:=by
      obtain ⟨Fz,κ,hr,hk⟩:=hO
      refine ⟨Fz,κ,⟨fun p hp=>?_,by rw [hb0,hN'];simp;omega,by rw [hb0,hN'],fun d _=>by rw [hN'],hr.ob,hr.vk,hr.pos,hr.fz,hr.yP,hr.big,hr.ext,hr.kp⟩,hk⟩
      simp only [List.mem_cons,List.not_mem_nil,or_false] at hp
      rcases hp with rfl | rfl
      · rw [e0];exact hr.val hx
      · rw [e1];exact hr.val hy
    have main:∀ b u,Ok bI w0 bH N' jw p.2 b u → (∃ z,get p.2.tm 0 = some z ∧ σ' = ⟨[(c1,z)],p.2.ob⟩) → b.defers = [] ∧ ∃ v,(results gn b.tmps).run P u = .ok v u ∧ (∃ v',Ending.returned v = .returned v') ∧ Ok bI w0 bH N jw σ' a u:=by
      rintro b u ⟨Fz,κ,hr2,hk2⟩ ⟨z,hz,rfl⟩
      refine ⟨by have:=hr2.kQ;rw [this,hN'],.tuple #[],?_,⟨_,rfl⟩,?_⟩
      · unfold results
        rw [hr]
        simp
      · obtain ⟨_,_,hr,_⟩:=hO
        refine ⟨Fz,κ,⟨fun p hp=>?_,hr.sz,hr.kQ,hr.fs,hr2.ob,hr2.vk,hr2.pos,hr2.fz,hr2.yP,hr2.big,hr2.ext,hr2.kp⟩,hk2⟩
        simp only [List.mem_cons,List.not_mem_nil,or_false] at hp
        subst hp
        have h5:b.tmps.getD 0 undef = N'.vs 0:=hr2.fs 0 (by rw [hN'];simp [Rb])
        have h6:N'.vs 0 = a.tmps.getD c1 undef:=by rw [hN'];exact e0
        show jv Fz κ u z (a.tmps.getD c1 undef)
        rw [← h6,← h5]
        exact hr2.val hz
    refine callsD_of_wp hg hb ?_
    have hst:({ tmps:=#[a.tmps.getD c1 undef,a.tmps.getD c2 undef] ++ Array.replicate (gn.ntmps - (#[a.tmps.getD c1 undef,a.tmps.getD c2 undef]:Array Value).size) undef,defers:=[] }:Act) = b0:=by rw [hb0];rfl
    rw [hst]
    rw [hN'] at C9
    refine Da hm heq mh hC c hc C9 h3 fun b u hk=>?_
    rw [← hN'] at hk
    cases hp:p.1 with
    | ext i=>rw [hp] at hd;cases hd
    | jr =>
      rw [hp] at hd
      obtain ⟨z,hz,rfl⟩:=zmm hd
      exact main b u hk ⟨z,hz,rfl⟩
    | ret =>
      rw [hp] at hd
      obtain ⟨z,hz,rfl⟩:=zmm hd
      exact main b u hk ⟨z,hz,rfl⟩
  · cases hd
end
end Go.Proofs.Ytdkkgecdhapfhaa.Ev
set_option maxRecDepth 4000
namespace Go.Proofs.Ytdkkgecdhapfhaa.Ev
open Go
section
variable {Γ : Env} {F s c1 c2:Nat} {ca cb cc:CC} {D:St → Option St} {cf:CF} {gJ:List AV} {σ:St}
@[go_sem ↓] theorem adW {k:List AV × List AV → Prop} {u:Tok k}:W k u (K9 Γ F ca cb s D cf gJ) ↔ gJ.length = cf.np ∧ W (fun e=>W (fun p=>p.1 = .jr ∧ W (fun t=>W (fun q=>(∀ id,q.1 ≠ .ext id) ∧ W (fun t=>W (fun b=>W (fun l=>W (fun r=>k (r.1,b.1)) ⟨⟩ (mY cf.ro b.2 l)) ⟨⟩ (slots b.2 cf.res)) ⟨⟩ (kI t e.1 gJ)) ⟨⟩ (D q.2)) ⟨⟩ (ev Γ F cb t)) ⟨⟩ (some ⟨put p.2.tm s (.c (.one .any)),p.2.ob⟩)) ⟨⟩ (ev Γ F ca e.2)) ⟨⟩ (enter cf.bo 0 [] ⟨[],[]⟩ gJ):=by
  simp only [K9,dS,dH,bB,bJ,ne_eq,Decidable.not_not]
  refine and_congr Iff.rfl (dI fun e=>dI fun p=>?_)
  obtain ⟨o,σ'⟩:=p
  cases o with
  | jr =>
    simp only [true_and,bB]
    refine dI fun q=>?_
    obtain ⟨o,σ'⟩:=q
    cases o with
    | ext i=>simp [jW]
    | jr=>simp only [reduceCtorEq,not_false_eq_true,implies_true,true_and,bB,bY]
    | ret=>simp only [reduceCtorEq,not_false_eq_true,implies_true,true_and,bB,bY]
  | ext i=>simp [jW]
  | ret=>simp [jW]
def ds0 (ob:List (Nat × Ob)):Option PV → Option PV → Option St
  | some x,some y=>some ⟨[(0,x),(1,y)],ob⟩
  | _,_=>none
@[go_sem] theorem Yj {ob:List (Nat × Ob)} {x y:PV}:ds0 ob (some x) (some y) = some ⟨[(0,x),(1,y)],ob⟩:=rfl
@[go_sem ↓] theorem afk {k:St → Prop} {u:Tok k}:W k u (Yi Γ F cc c1 c2 σ) ↔ W (fun t=>W (fun p=>(∀ id,p.1 ≠ .ext id) ∧ W (fun z=>k ⟨[(c1,z)],p.2.ob⟩) ⟨⟩ (get p.2.tm 0)) ⟨⟩ (ev Γ F cc t)) ⟨⟩ (ds0 σ.ob (get σ.tm c1) (get σ.tm c2)):=by
  unfold Yi ds0
  cases h1:get σ.tm c1 with
  | none=>simp only [dS,jW]
  | some x =>
    cases h2:get σ.tm c2 with
    | none=>simp only [dS,jW,bJ]
    | some y =>
      simp only [dS,bJ,bB]
      refine dI fun p=>?_
      obtain ⟨o,σ'⟩:=p
      cases o with
      | ext i=>simp [jW]
      | jr=>simp only [ne_eq,reduceCtorEq,not_false_eq_true,implies_true,true_and,bY]
      | ret=>simp only [ne_eq,reduceCtorEq,not_false_eq_true,implies_true,true_and,bY]
end
end Go.Proofs.Ytdkkgecdhapfhaa.Ev
namespace Go.Proofs.Ytdkkgecdhapfhaa.Ka
open Go Ev
variable {ext : Env} {F n:Nat} {θ:Th}
def pA : CC:=(.seq (.reg [⟨(some 4),none,(.box 25 (.t 0))⟩,⟨(some 6),none,(.box 35 (.t 2))⟩,⟨(some 8),none,(.alloc 38 [(.f (.int .i64 0))])⟩] [1,3,4,6,8]) (.uq [⟨⟨(some 14),none,(.load 5 true (.t 6))⟩,[200000]⟩,⟨⟨(some 15),none,(.mv (.t 1))⟩,[200000]⟩,⟨⟨(some 16),none,(.fa 4 (.t 6))⟩,[200000]⟩,⟨⟨(some 17),none,(.load 1 false (.t 16))⟩,[200000]⟩,⟨⟨(some 18),none,(.call false 62 [(.t 15),(.t 17)])⟩,[200000]⟩,⟨⟨(some 19),none,(.mv (.t 3))⟩,[200000]⟩,⟨⟨(some 20),none,(.build [(.f (.str ⟨#[]⟩)),(.f (.int .i64 0)),(.f (.int .i64 0)),.fF,(.f (.int .i64 0)),(.f (.int .i64 0)),(.f (.int .i64 0))] [⟨0,⟨5,(.t 14)⟩⟩,⟨5,⟨1,(.t 18)⟩⟩,⟨6,⟨1,(.t 19)⟩⟩])⟩,[200000]⟩,⟨⟨(some 9),none,(.alloc 46 [(.f (.str ⟨#[]⟩)),(.f (.int .i64 0)),(.f (.int .i64 0)),.fF,(.f (.int .i64 0)),(.f (.int .i64 0)),(.f (.int .i64 0))])⟩,[]⟩] [] [] [⟨none,none,(.store 7 (.t 9) (.t 20))⟩] [1,4,6,8,9]))
def pB : CC:=(.seq (.seq (.reg [⟨(some 22),none,(.load 1 false (.t 4))⟩,⟨(some 23),none,(.mv (.t 1))⟩,⟨(some 24),none,(.load 7 true (.t 9))⟩,⟨(some 25),none,(.call false 64 [(.t 22),(.t 23),(.t 24)])⟩,⟨none,none,(.store 1 (.t 8) (.t 25))⟩] [4,6,8,9]) (.seq (.reg [⟨(some 26),none,(.load 1 false (.t 8))⟩,⟨(some 27),none,(.cmp .ne (.t 26) (.k (.one (.f (.int .i64 0)))))⟩] [4,6,8,9,27]) (.cond (.t 27) (.seq (.reg [⟨(some 28),none,(.load 1 false (.t 8))⟩,⟨none,none,(.store 1 (.t 8) (.t 28))⟩] [4,8]) .ret) .skip))) (.seq (.uq [⟨⟨(some 29),none,(.load 1 false (.t 4))⟩,[]⟩,⟨⟨(some 30),none,(.kY (.t 29))⟩,[]⟩,⟨⟨(some 31),none,(.fa 1 (.t 30))⟩,[]⟩,⟨⟨(some 32),none,(.load 1 false (.t 31))⟩,[]⟩,⟨⟨(some 33),none,(.fa 0 (.t 6))⟩,[]⟩,⟨⟨(some 34),none,(.load 3 true (.t 33))⟩,[]⟩,⟨⟨(some 35),none,(.load 7 true (.t 9))⟩,[]⟩,⟨⟨(some 36),none,(.call false 65 [(.t 35)])⟩,[]⟩] [] [] [⟨none,none,(.Al (.agg [.str,(.int .i64),(.int .i64)]) (.t 32) (.t 34) (.t 36))⟩] [4,6,8]) (.seq (.uq [⟨⟨(some 38),none,(.load 1 false (.t 4))⟩,[]⟩,⟨⟨(some 39),none,(.kY (.t 38))⟩,[]⟩,⟨⟨(some 40),none,(.fa 2 (.t 39))⟩,[]⟩,⟨⟨(some 41),none,(.load 1 false (.t 40))⟩,[]⟩,⟨⟨(some 42),none,(.fa 0 (.t 6))⟩,[]⟩,⟨⟨(some 43),none,(.load 3 true (.t 42))⟩,[]⟩,⟨⟨(some 44),none,(.call false 67 [(.t 41),(.t 43)])⟩,[]⟩,⟨⟨(some 45),none,(.load 1 false (.t 4))⟩,[]⟩,⟨⟨(some 46),none,(.kY (.t 45))⟩,[]⟩,⟨⟨(some 47),none,(.fa 0 (.t 46))⟩,[]⟩,⟨⟨(some 48),none,(.load 1 false (.t 47))⟩,[]⟩,⟨⟨(some 49),none,(.call false 66 [(.t 44),(.t 48)])⟩,[]⟩,⟨⟨(some 37),none,(.mv (.t 49))⟩,[]⟩,⟨⟨(some 50),none,(.ext (.t 37) 0)⟩,[]⟩,⟨⟨(some 51),none,(.ext (.t 37) 1)⟩,[]⟩,⟨⟨(some 10),none,(.mv (.t 50))⟩,[]⟩] [] [] [⟨(some 11),none,(.mv (.t 51))⟩] [4,8,10,11]) (.seq (.seq (.reg [⟨(some 52),none,(.mv (.t 11))⟩,⟨(some 53),none,(.jH (.t 52))⟩,⟨(some 54),none,(.mv (.k (.one (.f (.int .i64 0)))))⟩] [4,8,10,52,53,54]) (.block 0 (.loop [4,8,10,52,53,54] [20201,20205,20208,100000,180000,530002,530004,530006,530008,530010,530012,530014,530016,530202,530204,530206,530208,530210,530212,530214,530216,530402,530404,530406,530408,530410,530412,530414,530416,530602,530604,530606,530608,530610,530612,530614,530616,530802,530804,530806,530808,530810,530812,530814,530816,531002,531004,531006,531008,531010,531012,531014,531016,1000200,1002200] [] (.seq (.reg [⟨(some 55),none,(.cmp .lt (.t 54) (.t 53))⟩] [4,8,10,52,53,54,55]) (.seq (.cond (.t 55) .skip (.exit 0)) (.seq (.block 1 (.seq (.reg [⟨(some 56),none,(.ia 3 (.t 52) (.t 54))⟩,⟨(some 57),none,(.load 3 true (.t 56))⟩,⟨(some 13),none,(.alloc 32 [(.f (.str ⟨#[]⟩)),(.f (.int .i64 0)),(.f (.int .i64 0))])⟩,⟨none,none,(.store 3 (.t 13) (.t 57))⟩] [4,8,10,13,52,53,54]) (.uq [⟨⟨(some 58),none,(.load 1 false (.t 4))⟩,[]⟩,⟨⟨(some 59),none,(.kY (.t 58))⟩,[]⟩,⟨⟨(some 60),none,(.fa 1 (.t 59))⟩,[]⟩,⟨⟨(some 61),none,(.load 1 false (.t 60))⟩,[]⟩,⟨⟨(some 62),none,(.load 3 true (.t 13))⟩,[]⟩] [] [] [⟨none,none,(.del (.agg [.str,(.int .i64),(.int .i64)]) (.t 61) (.t 62))⟩] [4,8,10,52,53,54]))) (.reg [⟨(some 63),none,(.ar .add (.t 54) (.k (.one (.f (.int .i64 1)))))⟩,⟨(some 54),none,(.mv (.t 63))⟩] [4,8,10,52,53,54]))))))) (.seq (.reg [⟨(some 64),none,(.load 1 false (.t 4))⟩,⟨(some 65),none,(.mv (.t 10))⟩,⟨(some 66),none,(.kY (.t 64))⟩,⟨(some 67),none,(.fa 2 (.t 66))⟩,⟨none,none,(.store 1 (.t 67) (.t 65))⟩] [4,8]) (.seq (.reg [⟨none,none,(.store 1 (.t 8) (.k (.one (.f (.int .i64 0)))))⟩] [4,8]) .ret))))))
def La : CF:=⟨4,[(.cell 8 1 false)],[],[],.skip⟩
def Yk : CF:=⟨2,[],[],[],(.seq (.reg [⟨(some 2),none,(.load 1 false (.t 0))⟩,⟨(some 3),none,(.cmp .eq (.t 2) (.k (.one (.f (.int .i64 0)))))⟩] [0,1,3]) (.cond (.t 3) (.reg [⟨(some 4),none,(.load 1 false (.t 1))⟩,⟨(some 5),none,(.kY (.t 4))⟩,⟨(some 6),none,(.fa 3 (.t 5))⟩,⟨(some 7),none,(.load 1 false (.t 6))⟩,⟨(some 8),none,(.ar .add (.t 7) (.k (.one (.f (.int .i64 1)))))⟩,⟨(some 9),none,(.kY (.t 4))⟩,⟨(some 10),none,(.fa 3 (.t 9))⟩,⟨none,none,(.store 1 (.t 10) (.t 8))⟩] [0]) .skip))⟩
noncomputable abbrev vB (ext:Env) (F n:Nat):List AV → Option (List AV × List AV):=K9 (G ext F n) F pA pB 21 (Yi (G ext F n) F Yk.body 8 4) La
theorem Lb (now:Int) (x:Se) (r:Int):vB ext F (n + 9) [.one .jq,vi now,x.v,vi r] = some ([vi 1],[.one .jq,vi now,x.v,vi r]):=by
  refine KC ?_
  have hu:=fun n=>Dk (ext:=ext) (F:=F) (n:=n) now x.ttl
  have hm:=fun n=>K3 (ext:=ext) (F:=F) (n:=n) now (x.it (dD now x.ttl) r)
  simp only [vB,pA,pB,La,Yk,hu,hm,Int.reduceEq,go_sem,Nat.reduceAdd,Nat.reduceMul,Nat.reduceEqDiff,Nat.reduceBEq,Nat.reduceMod,Nat.reduceDiv,↓reduceIte,reduceCtorEq]
theorem Lc (T:θ.Ok ext) (C:qZ ext) (s:Sv) (now:Int) (x:Se) (r:Int) (hF:200000000000001 ≤ F) (h1:0 ≤ s.room ∧ s.room ≤ 1000000) (h2:0 ≤ s.ch ∧ s.ch ≤ 1000000000000) (h3:s.o.length ≤ 100000) (h4:x.q.size ≤ 1000000) (h5:x.d.length ≤ 1000000) (h6:∀ y ∈ x.d,y.size ≤ 1000000):vB ext F (n + 9) [s.v,vi now,x.v,vi r] = some ([vi (gL θ s now x r).2],[(gL θ s now x r).1.v,vi now,x.v,vi r]):=by
  refine KC ?_
  have hu:=fun n=>Dk (ext:=ext) (F:=F) (n:=n) now x.ttl
  have hm:=fun n=>T9 (F:=F) (n:=n) T s now (x.it (dD now x.ttl) r) hF h4 h5 h6
  by_cases h0:nA θ s now (x.it (dD now x.ttl) r) = 0
  · have hw:IntKind.i64.wrap (s.ch + 1) = s.ch + 1:=KJ (by omega) (by omega)
    have hcl:=fun n=>Dv (ext:=ext) (F:=F) (n:=n) C (x.it (dD now x.ttl) r) h5
    have hq:=@wm s.o x.k
    have ht:=fun n=>Dq (ext:=ext) (F:=F) (n:=n) C s.o x.k (by omega) hF
    have hc:=fun n=>TU (ext:=ext) (F:=F) (n:=n) C (sM s.o x.k ++ [x.k]) s.room (by simp;omega) (by omega) hF
    have hup:=KY s.m (x.it (dD now x.ttl) r)
    simp only [kq,rI] at hup
    rw [h0] at hm
    have he:gL θ s now x r = (⟨s.room,((sM s.o x.k ++ [x.k]).take ((sM s.o x.k ++ [x.k]).length - s.room.toNat)).foldl rid (upd s.m (x.it (dD now x.ttl) r)),(sM s.o x.k ++ [x.k]).drop ((sM s.o x.k ++ [x.k]).length - s.room.toNat),s.ch + 1⟩,0):=by
      unfold gL
      simp only [ne_eq,h0,not_true_eq_false,if_false]
    rw [he]
    generalize hqt:sM s.o x.k ++ [x.k] = t at ht hc ⊢
    generalize t.drop (t.length - s.room.toNat) = td at hc ⊢
    generalize htt:t.take (t.length - s.room.toNat) = tt at hc ⊢
    have htl:tt.length ≤ 1000000:=by rw [← htt,List.length_take,← hqt,List.length_append,List.length_singleton];omega
    generalize hM:upd s.m (x.it (dD now x.ttl) r) = M at hup ⊢
    simp only [vB,pA,pB,La,Yk,hu,hm,Int.reduceEq,hcl,ht,hc,hup,hw,go_sem,Nat.reduceAdd,Nat.reduceMul,Nat.reduceEqDiff,Nat.reduceBEq,Nat.reduceMod,Nat.reduceDiv,↓reduceIte,reduceCtorEq]
    refine qY tt.length (fun i=>⟨[(4,PV.c (CV.one (PL.ptr 100000 0))),(8,PV.c (CV.one (PL.ptr 180000 0))),(10,PV.c (CV.one (PL.f (FV.sl (List.map rQ td))))),(52,PV.c (CV.one (PL.f (FV.sl (List.map rQ tt))))),(53,PV.c (CV.one (PL.f (FV.int IntKind.i64 ↑(List.map rQ tt).length)))),(54,PV.c (CV.one (PL.f (FV.int IntKind.i64 i))))],[(20201,Ob.mg [PL.f (FV.int IntKind.i64 s.room),PL.mp 530004,PL.f (FV.sl (List.map rQ s.o)),PL.f (FV.int IntKind.i64 s.ch)]),(100000,Ob.mg [PL.ptr 20201 0]),(180000,Ob.mg [PL.f (FV.int IntKind.i64 0)]),(530004,Ob.map shQ (((tt.take i).foldl rid M).map ent))]⟩) (fun _=>True) (by omega) rfl trivial (fun i hi _=>?_) (fun _=>?_)
    · obtain ⟨k,hx,hlt,hit,h00⟩:=at_ hi
      have hn':=nx hi (by omega)
      have hdl:=Dt ((tt.take i).foldl rid M) k
      have hfo:(tt.take (i + 1)).foldl rid M = rid ((tt.take i).foldl rid M) k:=by rw [List.take_add_one,hx,List.foldl_append];rfl
      simp only [List.length_map,List.getElem?_map,hlt,hx,hit,h00,hn',rQ,hdl,go_sem,Nat.reduceAdd,Nat.reduceMul,Nat.reduceEqDiff,Nat.reduceBEq,Nat.reduceMod,Nat.reduceDiv,↓reduceIte,reduceCtorEq]
      rw [hfo]
    · have hd:=@end_ _ tt
      simp only [List.length_map,hd,hw,List.take_length,Int.reduceEq,go_sem,Nat.reduceAdd,Nat.reduceMul,Nat.reduceEqDiff,Nat.reduceBEq,Nat.reduceMod,Nat.reduceDiv,↓reduceIte,reduceCtorEq]
      done
  · have he:gL θ s now x r = (s,nA θ s now (x.it (dD now x.ttl) r)):=by
      unfold gL
      simp only [ne_eq,h0,not_false_eq_true,if_true]
    rw [he]
    simp only [vB,pA,pB,La,Yk,hu,hm,Int.reduceEq,h0,go_sem,Nat.reduceAdd,Nat.reduceMul,Nat.reduceEqDiff,Nat.reduceBEq,Nat.reduceMod,Nat.reduceDiv,↓reduceIte,reduceCtorEq]
end Go.Proofs.Ytdkkgecdhapfhaa.Ka
namespace Go.Proofs.Ytdkkgecdhapfhaa.Ev
open Go
def E9 (P:Program):List Field → Nat → Bool
  | [],_=>true
  | f :: fs,i=>(f.name != "_") && (f.offset == i) && (Eo P f.type).isSome && E9 P fs (i + 1)
def okT (P:Program) (t:TypeId):Bool:=!P.eqGuardType P.depth t && match P.underlying t with
  | some (.struct fs)=>!P.stoodInHeld t && E9 P fs.toList 0
  | some (.int _)=>true
  | some .string=>true
  | some .bool=>true
  | _=>false
section
variable {P : Program} {t:TypeId} {w:World}
theorem uM {k:SK} (h:Eo P t = some k):(∃ i,P.underlying t = some (.int i) ∧ k = .int i) ∨ (P.underlying t = some .bool ∧ k = .bool) ∨ (P.underlying t = some .string ∧ k = .str):=by
  unfold Eo at h
  split at h <;> simp_all
theorem Rc {d:Nat} {k:SK} (h:Eo P t = some k) {a b:SV} (ha:a.sk = k) (hb:b.sk = k):(Op.equalIn (d + 1) t (encS a) (encS b)).run P w = .ok (decide (a = b)) w:=by
  rcases uM h with ⟨i,hu,rfl⟩ | ⟨hu,rfl⟩ | ⟨hu,rfl⟩
  · cases a <;> cases b <;> simp_all [SV.sk,encS,Op.equalIn,run_underlying hu]
    rw [Bool.eq_iff_iff];simp
  · cases a <;> cases b <;> simp_all [SV.sk,encS,Op.equalIn,run_underlying hu]
    rw [Bool.eq_iff_iff];simp
  · cases a <;> cases b <;> simp_all [SV.sk,encS,Op.equalIn,run_underlying hu]
    exact Mq.uz _ _
theorem Bp {k:SK} (h:Eo P t = some k) {xs:Array Value} {o:Nat} {v:Value} (hx:xs[o]? = some v):(part t xs o).run P w = .ok v w:=by
  rcases uM h with ⟨i,hu,rfl⟩ | ⟨hu,rfl⟩ | ⟨hu,rfl⟩ <;> simp [part,isAgg,run_underlying hu,hx]
theorem zO {d:Nat} {xs ys:Array Value}:∀ {fs:List Field} {i:Nat} {ks:List SK} {ZZ9 bs:List SV},E9 P fs i = true → Ii P fs = some ks → ZZ9.map SV.sk = ks → bs.map SV.sk = ks → (∀ j:Nat,xs[i + j]? = ZZ9[j]?.map encS) → (∀ j:Nat,ys[i + j]? = bs[j]?.map encS) →
    (Op.eqFields (d + 1) xs ys fs).run P w = .ok (decide (ZZ9 = bs)) w
  | [],i,ks,ZZ9,bs,_,hk,ha,hb,_,_=>by
    cases hk
    simp only [List.map_eq_nil_iff] at ha hb
    subst ha;subst hb
    simp [Op.eqFields]
  | f :: fs,i,ks,ZZ9,bs,hf,hk,ha,hb,hx,hy=>by
    obtain ⟨k,h1,h2⟩:=zbm hk
    obtain ⟨l,h3,rfl⟩:=zmm h2
    unfold E9 at hf
    simp only [Bool.and_eq_true,bne_iff_ne,ne_eq,beq_iff_eq] at hf
    obtain ⟨⟨⟨f1,f2⟩,f3⟩,f4⟩:=hf
    cases ZZ9 with
    | nil=>simp at ha
    | cons a ZZ9 =>
    cases bs with
    | nil=>simp at hb
    | cons b bs =>
    simp only [List.map_cons,List.cons.injEq] at ha hb
    have ex:xs[f.offset]? = some (encS a):=by rw [f2];simpa using hx 0
    have ey:ys[f.offset]? = some (encS b):=by rw [f2];simpa using hy 0
    have ih:=zO (d:=d) f4 h3 ha.2 hb.2 (fun j=>by have:=hx (j + 1);rw [show i + 1 + j = i + (j + 1) from by omega];simpa using this) (fun j=>by have:=hy (j + 1);rw [show i + 1 + j = i + (j + 1) from by omega];simpa using this)
    unfold Op.eqFields
    rw [if_pos f1]
    simp only [Sem.run_bind,Bp h1 ex,Bp h1 ey,Result.andThen_ok,Rc h1 ha.1 hb.1,List.cons.injEq]
    by_cases hab:a = b
    · subst hab;simp [ih]
    · simp [hab]
theorem Oi {e:Bool} {n:Nat} {k:SK} (h:Eo P t = some k) {a:SV} (ha:a.sk = k):(Instr.checkKey e (n + 1) t (encS a)).run P w = .ok () w:=by
  rcases uM h with ⟨i,hu,rfl⟩ | ⟨hu,rfl⟩ | ⟨hu,rfl⟩ <;> cases a <;> simp_all [SV.sk,encS,Instr.checkKey,run_underlying hu]
theorem Dz {e:Bool} {n:Nat} {cs:Array Value}:∀ {fs:List Field} {i:Nat} {ks:List SK} {ZZ9:List SV},E9 P fs i = true → Ii P fs = some ks → ZZ9.map SV.sk = ks → (∀ j:Nat,cs[i + j]? = ZZ9[j]?.map encS) →
    (forIn fs PUnit.unit (fun (f:Field) (_:PUnit)=>(do
      if f.name ≠ "_" then Instr.checkKey e (n + 1) f.type (← part f.type cs f.offset)
      pure (ForInStep.yield PUnit.unit):Sem (ForInStep PUnit)))).run P w = .ok PUnit.unit w
  | [],i,ks,ZZ9,_,_,_,_=>by simp
  | f :: fs,i,ks,ZZ9,hf,hk,ha,hx=>by
    obtain ⟨k,h1,h2⟩:=zbm hk
    obtain ⟨l,h3,rfl⟩:=zmm h2
    unfold E9 at hf
    simp only [Bool.and_eq_true,bne_iff_ne,ne_eq,beq_iff_eq] at hf
    obtain ⟨⟨⟨f1,f2⟩,f3⟩,f4⟩:=hf
    cases ZZ9 with
    | nil=>simp at ha
    | cons a ZZ9 =>
    simp only [List.map_cons,List.cons.injEq] at ha
    have ex:cs[f.offset]? = some (encS a):=by rw [f2];simpa using hx 0
    have ih:=Dz (e:=e) (n:=n) f4 h3 ha.2 (fun j=>by have:=hx (j + 1);rw [show i + 1 + j = i + (j + 1) from by omega];simpa using this)
    rw [List.forIn_cons]
    simp only [if_pos f1,Sem.run_bind,Bp h1 ex,Result.andThen_ok,Oi h1 ha.1,Sem.run_pure]
    exact ih
theorem Oj {e:Bool} {n:Nat} {fs:Array Field} {ks:List SK} {ZZ9:List SV} (hu:P.underlying t = some (.struct fs)) (hf:E9 P fs.toList 0 = true) (hk:Ii P fs.toList = some ks) (ha:ZZ9.map SV.sk = ks):(Instr.checkKey e (n + 2) t (.agg (ZZ9.map encS).toArray)).run P w = .ok () w:=by
  have:=Dz (w:=w) (e:=e) (n:=n) hf hk ha (cs:=(ZZ9.map encS).toArray) (fun j=>by simp)
  unfold Instr.checkKey
  simp only [Sem.run_bind,run_underlying hu,Result.andThen_ok]
  rw [← Array.forIn_toList]
  simp only [ne_eq,ite_not] at this ⊢
  simp at this ⊢
  rw [this]
  rfl
theorem Ol {n:Nat} {ZZ9:List SV} (hs:∀ (n:Nat) (a:SV),Instr.sameBits n (encS a) (encS a) = true):Instr.sameBits (n + 1) (.agg (ZZ9.map encS).toArray) (.agg (ZZ9.map encS).toArray) = true:=by
  unfold Instr.sameBits
  simp only [beq_self_eq_true,Bool.true_and,List.all_eq_true]
  intro p hp
  have:∀ (l:List Value) (p:Value × Value),p ∈ l.zip l → p.1 = p.2 ∧ p.1 ∈ l:=by
    intro l
    induction l with
    | nil=>intro p hp;simp at hp
    | cons x l ih =>
      intro p hp
      rcases List.mem_cons.mp hp with rfl | hp
      · exact ⟨rfl,by simp⟩
      · exact ⟨(ih p hp).1,List.mem_cons_of_mem _ (ih p hp).2⟩
  obtain ⟨h1,h2⟩:=this _ _ hp
  obtain ⟨x,y⟩:=p
  simp only at h1 h2
  subst h1
  simp only [List.mem_map] at h2
  obtain ⟨s,_,rfl⟩:=h2
  exact hs _ s
theorem Gx {n:Nat} (a:SV):Instr.sameBits n (encS a) (encS a) = true:=by
  cases a <;> simp [encS,Instr.sameBits]
  rw [Mq.uz];simp
theorem DC {ks:List SK} {a:KV} (h:a.ks = .agg ks):∃ ZZ9,a = .agg ZZ9 ∧ ZZ9.map SV.sk = ks:=by
  cases a with
  | one x=>cases h
  | agg ZZ9=>exact ⟨ZZ9,rfl,by simpa [KV.ks] using h⟩
theorem zP {k:SK} {a:KV} (h:a.ks = .one k):∃ x,a = .one x ∧ x.sk = k:=by
  cases a with
  | one x=>exact ⟨x,rfl,by simpa [KV.ks] using h⟩
  | agg ZZ9=>cases h
theorem Om {n:Nat} {d:TypeDesc} (hu:P.underlying t = some d) (hd:∀ ms,d ≠ .interface ms):(Op.eqGuardIn (n + 1) t .nilIface .nilIface).run P w = .ok false w:=by
  unfold Op.eqGuardIn
  simp only [Sem.run_bind,run_underlying hu,Result.andThen_ok]
  cases d <;> first | rfl | exact absurd rfl (hd _)
theorem Bq {d:TypeDesc} (hu:P.underlying t = some d) (hd:∀ ms,d ≠ .interface ms) (w:World):(Op.eqGuardIn Op.maxDepth t .nilIface .nilIface).run P w = .ok false w:=by
  unfold Op.maxDepth
  exact Om hu hd
set_option maxHeartbeats 2000000 in
theorem Uf (h:okT P t = true):lG P t:=by
  unfold okT at h
  rw [Bool.and_eq_true] at h
  obtain ⟨hg,h⟩:=h
  have hg':P.eqGuardType P.depth t = false:=by simpa using hg
  have gd:(∀ w,(Op.eqGuardIn Op.maxDepth t .nilIface .nilIface).run P w = .ok false w) → ∀ op x y,∀ (a b:Value) (w:World),(eqGuard op t x y a b).run P w = .ok () w:=by
    intro hn op x y a b w
    have key:(Sem.run P (match a,b with
      | .nilIface,.nilIface=>do
        if (x matches .const _) || (y matches .const _) then return
        if ← Op.eqGuardIn Op.maxDepth t a b then unsupported (.noEntry "binop/eql: two nil values of an interface type with methods, neither of them the literal nil")
      | .agg _,.agg _=>do
        if !(← program).eqGuardType (← program).depth t then return
        if ← Op.eqGuardIn Op.maxDepth t a b then unsupported (.noEntry "binop/eql: two nil values of an interface type with methods, in a part of a struct or an array")
      | _,_=>pure ()) w) = .ok () w:=by
      cases a <;> cases b <;> first | rfl | (simp only [Sem.run_bind,run_program,Result.andThen_ok,hg'];rfl) | skip
      cases x <;> cases y <;> first | rfl | simp [hn]
    unfold eqGuard
    split
    · exact key
    · exact key
    · rfl
  cases hu:P.underlying t with
  | none=>rw [hu] at h;cases h
  | some d =>
    rw [hu] at h
    have sc:∀ k,Eo P t = some k → wS P t = some (.one k) → (∀ w,(Op.eqGuardIn Op.maxDepth t .nilIface .nilIface).run P w = .ok false w) → (∀ a:SV,a.sk = k → MapKept.IsKey d (encS a)) → (∀ a b:SV,a.sk = k → b.sk = k → Instr.sameNow d (encS a) (encS b) = some (decide (a = b))) → lG P t:=by
      intro k hk hks hn h1 h2
      have hcase:∀ {sh},wS P t = some sh → sh = .one k:=fun e=>by rw [hks] at e;cases e;rfl
      refine ⟨fun sh e=>?_,fun sh e a b w ha hb=>?_,gd hn⟩
      · obtain rfl:=hcase e
        refine Mq.Key.M0 hu (fun a ha=>?_) (fun a b ha hb=>?_) (fun a ha=>?_)
        · obtain ⟨x,rfl,hx⟩:=zP ha;exact h1 x hx
        · obtain ⟨x,rfl,hx⟩:=zP ha
          obtain ⟨y,rfl,hy⟩:=zP hb
          simp only [ng,KV.one.injEq]
          exact h2 x y hx hy
        · obtain ⟨x,rfl,hx⟩:=zP ha;exact Gx x
      · obtain rfl:=hcase e
        obtain ⟨x,rfl,hx⟩:=zP ha
        obtain ⟨y,rfl,hy⟩:=zP hb
        simp only [ng,KV.one.injEq]
        unfold Op.equal Op.maxDepth
        exact Rc hk hx hy
    cases d with
    | int i =>
      refine sc (.int i) (by simp [Eo,hu]) (by simp [wS,Eo,hu]) (Bq hu (fun _ h=>by cases h)) (fun a ha=>?_) (fun a b ha hb=>?_)
      · cases a <;> simp_all [SV.sk,encS,MapKept.IsKey]
      · cases a <;> cases b <;> simp_all [SV.sk,encS,Instr.sameNow]
        rw [Bool.eq_iff_iff];simp
    | bool =>
      refine sc .bool (by simp [Eo,hu]) (by simp [wS,Eo,hu]) (Bq hu (fun _ h=>by cases h)) (fun a ha=>?_) (fun a b ha hb=>?_)
      · cases a <;> simp_all [SV.sk,encS,MapKept.IsKey]
      · cases a <;> cases b <;> simp_all [SV.sk,encS,Instr.sameNow]
        rw [Bool.eq_iff_iff];simp
    | string =>
      refine sc .str (by simp [Eo,hu]) (by simp [wS,Eo,hu]) (Bq hu (fun _ h=>by cases h)) (fun a ha=>?_) (fun a b ha hb=>?_)
      · cases a <;> simp_all [SV.sk,encS,MapKept.IsKey]
      · cases a <;> cases b <;> simp_all [SV.sk,encS,Instr.sameNow]
        exact Mq.uz _ _
    | struct fs =>
      simp only [Bool.and_eq_true,Bool.not_eq_true'] at h
      have hcase:∀ {sh},wS P t = some sh → ∃ ks,Ii P fs.toList = some ks ∧ sh = .agg ks:=fun e=>by
        unfold wS at e
        rw [hu] at e
        obtain ⟨ks,h1,h2⟩:=zmm e
        exact ⟨ks,h1,h2.symm⟩
      have idx:∀ (ZZ9:List SV) (j:Nat),((ZZ9.map encS).toArray)[0 + j]? = ZZ9[j]?.map encS:=fun ZZ9 j=>by simp
      have heq:∀ sh,wS P t = some sh → ∀ (a b:KV) (w:World),a.ks = sh → b.ks = sh → (Op.equal t (ng a) (ng b)).run P w = .ok (decide (a = b)) w:=by
        intro sh e a b w ha hb
        obtain ⟨ks,hks,rfl⟩:=hcase e
        obtain ⟨ZZ9,rfl,ha1⟩:=DC ha
        obtain ⟨bs,rfl,hb1⟩:=DC hb
        have hf:P.fieldsOf t = fs:=by simp [Program.fieldsOf,hu]
        unfold Op.equal Op.maxDepth
        simp only [ng,KV.agg.injEq]
        rw [run_equalIn_struct (P:=P) w _ t _ _ (by rw [hf];exact hu) h.1,hf]
        exact zO h.2 hks ha1 hb1 (idx ZZ9) (idx bs)
      refine ⟨fun sh e=>?_,heq,gd (Bq hu (fun _ h=>by cases h))⟩
      · obtain ⟨ks,hks,rfl⟩:=hcase e
        refine Mq.Key.JK hu (fun e' a w ha=>?_) (fun a b w ha hb=>heq _ e a b w ha hb) (fun a ha=>?_) (fun a ha=>?_)
        · obtain ⟨ZZ9,rfl,ha1⟩:=DC ha
          exact Oj (n:=9998) hu h.2 hks ha1
        · obtain ⟨ZZ9,rfl,ha1⟩:=DC ha
          exact Ol (n:=9999) (fun n a=>Gx a)
        · obtain ⟨ZZ9,rfl,ha1⟩:=DC ha
          exact ⟨_,rfl⟩
    | _=>simp at h
end
end Go.Proofs.Ytdkkgecdhapfhaa.Ev
set_option maxRecDepth 100000
namespace Go.Proofs.Ytdkkgecdhapfhaa.Ka
open Go Go.RowKit Go.Proofs Ev
theorem eqs : ∀ t ∈ [3,32],lG Try.prog t:=by
  intro t ht
  simp only [List.mem_cons,List.not_mem_nil,or_false] at ht
  rcases ht with rfl | rfl <;> exact Uf (by kernel_rfl)
theorem mixed : Try.prog.follows .mixedOrders = true:=by kernel_rfl
theorem Oo : iQ Try.prog fun _ _=>none:=fun f gJ rs rH h=>by cases h
theorem II : eP Try.prog fun _ _=>none:=fun f gJ r h=>by cases h
def Ug : CF:=⟨1,[(.t 2)],[],[],(.seq (.reg [⟨(some 2),none,(.mv (.k (.one .fF)))⟩] [0]) (.seq (.seq (.reg [⟨(some 3),none,(.mv (.t 0))⟩,⟨(some 4),none,(.Am false (.t 3))⟩] [0,4]) (.cond (.t 4) (.seq (.reg [⟨(some 2),none,(.mv (.k (.one .fF)))⟩] [2]) .ret) .skip)) (.seq (.reg [⟨(some 5),none,(.FP 9 1 0 [] [])⟩,⟨(some 6),none,(.mv (.t 0))⟩,⟨(some 7),none,(.app 9 1 16 (.t 5) (.t 6))⟩,⟨(some 2),none,(.mv (.t 7))⟩] [2]) .ret)))⟩
def Uh : CF:=⟨1,[(.t 2)],[some 3],[],(.seq (.reg [⟨(some 2),none,(.mv (.k (.one .fF)))⟩] [0]) (.seq (.seq (.reg [⟨(some 3),none,(.mv (.t 0))⟩,⟨(some 4),none,(.Am false (.t 3))⟩] [0,4]) (.cond (.t 4) (.seq (.reg [⟨(some 2),none,(.mv (.k (.one .fF)))⟩] [2]) .ret) .skip)) (.seq (.reg [⟨(some 5),none,(.FP 32 3 0 [] [])⟩,⟨(some 6),none,(.mv (.t 0))⟩,⟨(some 7),none,(.app 32 3 32 (.t 5) (.t 6))⟩,⟨(some 2),none,(.mv (.t 7))⟩] [2]) .ret)))⟩
theorem Oq {f:FuncId} {cf:CF} {Γ:Env} (h:mq Try.prog f cf) (h1:iQ Try.prog Γ) (h2:eP Try.prog Γ) (F:Nat):Sat Try.prog f (Jz Γ F cf):=by
  obtain ⟨fn,c,X,hints,rest,e1,_,e2,e3,e4,e5,e6⟩:=h.ok
  exact zN mixed e3 h1 h2 e1 e2 e4 e5 e6 F
theorem Ot : mq Try.prog 88 Ug:=⟨Try.f88,_,⟨[3,32],[],[],[33,89]⟩,[⟨[0],[],[]⟩,⟨[0,4],[],[]⟩,⟨[2],[],[]⟩,⟨[2],[],[]⟩],[],by kernel_rfl,by kernel_rfl,rfl,eqs,by kernel_rfl,by kernel_rfl,by decide⟩
theorem Ou : mq Try.prog 70 Uh:=⟨Try.f70,_,⟨[3,32],[],[],[33,89]⟩,[⟨[0],[],[]⟩,⟨[0,4],[],[]⟩,⟨[2],[],[]⟩,⟨[2],[],[]⟩],[],by kernel_rfl,by kernel_rfl,rfl,eqs,by kernel_rfl,by kernel_rfl,by decide⟩
theorem Ov (r:List FV) (l:List (List FV)) (h:l.length < 1000000) (hl:(r :: l).all (fun r=>r.length == 1) = true):Jz (fun _ _=>none) 10 Ug [vl (r :: l)] = some ([vl (r :: l)],[vl (r :: l)]):=by
  refine KC ?_
  rw [List.all_cons,Bool.and_eq_true] at hl
  simp only [Ug,hl.1,hl.2,List.all_cons,go_sem,Nat.reduceAdd,Nat.reduceMul,Nat.reduceEqDiff,Nat.reduceBEq,Nat.reduceMod,Nat.reduceDiv,↓reduceIte,reduceCtorEq]
  omega
theorem Ow (r:List FV) (l:List (List FV)) (h:l.length < 1000000) (hl:(r :: l).all (fun r=>r.length == 3) = true):Jz (fun _ _=>none) 10 Uh [vl (r :: l)] = some ([.one (.own 3 (r :: l))],[vl (r :: l)]):=by
  refine KC ?_
  rw [List.all_cons,Bool.and_eq_true] at hl
  simp only [Uh,hl.1,hl.2,List.all_cons,go_sem,Nat.reduceAdd,Nat.reduceMul,Nat.reduceEqDiff,Nat.reduceBEq,Nat.reduceMod,Nat.reduceDiv,↓reduceIte,reduceCtorEq]
  omega
theorem wz {t e:TypeId} (hu:Try.prog.underlying t = some (.slice e)) (p:Option Addr) (c:Nat) (w:World):(binOp .eql t (.slice p 0 c) (.slice none 0 0)).run Try.prog w = .ok (.bool p.isNone) w:=by
  have:=run_equal_slice_nil w t e p 0 c hu
  simp only [binOp,Sem.run_bind,this,Result.andThen_ok,Sem.run_pure]
theorem DF {t ty e:TypeId} {i:TypeInfo} (hu:Try.prog.underlying t = some (.slice e)) (hi:Try.prog.info? e = some i) (a b:Addr) (c:Nat) (w:World):(Builtin.append_ #[t,t] ty #[.slice (some b) 0 0,.slice (some a) 0 c]).run Try.prog w = .ok (.slice (some b) 0 0) w:=by
  have h1:∀ w,(Builtin.lenOf (.slice (some a) 0 c)).run Try.prog w = .ok 0 w:=fun _=>rfl
  have h2:=fun w=>run_firstCells_some (P:=Try.prog) w i.size 0 a 0 c [] (by simp) (by simp)
  simp [Builtin.append_,run_underlying hu,sizeOf,typeInfo,hi,storeCells,h1,h2]
theorem Ld (c:Nat) (w:World):Calls Try.prog 88 #[.slice none 0 c] w fun e w'=>e = .returned (.slice none 0 0) ∧ w' = w:=by
  have heq:=wz (t:=33) (e:=9) (by kernel_rfl) none c
  go_enter Try.func88,Try.ntmps88
  go_wp2
  go_ret
  exact ⟨rfl,rfl⟩
theorem Le (a:Addr) (c:Nat) (w:World):Calls Try.prog 88 #[.slice (some a) 0 c] w fun e w'=>e = .returned (.slice (some ⟨w.heap.size,0,none⟩) 0 0) ∧ w' = w.alloc (.cells #[] 9):=by
  have heq:=wz (t:=33) (e:=9) (by kernel_rfl) (some a) c
  obtain ⟨i,hi⟩:=Option.isSome_iff_exists.mp (show (Try.prog.info? 9).isSome = true by kernel_rfl)
  have hap:=fun b w=>DF (t:=33) (ty:=33) (e:=9) (by kernel_rfl) hi a b c w
  go_enter Try.func88,Try.ntmps88
  go_wp2
  go_ret
  exact ⟨rfl,rfl⟩
theorem Lf (c:Nat) (w:World):Calls Try.prog 70 #[.slice none 0 c] w fun e w'=>e = .returned (.slice none 0 0) ∧ w' = w:=by
  have heq:=wz (t:=57) (e:=32) (by kernel_rfl) none c
  go_enter Try.func70,Try.ntmps70
  go_wp2
  go_ret
  exact ⟨rfl,rfl⟩
theorem Lg (a:Addr) (c:Nat) (w:World):Calls Try.prog 70 #[.slice (some a) 0 c] w fun e w'=>e = .returned (.slice (some ⟨w.heap.size,0,none⟩) 0 0) ∧ w' = w.alloc (.cells #[] 32):=by
  have heq:=wz (t:=57) (e:=32) (by kernel_rfl) (some a) c
  obtain ⟨i,hi⟩:=Option.isSome_iff_exists.mp (show (Try.prog.info? 32).isSome = true by kernel_rfl)
  have hap:=fun b w=>DF (t:=57) (ty:=57) (e:=32) (by kernel_rfl) hi a b c w
  go_enter Try.func70,Try.ntmps70
  go_wp2
  go_ret
  exact ⟨rfl,rfl⟩
def Ox (sz:Nat) (own:Bool) (gJ:List AV):Option (List AV × List AV):=match gJ with
  | [.one (.f (.sl rows))]=>if rows.length ≤ 1000000 ∧ rows.all (fun r=>r.length == sz) = true then some ([.one (if own then .own sz rows else .f (.sl rows))],gJ) else none
  | _=>none
theorem Fa (w:World) (o:Obj):w.heap.size ≤ (w.alloc o).heap.size ∧ (∀ b,b < w.heap.size → (w.alloc o).heap[b]? = w.heap[b]?) ∧ (w.alloc o).heap[w.heap.size]? = some o ∧ (w.alloc o).heap.size = w.heap.size + 1:=by
  obtain ⟨h1,h2,h3⟩:=ni w o
  exact ⟨by omega,h2,h1,h3⟩
theorem Gy {f:FuncId} {cf:CF} {sz e:Nat} {own:Bool} (h0:0 < sz) (he:mq Try.prog f cf) (hrun:∀ (r:List FV) (l:List (List FV)),l.length < 1000000 → (r :: l).all (fun r=>r.length == sz) = true → Jz (fun _ _=>none) 10 cf [vl (r :: l)] = some ([.one (if own then .own sz (r :: l) else .f (.sl (r :: l)))],[vl (r :: l)]))
    (hn:∀ (c:Nat) (w:World),Calls Try.prog f #[.slice none 0 c] w fun e w'=>e = .returned (.slice none 0 0) ∧ w' = w)
    (hs:∀ (a:Addr) (c:Nat) (w:World),Calls Try.prog f #[.slice (some a) 0 c] w fun e' w'=>e' = .returned (.slice (some ⟨w.heap.size,0,none⟩) 0 0) ∧ w' = w.alloc (.cells #[] e)):Sat Try.prog f (Ox sz own):=by
  intro gJ rs rH hg
  unfold Ox at hg
  split at hg
  · rename_i rows
    split at hg
    · rename_i hc
      cases hg
      cases rows with
      | cons r l =>
        exact Oq he Oo II 10 _ _ _ (hrun r l (by have:=hc.1;simp at this;omega) hc.2)
      | nil =>
        intro Fz w vals bs ha hnd hap hfz
        match vals,ha with
        | [v],⟨b1,b2,h1,h2,e0⟩ =>
        obtain ⟨hv,rfl⟩:=h1
        obtain rfl:b2 = []:=h2
        subst e0
        simp only [fq] at hv
        obtain ⟨A,c,rfl,hle,hbig,_⟩:=hv
        have hrep:∀ (w':World) (v:Value),(∃ A,v = .slice A 0 0) → fq Fz w' (.sl []) v:=fun w' v ⟨A,hA⟩=>by
          simp only [fq];exact ⟨A,0,by rw [hA];rfl,Nat.le_refl _,by simp,.inl trivial⟩
        have hbk:∀ (w':World),fM Fz w' [vl []] [.slice A ([]:List (List FV)).length c] []:=fun w' =>
          ⟨[],[],⟨by simp only [fq];exact ⟨A,c,rfl,hle,hbig,.inl trivial⟩,rfl⟩,rfl,rfl⟩
        cases A with
        | none =>
          refine (hn c w).mono fun e' w' ⟨e1,e2⟩=>?_
          subst e2
          refine ⟨Fz,[.slice none 0 0],[],[],e1,fun _ h=>h,fun b hb=>⟨hfz b hb,.inl hb⟩,Nat.le_refl _,fun _ _ _=>rfl,⟨rfl,rfl⟩,hbk w',?_,by simp,fun b hb=>by simp at hb⟩
          cases own with
          | true=>exact ⟨[],[],⟨h0,0,[],none,0,rfl,World.ownsRow_nil w' _ _ _,rfl,rfl⟩,rfl,rfl⟩
          | false=>exact ⟨[],[],⟨hrep w' _ ⟨none,rfl⟩,rfl⟩,rfl,rfl⟩
        | some a =>
          refine (hs a c w).mono fun e' w' ⟨e1,e2⟩=>?_
          subst e2
          obtain ⟨k1,k2,k3,k4⟩:=Fa w (.cells #[] e)
          cases own with
          | true =>
            refine ⟨Fz,[.slice (some ⟨w.heap.size,0,none⟩) 0 0],[],[w.heap.size],e1,fun _ h=>h,fun b hb=>⟨Nat.lt_of_lt_of_le (hfz b hb) k1,.inl hb⟩,k1,fun b hb _=>k2 b hb,⟨rfl,rfl⟩,hbk _,?_,by simp,fun b hb=>?_⟩
            · refine ⟨[w.heap.size],[],⟨h0,e,[],_,0,rfl,⟨by simp,.inr ⟨w.heap.size,0,#[],rfl,Nat.zero_le _,k3,Nat.le_refl _,by simp [maxLen],by simp,by simp⟩⟩,rfl,rfl⟩,rfl,rfl⟩
            · simp at hb
              subst hb
              exact ⟨fun hf=>by have:=hfz _ hf;omega,by omega,.inr (Nat.le_refl _)⟩
          | false =>
            exact ⟨Fz,[.slice (some ⟨w.heap.size,0,none⟩) 0 0],[],[],e1,fun _ h=>h,fun b hb=>⟨Nat.lt_of_lt_of_le (hfz b hb) k1,.inl hb⟩,k1,fun b hb _=>k2 b hb,⟨rfl,rfl⟩,hbk _,⟨[],[],⟨hrep _ _ ⟨_,rfl⟩,rfl⟩,rfl,rfl⟩,by simp,fun b hb=>by simp at hb⟩
    · cases hg
  · cases hg
theorem Oy : Sat Try.prog 88 (Ox 1 false):=Gy (by decide) Ot Ov Ld Le
theorem Oz : Sat Try.prog 70 (Ox 3 true):=Gy (by decide) Ou Ow Lf Lg
end Go.Proofs.Ytdkkgecdhapfhaa.Ka
set_option maxRecDepth 100000
namespace Go.Proofs.Ytdkkgecdhapfhaa.Ka
open Go Go.Proofs Ev
theorem e3 : mq Try.prog 3 c3:=⟨Try.f3,_,⟨[3,32],[],[],[33,89]⟩,[⟨[0,1],[],[]⟩,⟨[0,1,24],[],[]⟩,⟨[4],[],[]⟩,⟨[0,1,5],[],[]⟩,⟨[1,5,6],[],[]⟩,⟨[1,5,6,35],[],[]⟩,⟨[4],[],[]⟩,⟨[1,5,6,7],[],[]⟩,⟨[1,5,6,7],[40202,140000,560200,560204,560206,600400,1180400,1640400,1642800,2920400],[]⟩,⟨[1,5,6,7,39],[],[]⟩,⟨[1,5,6,7,8],[],[]⟩,⟨[1,5,6,7,8,47],[],[]⟩,⟨[1,5,6,7,8,47,48],[],[]⟩,⟨[1,5,6,7,8,9,10],[],[]⟩,⟨[1,5,6,7,8,10],[],[]⟩,⟨[1,5,6,7,71],[],[]⟩,⟨[4],[],[]⟩,⟨[1,5,6,7,8,47,72],[],[]⟩,⟨[1,5,6,7,8,11,12,13],[],[]⟩,⟨[1,5,6,7,8,12,13],[],[]⟩,⟨[1,5,6,7,12,13,14,15],[],[]⟩,⟨[1,5,6,7,105],[],[]⟩,⟨[4],[],[]⟩,⟨[1,5,6,7,8,47,106],[],[]⟩,⟨[1,5,6,7,8,16,17],[],[]⟩,⟨[1,5,6,7,16,17,18,19],[],[]⟩,⟨[1,5,6,7,137],[],[]⟩,⟨[4],[],[]⟩,⟨[1,5,6,7,8,138],[],[]⟩,⟨[1,5,6,7,8,20,21],[],[]⟩,⟨[1,5,6,7,8,21],[],[]⟩,⟨[1,5,6,7,155],[],[]⟩,⟨[4],[],[]⟩,⟨[1,5,6,7,168],[40202,140000,560200,560204,560206,600400,1180400,1640400,1642800,2920400],[]⟩,⟨[4],[],[]⟩,⟨[1,5,6,7],[],[]⟩,⟨[4],[],[]⟩],[],by kernel_rfl,by kernel_rfl,rfl,eqs,by kernel_rfl,by kernel_rfl,by decide⟩
theorem e4 : mq Try.prog 4 c4:=⟨Try.f4,_,⟨[3,32],[],[],[33,89]⟩,[⟨[0,1],[],[]⟩,⟨[0,1,23],[],[]⟩,⟨[4],[],[]⟩,⟨[0,1,5],[],[]⟩,⟨[0,1,5,28],[],[]⟩,⟨[4],[],[]⟩,⟨[0,1,5,6],[],[]⟩,⟨[0,1,5,6,7],[],[]⟩,⟨[0,1,5,6,7],[40202,140000,540200,540204,540206],[(6,5)]⟩,⟨[0,1,5,6,7,32],[],[]⟩,⟨[0,1,5,6,7,8],[],[]⟩,⟨[0,1,5,6,7,8,41],[],[]⟩,⟨[0,1,5,6,7,8,9,10],[],[]⟩,⟨[0,1,5,6,7,79],[40202,140000,540200,540204,540206,1000800],[]⟩,⟨[4],[],[]⟩,⟨[0,1,5,6,7,8,88],[],[]⟩,⟨[0,1,5,6,7,8],[],[]⟩,⟨[0,1,5,6,7,8,11,12],[],[]⟩,⟨[0,1,5,6,7,120],[],[]⟩,⟨[4],[],[]⟩,⟨[0,1,5,6,7,131],[],[]⟩,⟨[4],[],[]⟩,⟨[0,1,5,6,7],[],[]⟩,⟨[4],[],[]⟩],[],by kernel_rfl,by kernel_rfl,rfl,eqs,by kernel_rfl,by kernel_rfl,by decide⟩
theorem e5 : mq Try.prog 5 c5:=⟨Try.f5,_,⟨[3,32],[],[],[33,89]⟩,[⟨[2,3],[],[]⟩,⟨[2,3,20],[],[]⟩,⟨[4],[],[]⟩,⟨[2,3,5],[],[]⟩,⟨[2,3,5,24],[],[]⟩,⟨[4],[],[]⟩,⟨[2,3,5,33],[],[]⟩,⟨[4],[],[]⟩,⟨[2,3,5],[],[]⟩,⟨[2,3,5,6,7],[],[]⟩,⟨[2,3,5,6,7,8],[],[]⟩,⟨[2,3,5,6,7,8,9,10],[],[]⟩,⟨[2,3,5,6,7,8,9,10,80],[],[]⟩,⟨[4],[],[]⟩,⟨[5,6,7,9,10,120],[],[]⟩,⟨[4],[],[]⟩,⟨[4],[],[]⟩],[],by kernel_rfl,by kernel_rfl,rfl,eqs,by kernel_rfl,by kernel_rfl,by decide⟩
theorem e6 : mq Try.prog 6 c6:=⟨Try.f6,_,⟨[3,32],[],[],[33,89]⟩,[⟨[1],[],[]⟩,⟨[1,11],[],[]⟩,⟨[2],[],[]⟩,⟨[1,3],[],[]⟩,⟨[1,3,4,5],[],[]⟩,⟨[1,3,4,5,6,7],[],[]⟩,⟨[2],[],[]⟩],[],by kernel_rfl,by kernel_rfl,rfl,eqs,by kernel_rfl,by kernel_rfl,by decide⟩
theorem e7 : mq Try.prog 7 c7:=⟨Try.f7,_,⟨[3,32],[],[],[33,89]⟩,[⟨[0,1,2],[],[]⟩,⟨[0,1,2,33],[],[]⟩,⟨[6],[],[]⟩,⟨[0,1,2,7],[],[]⟩,⟨[0,1,2,7,37],[],[]⟩,⟨[6],[],[]⟩,⟨[0,1,2,7,8],[],[]⟩,⟨[0,1,2,7,8],[20202,720200,720204,720206],[]⟩,⟨[0,1,2,7,8,41],[],[]⟩,⟨[0,1,2,7,8],[],[]⟩,⟨[0,1,2,7,8],[],[]⟩,⟨[1,2,7,9],[],[]⟩,⟨[1,2,7,9,10],[],[]⟩,⟨[1,2,7,9,10],[720200,720204,720206,1260200],[]⟩,⟨[1,2,7,9,10,66],[],[]⟩,⟨[1,2,7,9,10,11,12],[],[]⟩,⟨[1,2,7,9,10,11,12,13,14],[],[]⟩,⟨[1,2,7,9,10,111],[],[]⟩,⟨[6],[],[]⟩,⟨[1,2,7,9,10],[],[]⟩,⟨[6],[],[]⟩],[],by kernel_rfl,by kernel_rfl,rfl,eqs,by kernel_rfl,by kernel_rfl,by decide⟩
theorem e8 : mq Try.prog 8 c8:=⟨Try.f8,_,⟨[3,32],[],[],[33,89]⟩,[⟨[0,1],[],[]⟩,⟨[0,1,28],[],[]⟩,⟨[4],[],[]⟩,⟨[0,1,5],[],[]⟩,⟨[0,1,5,33],[],[]⟩,⟨[4],[],[]⟩,⟨[0,1,5,6],[],[]⟩,⟨[0,1,5,6],[640200,640204,640206],[]⟩,⟨[0,1,5,6,36],[],[]⟩,⟨[0,1,5,6,43],[],[]⟩,⟨[4],[],[]⟩,⟨[0,1,5,6],[],[]⟩,⟨[0,1,5,8],[],[]⟩,⟨[0,1,5,8,9],[],[]⟩,⟨[0,1,5,8,9],[640200,640204,640206,1000800],[]⟩,⟨[0,1,5,8,9,55],[],[]⟩,⟨[0,1,5,8,9,68],[],[]⟩,⟨[4],[],[]⟩,⟨[0,1,5,8,9,11],[],[]⟩,⟨[0,1,5,8,9,85],[],[]⟩,⟨[4],[],[]⟩,⟨[0,1,5,8,9],[],[]⟩,⟨[1,5],[],[]⟩,⟨[13],[],[]⟩,⟨[4],[],[]⟩],[],by kernel_rfl,by kernel_rfl,rfl,eqs,by kernel_rfl,by kernel_rfl,by decide⟩
theorem e14 : mq Try.prog 14 c14:=⟨Try.f14,_,⟨[3,32],[],[],[33,89]⟩,[⟨[0,1],[],[]⟩,⟨[0,1,5],[],[]⟩,⟨[0,1,5],[20202],[]⟩,⟨[0,1,5,9],[],[]⟩,⟨[0,1,5,18],[],[]⟩,⟨[4],[],[]⟩,⟨[0,1,5],[],[]⟩,⟨[4],[],[]⟩],[],by kernel_rfl,by kernel_rfl,rfl,eqs,by kernel_rfl,by kernel_rfl,by decide⟩
theorem e15 : mq Try.prog 15 c15:=⟨Try.f15,_,⟨[3,32],[],[],[33,89]⟩,[⟨[],[],[]⟩,⟨[1],[],[]⟩,⟨[1,27],[],[]⟩,⟨[0],[],[]⟩,⟨[1,2],[],[]⟩,⟨[1,2,3],[],[]⟩,⟨[1,2,3],[],[]⟩,⟨[1,2,3,4],[],[]⟩,⟨[1,2,3,4],[],[]⟩,⟨[1,2,3,4,5],[],[]⟩,⟨[1,2,3,4,5,6],[],[]⟩,⟨[1,2,3,4,5,6,7],[],[]⟩,⟨[1,2,3,4,5,6,7,8,9],[],[]⟩,⟨[1,2,3,5,6,7,8,9,10],[],[]⟩,⟨[1,2,5,6,7,8,9,10,12],[],[]⟩,⟨[1,2,5,6,7,8,9,10,12,14],[],[]⟩,⟨[1,2,5,6,7,8,9,10,12,14,15],[],[]⟩,⟨[1,2,5,6,7,8,9,10,12,14,15],[],[]⟩,⟨[1,2,5,6,7,8,9,10,12,14,16],[],[]⟩,⟨[0],[],[]⟩],[],by kernel_rfl,by kernel_rfl,rfl,eqs,by kernel_rfl,by kernel_rfl,by decide⟩
theorem e16 : mq Try.prog 16 c16:=⟨Try.f16,_,⟨[3,32],[],[],[33,89]⟩,[⟨[0],[],[]⟩,⟨[0,8],[],[]⟩,⟨[2],[],[]⟩,⟨[2],[],[]⟩],[],by kernel_rfl,by kernel_rfl,rfl,eqs,by kernel_rfl,by kernel_rfl,by decide⟩
theorem e17 : mq Try.prog 17 c17:=⟨Try.f17,_,⟨[3,32],[],[],[33,89]⟩,[⟨[0,2],[],[]⟩,⟨[0,2,8],[],[]⟩,⟨[2],[],[]⟩,⟨[2],[],[]⟩],[],by kernel_rfl,by kernel_rfl,rfl,eqs,by kernel_rfl,by kernel_rfl,by decide⟩
theorem e20 : mq Try.prog 20 c20:=⟨Try.f20,_,⟨[3,32],[],[],[33,89]⟩,[⟨[1,3,5,6,7],[],[]⟩,⟨[3,5,6,7,9,10],[],[]⟩,⟨[3,5,6,7,9,10,19],[],[]⟩,⟨[3,6,7,9,10,11],[],[]⟩,⟨[3,6,7,9,10,11],[],[]⟩,⟨[3,6,7,9,10],[],[]⟩,⟨[6,7,8],[],[]⟩],[],by kernel_rfl,by kernel_rfl,rfl,eqs,by kernel_rfl,by kernel_rfl,by decide⟩
theorem e21 : mq Try.prog 21 c21:=⟨Try.f21,_,⟨[3,32],[],[],[33,89]⟩,[⟨[0,1,5,6],[],[]⟩,⟨[0,5,6,8,9],[],[]⟩,⟨[0,5,6,8,9,17],[],[]⟩,⟨[6,8,9],[],[]⟩,⟨[6,7],[],[]⟩],[],by kernel_rfl,by kernel_rfl,rfl,eqs,by kernel_rfl,by kernel_rfl,by decide⟩
theorem e22 : mq Try.prog 22 Er:=⟨Try.f22,_,⟨[3,32],[],[],[33,89]⟩,[⟨[2,3],[],[]⟩,⟨[4],[],[]⟩],[],by kernel_rfl,by kernel_rfl,rfl,eqs,by kernel_rfl,by kernel_rfl,by decide⟩
theorem e25 : mq Try.prog 25 MO:=⟨Try.f25,_,⟨[3,32],[],[],[33,89]⟩,[⟨[0,1,5,6],[],[]⟩,⟨[0,1,5,6,11],[],[]⟩,⟨[6,7],[],[]⟩,⟨[1,6,8,9],[],[]⟩,⟨[6,8,30],[],[]⟩,⟨[6,7],[],[]⟩,⟨[6,7],[],[]⟩],[],by kernel_rfl,by kernel_rfl,rfl,eqs,by kernel_rfl,by kernel_rfl,by decide⟩
theorem e27 : mq Try.prog 27 X3:=⟨Try.f27,_,⟨[3,32],[],[],[33,89]⟩,[⟨[0,3],[],[]⟩,⟨[0,3,8],[],[]⟩,⟨[4],[],[]⟩,⟨[0,3,6],[],[]⟩,⟨[0,3,19],[],[]⟩,⟨[4],[],[]⟩,⟨[0,3],[],[]⟩,⟨[0],[],[]⟩,⟨[],[],[]⟩,⟨[4],[],[]⟩],[],by kernel_rfl,by kernel_rfl,rfl,eqs,by kernel_rfl,by kernel_rfl,by decide⟩
theorem e29 : mq Try.prog 29 Ir:=⟨Try.f29,_,⟨[3,32],[],[],[33,89]⟩,[⟨[0],[],[]⟩,⟨[0,4],[],[]⟩,⟨[2],[],[]⟩,⟨[2],[],[]⟩],[],by kernel_rfl,by kernel_rfl,rfl,eqs,by kernel_rfl,by kernel_rfl,by decide⟩
theorem e31 : mq Try.prog 31 c31:=⟨Try.f31,_,⟨[3,32],[],[],[33,89]⟩,[⟨[0],[],[]⟩,⟨[0,4],[],[]⟩,⟨[2],[],[]⟩,⟨[2],[],[]⟩],[],by kernel_rfl,by kernel_rfl,rfl,eqs,by kernel_rfl,by kernel_rfl,by decide⟩
theorem e32 : mq Try.prog 32 c32:=⟨Try.f32,_,⟨[3,32],[],[],[33,89]⟩,[⟨[2,3],[],[]⟩,⟨[4],[],[]⟩],[],by kernel_rfl,by kernel_rfl,rfl,eqs,by kernel_rfl,by kernel_rfl,by decide⟩
theorem e33 : mq Try.prog 33 KI:=⟨Try.f33,_,⟨[3,32],[],[],[33,89]⟩,[⟨[0,3,4],[],[]⟩,⟨[0,3,4,5],[],[]⟩,⟨[0,3,4,5,6],[],[]⟩,⟨[0,3,4,5,6],[30201,80000,100000,120000],[]⟩,⟨[0,3,4,5,6,10],[],[]⟩,⟨[0,3,4,5,6,19],[],[]⟩,⟨[0,3,4,5,6],[],[]⟩,⟨[0,3,4,5,6],[],[]⟩,⟨[4],[],[]⟩],[],by kernel_rfl,by kernel_rfl,rfl,eqs,by kernel_rfl,by kernel_rfl,by decide⟩
theorem e34 : mq Try.prog 34 c34:=⟨Try.f34,_,⟨[3,32],[],[],[33,89]⟩,[⟨[0],[],[]⟩,⟨[0,3],[],[]⟩,⟨[0,3],[20202],[]⟩,⟨[0,3,8],[],[]⟩,⟨[0,3,4],[],[]⟩,⟨[0,3,4],[20202],[]⟩,⟨[0,3,4,13],[],[]⟩,⟨[0,3,4,24],[],[]⟩,⟨[2],[],[]⟩,⟨[0,3,4],[],[]⟩,⟨[0,3],[],[]⟩,⟨[2],[],[]⟩],[],by kernel_rfl,by kernel_rfl,rfl,eqs,by kernel_rfl,by kernel_rfl,by decide⟩
theorem e35 : mq Try.prog 35 c35:=⟨Try.f35,_,⟨[3,32],[],[],[33,89]⟩,[⟨[1],[],[]⟩,⟨[1,3],[],[]⟩,⟨[1,3],[20802,40000],[]⟩,⟨[1,3,8],[],[]⟩,⟨[1,3,23],[],[]⟩,⟨[2],[],[]⟩,⟨[1,3],[],[]⟩,⟨[2],[],[]⟩],[],by kernel_rfl,by kernel_rfl,rfl,eqs,by kernel_rfl,by kernel_rfl,by decide⟩
theorem e62 : mq Try.prog 62 c62:=⟨Try.f62,_,⟨[3,32],[],[],[33,89]⟩,[⟨[0,1],[],[]⟩,⟨[0,1,11],[],[]⟩,⟨[4],[],[]⟩,⟨[4],[],[]⟩],[],by kernel_rfl,by kernel_rfl,rfl,eqs,by kernel_rfl,by kernel_rfl,by decide⟩
theorem e64 : mq Try.prog 64 c64:=⟨Try.f64,_,⟨[3,32],[],[],[33,89]⟩,[⟨[0,1,5],[],[]⟩,⟨[0,1,5,31],[],[]⟩,⟨[6],[],[]⟩,⟨[0,1,5,36],[],[]⟩,⟨[6],[],[]⟩,⟨[1,5,7,8],[],[]⟩,⟨[60],[],[]⟩,⟨[6],[],[]⟩,⟨[6],[],[]⟩],[],by kernel_rfl,by kernel_rfl,rfl,eqs,by kernel_rfl,by kernel_rfl,by decide⟩
theorem e65 : mq Try.prog 65 c65:=⟨Try.f65,_,⟨[3,32],[],[],[33,89]⟩,[⟨[1,2],[],[]⟩,⟨[1,2],[],[]⟩,⟨[2],[],[]⟩],[],by kernel_rfl,by kernel_rfl,rfl,eqs,by kernel_rfl,by kernel_rfl,by decide⟩
theorem e66 : mq Try.prog 66 c66:=⟨Try.f66,_,⟨[3,32],[],[],[33,89]⟩,[⟨[0,1],[],[]⟩,⟨[0,6],[],[]⟩,⟨[4,5],[],[]⟩],[],by kernel_rfl,by kernel_rfl,rfl,eqs,by kernel_rfl,by kernel_rfl,by decide⟩
theorem e67 : mq Try.prog 67 c67:=⟨Try.f67,_,⟨[3,32],[7],[],[33,89]⟩,[⟨[0,3],[],[]⟩,⟨[4],[],[]⟩],[],by kernel_rfl,by kernel_rfl,rfl,eqs,by kernel_rfl,by kernel_rfl,by decide⟩
theorem e68 : mq Try.prog 68 c68:=⟨Try.f68,_,⟨[3,32],[],[],[33,89]⟩,[⟨[0,1],[],[]⟩,⟨[4],[],[]⟩],[],by kernel_rfl,by kernel_rfl,rfl,eqs,by kernel_rfl,by kernel_rfl,by decide⟩
theorem e69 : mq Try.prog 69 c69:=⟨Try.f69,_,⟨[3,32],[],[],[33,89]⟩,[⟨[0,3],[],[]⟩,⟨[4],[],[]⟩],[],by kernel_rfl,by kernel_rfl,rfl,eqs,by kernel_rfl,by kernel_rfl,by decide⟩
theorem e71 : mq Try.prog 71 c71:=⟨Try.f71,_,⟨[3,32],[],[],[33,89]⟩,[⟨[0,1],[],[]⟩,⟨[0,1,10],[],[]⟩,⟨[4],[],[]⟩,⟨[0,1,5],[],[]⟩,⟨[0,1,5],[20202,40202],[]⟩,⟨[0,1,5,14],[],[]⟩,⟨[0,1,5,25],[],[]⟩,⟨[4],[],[]⟩,⟨[0,1,5],[],[]⟩,⟨[4],[],[]⟩],[],by kernel_rfl,by kernel_rfl,rfl,eqs,by kernel_rfl,by kernel_rfl,by decide⟩
theorem e73 : mq Try.prog 73 c73:=⟨Try.f73,_,⟨[3,32],[],[],[33,89]⟩,[⟨[1],[],[]⟩,⟨[1,3],[],[]⟩,⟨[1,3,37],[],[]⟩,⟨[2],[],[]⟩,⟨[1,3,39,40,41],[],[]⟩,⟨[1,3,39,40,41],[20802,40000,80000],[]⟩,⟨[1,3,39,40,41,42],[],[]⟩,⟨[1,3,4,5,39,40,41],[],[]⟩,⟨[1,3,39,40,41,66],[],[]⟩,⟨[2],[],[]⟩,⟨[1,3,39,40,41],[],[]⟩,⟨[2],[],[]⟩],[],by kernel_rfl,by kernel_rfl,rfl,eqs,by kernel_rfl,by kernel_rfl,by decide⟩
theorem e86 : mq Try.prog 86 c86:=⟨Try.f86,_,⟨[3,32],[],[],[33,89]⟩,[⟨[0,1],[],[]⟩,⟨[4],[],[]⟩],[],by kernel_rfl,by kernel_rfl,rfl,eqs,by kernel_rfl,by kernel_rfl,by decide⟩
theorem e87 : mq Try.prog 87 c87:=⟨Try.f87,_,⟨[3,32],[],[],[33,89]⟩,[⟨[0,1,2],[],[]⟩,⟨[6],[],[]⟩],[],by kernel_rfl,by kernel_rfl,rfl,eqs,by kernel_rfl,by kernel_rfl,by decide⟩
theorem e89 : mq Try.prog 89 c89:=⟨Try.f89,_,⟨[3,32],[41],[38],[33,89]⟩,[⟨[0,1],[],[]⟩,⟨[0,1,5],[],[]⟩,⟨[0,1,5,12],[],[]⟩,⟨[4],[],[]⟩,⟨[0,1,5,6],[],[]⟩,⟨[0,1,5,6],[20202],[]⟩,⟨[0,1,5,6,19],[],[]⟩,⟨[0,1,5,6,7],[],[]⟩,⟨[0,1,5,6,7,29],[],[]⟩,⟨[0,1,5,6],[],[]⟩,⟨[0,1,5,6],[],[]⟩,⟨[0,1,5,6],[],[]⟩,⟨[0,5],[],[]⟩,⟨[4],[],[]⟩],[],by kernel_rfl,by kernel_rfl,rfl,eqs,by kernel_rfl,by kernel_rfl,by decide⟩
theorem e90 : mq Try.prog 90 c90:=⟨Try.f90,_,⟨[3,32],[],[],[33,89]⟩,[⟨[1,2],[],[]⟩,⟨[3],[],[]⟩],[],by kernel_rfl,by kernel_rfl,rfl,eqs,by kernel_rfl,by kernel_rfl,by decide⟩
theorem e93 : mq Try.prog 93 c93:=⟨Try.f93,_,⟨[3,32],[],[],[33,89]⟩,[⟨[0,1],[],[]⟩,⟨[4],[],[]⟩],[],by kernel_rfl,by kernel_rfl,rfl,eqs,by kernel_rfl,by kernel_rfl,by decide⟩
theorem e96 : mq Try.prog 96 c96:=⟨Try.f96,_,⟨[3,32],[],[],[33,89]⟩,[⟨[0,1],[],[]⟩,⟨[4],[],[]⟩],[],by kernel_rfl,by kernel_rfl,rfl,eqs,by kernel_rfl,by kernel_rfl,by decide⟩
theorem adX : mq Try.prog 107 c107:=⟨Try.f107,_,⟨[3,32],[],[],[33,89]⟩,[⟨[0,1],[],[]⟩,⟨[4],[],[]⟩],[],by kernel_rfl,by kernel_rfl,rfl,eqs,by kernel_rfl,by kernel_rfl,by decide⟩
theorem e108 : mq Try.prog 108 NQ:=⟨Try.f108,_,⟨[3,32],[],[],[33,89]⟩,[⟨[0,1],[],[]⟩,⟨[0,1,7,8],[],[]⟩,⟨[0,1,7,8],[20202],[]⟩,⟨[0,1,7,8,9],[],[]⟩,⟨[0,1,5,7,8],[],[]⟩,⟨[0,1,5,7,8,16],[],[]⟩,⟨[4],[],[]⟩,⟨[0,1,7,8],[],[]⟩,⟨[4],[],[]⟩],[],by kernel_rfl,by kernel_rfl,rfl,eqs,by kernel_rfl,by kernel_rfl,by decide⟩
theorem adY : mq Try.prog 114 NR:=⟨Try.f114,_,⟨[3,32],[],[],[33,89]⟩,[⟨[0,1],[],[]⟩,⟨[0,1,7,8],[],[]⟩,⟨[0,1,7,8],[20202],[]⟩,⟨[0,1,7,8,9],[],[]⟩,⟨[0,1,5,7,8],[],[]⟩,⟨[0,1,5,7,8,16],[],[]⟩,⟨[4],[],[]⟩,⟨[0,1,7,8],[],[]⟩,⟨[4],[],[]⟩],[],by kernel_rfl,by kernel_rfl,rfl,eqs,by kernel_rfl,by kernel_rfl,by decide⟩
theorem ents : ∀ p ∈ xD,mq Try.prog p.1 p.2:=List.forall_mem_cons.2 ⟨e3,List.forall_mem_cons.2 ⟨e4,List.forall_mem_cons.2 ⟨e5,List.forall_mem_cons.2 ⟨e6,List.forall_mem_cons.2 ⟨e7,List.forall_mem_cons.2 ⟨e8,List.forall_mem_cons.2 ⟨e14,List.forall_mem_cons.2 ⟨e15,List.forall_mem_cons.2 ⟨e16,List.forall_mem_cons.2 ⟨e17,List.forall_mem_cons.2 ⟨e20,List.forall_mem_cons.2 ⟨e21,List.forall_mem_cons.2 ⟨e22,List.forall_mem_cons.2 ⟨e25,List.forall_mem_cons.2 ⟨e27,List.forall_mem_cons.2 ⟨e29,List.forall_mem_cons.2 ⟨e31,List.forall_mem_cons.2 ⟨e32,List.forall_mem_cons.2 ⟨e33,List.forall_mem_cons.2 ⟨e34,List.forall_mem_cons.2 ⟨e35,List.forall_mem_cons.2 ⟨e62,List.forall_mem_cons.2 ⟨e64,List.forall_mem_cons.2 ⟨e65,List.forall_mem_cons.2 ⟨e66,List.forall_mem_cons.2 ⟨e67,List.forall_mem_cons.2 ⟨e68,List.forall_mem_cons.2 ⟨e69,List.forall_mem_cons.2 ⟨e71,List.forall_mem_cons.2 ⟨e73,List.forall_mem_cons.2 ⟨e86,List.forall_mem_cons.2 ⟨e87,List.forall_mem_cons.2 ⟨e89,List.forall_mem_cons.2 ⟨e90,List.forall_mem_cons.2 ⟨e93,List.forall_mem_cons.2 ⟨e96,List.forall_mem_cons.2 ⟨adX,List.forall_mem_cons.2 ⟨e108,List.forall_mem_cons.2 ⟨adY,fun _ h=>nomatch h⟩⟩⟩⟩⟩⟩⟩⟩⟩⟩⟩⟩⟩⟩⟩⟩⟩⟩⟩⟩⟩⟩⟩⟩⟩⟩⟩⟩⟩⟩⟩⟩⟩⟩⟩⟩⟩⟩⟩
end Go.Proofs.Ytdkkgecdhapfhaa.Ka
set_option maxRecDepth 100000
namespace Go.Proofs.Ytdkkgecdhapfhaa.Ka
open Go Go.Proofs Ev
theorem OA {ext:Env} (h1:iQ Try.prog ext) (h2:eP Try.prog ext) (F n:Nat):Sat Try.prog 19 (vB ext F n):=by
  obtain ⟨g1,g2⟩:=KD (xD:=xD) (F:=F) mixed ents h1 h2 n
  have hf:Try.prog.funcs[19]? = some Try.f19:=by kernel_rfl
  have hg:Try.prog.funcs[63]? = some Try.f63:=by kernel_rfl
  have hD:=Ue (X:=⟨[3,32],[],[],[33,89]⟩) (c1:=8) (c2:=4) (h1:=[⟨[0,1,3],[],[]⟩,⟨[0],[],[]⟩]) (h2:=[]) (cc:=Yk.body) mixed eqs g1 g2 hg rfl (by kernel_rfl) rfl (by decide) F
  exact E8 (X:=⟨[3,32],[],[],[33,89]⟩) (ha:=[⟨[1,3,4,6,8],[],[]⟩,⟨[1,4,6,8,9],[],[]⟩]) (hb':=[⟨[4,6,8,9],[],[]⟩,⟨[4,6,8,9,27],[],[]⟩,⟨[4,8],[],[]⟩,⟨[4,6,8],[],[]⟩,⟨[4,8,10,11],[],[]⟩,⟨[4,8,10,52,53,54],[],[]⟩,⟨[4,8,10,52,53,54],[20201,20205,20208,100000,180000,530002,530004,530006,530008,530010,530012,530014,530016,530202,530204,530206,530208,530210,530212,530214,530216,530402,530404,530406,530408,530410,530412,530414,530416,530602,530604,530606,530608,530610,530612,530614,530616,530802,530804,530806,530808,530810,530812,530814,530816,531002,531004,531006,531008,531010,531012,531014,531016,1000200,1002200],[]⟩,⟨[4,8,10,52,53,54,55],[],[]⟩,⟨[4,8,10,13,52,53,54],[],[]⟩,⟨[4,8,10,52,53,54],[],[]⟩,⟨[4,8,10,52,53,54],[],[]⟩,⟨[4,8],[],[]⟩,⟨[4,8],[],[]⟩]) (ra:=[]) (rb:=[]) (ca:=pA) (cb:=pB) (cf:=La) mixed eqs g1 g2 hf rfl hg (by kernel_rfl) (by kernel_rfl) (by kernel_rfl) (by kernel_rfl) (by kernel_rfl) (by decide) (by decide) (by decide) (by decide) hD F
end Go.Proofs.Ytdkkgecdhapfhaa.Ka

/- A part of the proof of NegScripts: cut, joined and given short names by a program of this session (wip/tools/pack.py); Lean checks it. No condition. -/
import Derived.Test.YtdkkgecdhapfhaaPNStsg
import Derived.Test.YtdkkgecdhapfhaaPNStsf
import Derived.Below
import Derived.Defers
import Derived.Maps.RangeRun
import Derived.Test.YtdkkgecdhapfhaaPNStsd
import Derived.Laws.StructEq
set_option linter.unusedSectionVars false
set_option linter.unusedSimpArgs false
set_option linter.unusedVariables false
namespace Go.Proofs.Ytdkkgecdhapfhaa.Kn
open Go Ev
variable {ext : Env} {F n:Nat}
structure Qn where
 q:ByteArray
 t:Int
 c:Int
 deriving DecidableEq
structure It where
 q:ByteArray
 t:Int
 c:Int
 d:List ByteArray
 ttl:Int
 u:Int
 r:Int
 deriving DecidableEq
structure Op where
 o:Int
 now:Int
 q:ByteArray
 t:Int
 c:Int
 d:List ByteArray
 ttl:Int
 r:Int
def rQ (x:Qn):List FV:=[.str x.q,.int .i64 x.t,.int .i64 x.c]
def EL (k:Nat) (l:List ByteArray):Bool:=l.all fun x=>decide (x.size ≤ 2000) && decide (k ≤ 60)
theorem J7 {k:Nat} {l:List ByteArray} {x:ByteArray} {i:Nat} (h:l[i]? = some x):EL k (l.take (i + 1)) = (EL k (l.take i) && (decide (x.size ≤ 2000) && decide (k ≤ 60))):=by
 unfold EL
 rw [List.take_add_one,h,List.all_append]
 simp
theorem II {k:Nat} {l:List ByteArray} {x:ByteArray} {i:Nat} (h:l[i]? = some x) (hx:¬ (x.size ≤ 2000 ∧ k ≤ 60)):EL k l = false:=by
 unfold EL
 refine Bool.eq_false_iff.mpr fun ha=>hx ?_
 have:=List.all_eq_true.mp ha x (List.mem_of_getElem? h)
 simpa using this
def oz (q:ByteArray) (d:List ByteArray):Bool:=EL d.length d && decide (q.size ≤ 300)
theorem MQ (q:ByteArray) (t c:Int) (d:List ByteArray) (ttl:Int) (hl:d.length ≤ 200000000000000) (hF:200000000000001 ≤ F):G ext F (n + 1) 35 [tV q t c d ttl] = some ([vb (oz q d)],[tV q t c d ttl]):=by
 refine eH (cf:=c35) rfl ?_
 simp only [c35,go_sem,Nat.reduceAdd,Nat.reduceMul,Nat.reduceEqDiff,Nat.reduceBEq,Nat.reduceMod,Nat.reduceDiv,↓reduceIte,reduceCtorEq]
 refine IC d.length (fun i=>⟨[(1,PV.c (CV.one (PL.ptr 40000 0))),(3,PV.c (CV.one (PL.f (FV.int .i64 i))))],[(40000,.lC [.f (.str q),.f (.int .i64 t),.f (.int .i64 c),.f (.sl (d.map fO)),.f (.int .i64 ttl)])]⟩) (fun i=>EL d.length (d.take i) = true) (by omega) rfl (fun i hi hP=>?_) (fun hP=>?_)
 ·obtain ⟨x,hx,hd,ht,h0⟩:=at_ hi
  have hn:=nx hi (Nat.le_trans hl (by decide))
  simp only [List.length_map,List.getElem?_map,hd,hx,ht,h0,fO,go_sem,Nat.reduceAdd,Nat.reduceMul,Nat.reduceEqDiff,Nat.reduceBEq,Nat.reduceMod,Nat.reduceDiv,↓reduceIte,reduceCtorEq]
  repeat' (refine bO (fun h=>?_) (fun h=>?_) <;> simp only [h,List.length_map,List.getElem?_map,hd,hx,ht,h0,hn,fO,go_sem,Nat.reduceAdd,Nat.reduceMul,Nat.reduceEqDiff,Nat.reduceBEq,Nat.reduceMod,Nat.reduceDiv,↓reduceIte,reduceCtorEq])
  all_goals simp only [decide_eq_true_eq,decide_eq_false_iff_not] at *
  ·simp [oz,II hx (k:=d.length) (by omega)]
  ·simp [oz,II hx (k:=d.length) (by omega)]
  ·rw [J7 hx,hP];simp;omega
 ·have hd:=@end_ _ d
  rw [List.take_length] at hP
  simp only [List.length_map,hd,go_sem,Nat.reduceAdd,Nat.reduceMul,Nat.reduceEqDiff,Nat.reduceBEq,Nat.reduceMod,Nat.reduceDiv,↓reduceIte,reduceCtorEq]
  repeat' (refine bO (fun h=>?_) (fun h=>?_) <;> simp only [h,List.length_map,hd,go_sem,Nat.reduceAdd,Nat.reduceMul,Nat.reduceEqDiff,Nat.reduceBEq,Nat.reduceMod,Nat.reduceDiv,↓reduceIte,reduceCtorEq])
  simp [oz,hP]
  try omega
def MR (a:ByteArray) (t c:Int) (d:List ByteArray) (ttl:Int) (a':ByteArray) (t' c':Int) (d':List ByteArray) (J8:Int):Bool:=decide (a = a' ∧ t = t' ∧ c = c' ∧ ttl = J8 ∧ d = d')
theorem Qu (a:ByteArray) (t c:Int) (d:List ByteArray) (ttl:Int) (a':ByteArray) (t' c':Int) (d':List ByteArray) (J8:Int) (hl:d.length ≤ 1000000000000) (hF:200000000000001 ≤ F):G ext F (n + 2) 32 [tV a t c d ttl,tV a' t' c' d' J8] = some ([vb (MR a t c d ttl a' t' c' d' J8)],[tV a t c d ttl,tV a' t' c' d' J8]):=by
 refine eH (cf:=c32) rfl ?_
 have ht:=fun n=>MP (ext:=ext) (F:=F) (n:=n) d d' hl hF
 simp only [c32,ht,go_sem,Nat.reduceAdd,Nat.reduceMul,Nat.reduceEqDiff,Nat.reduceBEq,Nat.reduceMod,Nat.reduceDiv,↓reduceIte,reduceCtorEq]
 repeat' (refine bO (fun h=>?_) (fun h=>?_) <;> simp only [h,ht,go_sem,Nat.reduceAdd,Nat.reduceMul,Nat.reduceEqDiff,Nat.reduceBEq,Nat.reduceMod,Nat.reduceDiv,↓reduceIte,reduceCtorEq])
 all_goals (simp [MR] at *)
 all_goals (try simp_all)
end Go.Proofs.Ytdkkgecdhapfhaa.Kn
namespace Go.Proofs.Ytdkkgecdhapfhaa.Kn
open Go Ev
variable {ext : Env} {F n:Nat}
theorem lU {body:St → Option (Out × St)} {rs:St → St} {k:Out × St → Prop} {u:Tok k} {F:Nat} {σ:St} (N:Nat) (T:Nat → St) (P:Nat → Prop) (hF:N < F) (hs:rs σ = T 0) (h0:P 0)
  (step:∀ i,i < N → P i → W (fun p=>match p.1 with
   | .jk=>rs p.2 = T (i + 1) ∧ P (i + 1)
   | o=>k (o,p.2)) ⟨⟩ (body (T i)))
  (last:P N → W (fun p=>match p.1 with
   | .jk=>False
   | o=>k (o,p.2)) ⟨⟩ (body (T N))):W k u (iter body rs F σ):=by
 refine CJ (fun m σ=>∃ i,i ≤ N ∧ m = N - i ∧ rs σ = T i ∧ P i) ?_ F N σ hF ⟨0,Nat.zero_le _,rfl,hs,h0⟩
 rintro m σ ⟨i,hi,rfl,hr,hP⟩
 rw [hr]
 by_cases hlt:i < N
 ·refine vK (step i hlt hP) fun p hp=>?_
  obtain ⟨o,s⟩:=p
  cases o with
  | jk=>exact ⟨N - (i + 1),by omega,i + 1,by omega,rfl,hp.1,hp.2⟩
  | ext j=>exact hp
  | ret=>exact hp
 ·have:i = N:=by omega
  subst this
  refine vK (last hP) fun p hp=>?_
  obtain ⟨o,s⟩:=p
  cases o with
  | jk=>exact hp.elim
  | ext j=>exact hp
  | ret=>exact hp
def nr2 (s:Nat) (l:List (Nat × Nat)) (σ:St):Option St → St
 | some t=>jk ⟨put t.tm s (.c (.one (.own (dG s) 0))),t.ob⟩ l
 | none=>jk σ l
def nr1 (σ:St) (s sz:Nat) (l:List (Nat × Nat)):Option PV → St
 | some (.c (.one .fF))=>if sz = 0 then jk σ l else nr2 s l σ (new σ (dG s) (.row sz []))
 | _=>jk σ l
@[go_sem] theorem aae {σ:St} {s sz:Nat} {l:List (Nat × Nat)}:jk σ ((s,sz) :: l) = nr1 σ s sz l (get σ.tm s):=by
 unfold nr1 nr2
 rw [jk]
 split <;> first | rfl | (split <;> first | rfl | (split <;> simp_all))
@[go_sem] theorem ac8 {σ:St} {s sz key n:Nat} {l:List (Nat × Nat)}:nr1 σ s sz l (some (.c (.one (.own key n)))) = jk σ l:=rfl
@[go_sem] theorem ahb {σ:St} {s sz:Nat} {l:List (Nat × Nat)} {x:FV}:nr1 σ s sz l (some (.c (.one (.f x)))) = jk σ l:=rfl
@[go_sem] theorem ac9 {σ:St} {s sz:Nat} {l:List (Nat × Nat)}:nr1 σ s sz l (some (.c (.one .fF))) = if sz = 0 then jk σ l else nr2 s l σ (new σ (dG s) (.row sz [])):=rfl
@[go_sem] theorem aaf {σ τ:St} {s:Nat} {l:List (Nat × Nat)}:nr2 s l σ (some τ) = jk ⟨put τ.tm s (.c (.one (.own (dG s) 0))),τ.ob⟩ l:=rfl
abbrev It.k (x:It):Qn:=⟨x.q,x.t,x.c⟩
theorem all_succ {α:Type} {P:α → Prop} {l:List α} {i:Nat} {x:α} (h:∀ y ∈ l.take i,P y) (hx:l[i]? = some x) (hp:P x):∀ y ∈ l.take (i + 1),P y:=by
 intro y hy
 rw [List.take_add_one,hx] at hy
 rcases List.mem_append.mp hy with hy | hy
 ·exact h y hy
 ·simp at hy;subst hy;exact hp
theorem EM (l m:List Qn) (hl:l.length ≤ 1000000000000) (hF:200000000000001 ≤ F):G ext F (n + 1) 28 [vl (l.map rQ),vl (m.map rQ)] = some ([vb (decide (l = m))],[vl (l.map rQ),vl (m.map rQ)]):=by
 refine eH (cf:=c28) rfl ?_
 simp only [c28,List.length_map,go_sem,Nat.reduceAdd,Nat.reduceMul,Nat.reduceEqDiff,Nat.reduceBEq,Nat.reduceMod,Nat.reduceDiv,↓reduceIte,reduceCtorEq]
 repeat' (refine bO (fun h=>?_) (fun h=>?_) <;> simp only [h,List.length_map,go_sem,Nat.reduceAdd,Nat.reduceMul,Nat.reduceEqDiff,Nat.reduceBEq,Nat.reduceMod,Nat.reduceDiv,↓reduceIte,reduceCtorEq])
 ·have hlen:l.length = m.length:=by simp at h;omega
  refine lU l.length (fun i=>⟨[(0,PV.c (CV.one (PL.f (FV.sl (l.map rQ))))),(1,PV.c (CV.one (PL.f (FV.sl (m.map rQ))))),(5,PV.c (CV.one (PL.f (FV.int .i64 i))))],[]⟩) (fun i=>l.take i = m.take i) (by omega) rfl rfl (fun i hi hP=>?_) (fun hP=>?_)
  ·obtain ⟨x,hx,hd,ht,h0⟩:=at_ hi
   obtain ⟨y,hy,_⟩:=at_ (l:=m) (i:=i) (by omega)
   have hn:=nx hi (Nat.le_trans hl (by decide))
   simp only [List.length_map,List.getElem?_map,hd,hx,hy,ht,h0,rQ,go_sem,Nat.reduceAdd,Nat.reduceMul,Nat.reduceEqDiff,Nat.reduceBEq,Nat.reduceMod,Nat.reduceDiv,↓reduceIte,reduceCtorEq]
   repeat' (refine bO (fun h=>?_) (fun h=>?_) <;> simp only [h,List.length_map,List.getElem?_map,hd,hx,hy,ht,h0,hn,rQ,go_sem,Nat.reduceAdd,Nat.reduceMul,Nat.reduceEqDiff,Nat.reduceBEq,Nat.reduceMod,Nat.reduceDiv,↓reduceIte,reduceCtorEq])
   ·rw [List.take_add_one,List.take_add_one,hP,hx,hy]
    have:x = y:=by cases x;cases y;simpa using h
    rw [this]
   ·have:l ≠ m:=by rintro rfl;rw [hx] at hy;cases hy;simp at h
    simp [this]
  ·have hd:=@end_ _ l
   simp only [List.length_map,hd,go_sem,Nat.reduceAdd,Nat.reduceMul,Nat.reduceEqDiff,Nat.reduceBEq,Nat.reduceMod,Nat.reduceDiv,↓reduceIte,reduceCtorEq]
   repeat' (refine bO (fun h=>?_) (fun h=>?_) <;> simp only [h,List.length_map,hd,go_sem,Nat.reduceAdd,Nat.reduceMul,Nat.reduceEqDiff,Nat.reduceBEq,Nat.reduceMod,Nat.reduceDiv,↓reduceIte,reduceCtorEq])
   have:l = m:=by rw [← List.take_length (l:=l),hP,hlen,List.take_length]
   simp [this]
 ·have:l ≠ m:=by rintro rfl;simp at h
  simp [this]
structure Se where
 q:ByteArray
 t:Int
 c:Int
 d:List ByteArray
 ttl:Int
 deriving DecidableEq
abbrev Se.k (x:Se):Qn:=⟨x.q,x.t,x.c⟩
abbrev Se.v (x:Se):AV:=tV x.q x.t x.c x.d x.ttl
def rS (x:Se):List FV:=[.str x.q,.int .i64 x.t,.int .i64 x.c,.sl (x.d.map fO),.int .i64 x.ttl]
end Go.Proofs.Ytdkkgecdhapfhaa.Kn
namespace Go.Proofs.Ytdkkgecdhapfhaa.Kn
open Go Ev
variable {ext : Env} {F n:Nat}
structure Th where
 jG:ByteArray → Bool
 low:ByteArray → ByteArray
 wQ:Int → ByteArray → Bool
 lw:Int → ByteArray → ByteArray
structure Th.Ok (θ:Th) (ext:Env):Prop where
 nc:∀ q,q.size ≤ 1000000 → ext 91 [vs q] = some ([vb (θ.jG q)],[vs q])
 nl:∀ q,q.size ≤ 1000000 → ext 92 [vs q] = some ([vs (θ.low q)],[vs q])
 rc:∀ q,q.size ≤ 1000000 → ext 100 [vs q] = some ([vb (θ.jG q)],[vs q])
 rl:∀ q,q.size ≤ 1000000 → ext 101 [vs q] = some ([vs (θ.low q)],[vs q])
 dc:∀ k q,q.size ≤ 1000000 → ext 94 [vi k,vs q] = some ([vb (θ.wQ k q)],[vi k,vs q])
 dl:∀ k q,q.size ≤ 1000000 → ext 95 [vi k,vs q] = some ([vs (θ.lw k q)],[vi k,vs q])
 ec:∀ k q,q.size ≤ 1000000 → ext 83 [vi k,vs q] = some ([vb (θ.wQ k q)],[vi k,vs q])
 el:∀ k q,q.size ≤ 1000000 → ext 84 [vi k,vs q] = some ([vs (θ.lw k q)],[vi k,vs q])
variable {θ : Th}
theorem TQ (T:θ.Ok ext) (q:ByteArray) (h:q.size ≤ 1000000):G ext F (n + 1) 91 [vs q] = some ([vb (θ.jG q)],[vs q]):=(congrFun (jU rfl) _).trans (T.nc q h)
theorem TR (T:θ.Ok ext) (q:ByteArray) (h:q.size ≤ 1000000):G ext F (n + 1) 92 [vs q] = some ([vs (θ.low q)],[vs q]):=(congrFun (jU rfl) _).trans (T.nl q h)
theorem aag (T:θ.Ok ext) (q:ByteArray) (h:q.size ≤ 1000000):G ext F (n + 1) 100 [vs q] = some ([vb (θ.jG q)],[vs q]):=(congrFun (jU rfl) _).trans (T.rc q h)
theorem aah (T:θ.Ok ext) (q:ByteArray) (h:q.size ≤ 1000000):G ext F (n + 1) 101 [vs q] = some ([vs (θ.low q)],[vs q]):=(congrFun (jU rfl) _).trans (T.rl q h)
theorem aai (T:θ.Ok ext) (k:Int) (q:ByteArray) (h:q.size ≤ 1000000):G ext F (n + 1) 94 [vi k,vs q] = some ([vb (θ.wQ k q)],[vi k,vs q]):=(congrFun (jU rfl) _).trans (T.dc k q h)
theorem aaj (T:θ.Ok ext) (k:Int) (q:ByteArray) (h:q.size ≤ 1000000):G ext F (n + 1) 95 [vi k,vs q] = some ([vs (θ.lw k q)],[vi k,vs q]):=(congrFun (jU rfl) _).trans (T.dl k q h)
theorem aak (T:θ.Ok ext) (k:Int) (q:ByteArray) (h:q.size ≤ 1000000):G ext F (n + 1) 83 [vi k,vs q] = some ([vb (θ.wQ k q)],[vi k,vs q]):=(congrFun (jU rfl) _).trans (T.ec k q h)
theorem aal (T:θ.Ok ext) (k:Int) (q:ByteArray) (h:q.size ≤ 1000000):G ext F (n + 1) 84 [vi k,vs q] = some ([vs (θ.lw k q)],[vi k,vs q]):=(congrFun (jU rfl) _).trans (T.el k q h)
def Th.key (θ:Th) (q:ByteArray) (t c:Int):Bool:=decide (θ.jG q = true ∧ θ.low q = q ∧ (0 ≤ t ∧ t ≤ 65535) ∧ (0 ≤ c ∧ c ≤ 65535))
def Th.dat (θ:Th) (t:Int) (d:List ByteArray):Bool:=decide ((∀ x ∈ d,θ.wQ t x = true ∧ θ.lw t x = x) ∧ d.Nodup)
def Th.set (θ:Th) (q:ByteArray) (t c:Int) (d:List ByteArray) (ttl:Int):Bool:=decide (θ.key q t c = true ∧ θ.dat t d = true ∧ (0 ≤ ttl ∧ ttl < 2147483648) ∧ d ≠ [])
theorem IJ {l:List ByteArray} {s:ByteArray}:EI l s = true ↔ s ∈ l:=by
 unfold EI
 rw [List.any_eq_true]
 simp
theorem TS {l:List ByteArray}:((l.map fO).all fun r=>r.length == 1) = true:=by
 rw [List.all_eq_true]
 intro r hr
 obtain ⟨x, -,rfl⟩:=List.mem_map.mp hr
 rfl
theorem EN {t:Int} {d:List ByteArray} {i:Nat} {x:ByteArray} (hx:d[i]? = some x) (h:θ.dat t (d.take i) = true) (hc:θ.wQ t x = true) (hw:θ.lw t x = x) (hi:EI (d.take i) x = false):θ.dat t (d.take (i + 1)) = true:=by
 unfold Th.dat at *
 have hi:¬ x ∈ d.take i:=fun h=>by rw [IJ.mpr h] at hi;cases hi
 rw [decide_eq_true_eq] at *
 refine ⟨all_succ h.1 hx ⟨hc,hw⟩,?_⟩
 rw [List.take_add_one,hx,Option.toList_some]
 refine List.nodup_append.mpr ⟨h.2,List.pairwise_singleton _ _,fun a ha b hb=>?_⟩
 rw [List.mem_singleton] at hb;subst hb;rintro rfl;exact hi ha
theorem vM {t:Int} {d:List ByteArray} {i:Nat} {x:ByteArray} (hx:d[i]? = some x) (h:θ.wQ t x = false ∨ θ.lw t x ≠ x ∨ EI (d.take i) x = true):θ.dat t d = false:=by
 unfold Th.dat
 rw [decide_eq_false_iff_not]
 rintro ⟨h1,h2⟩
 have hm:=h1 x (List.mem_of_getElem? hx)
 rcases h with h | h | h
 ·rw [h] at hm;simp at hm
 ·exact h hm.2
 ·rw [IJ,List.mem_take_iff_getElem] at h
  obtain ⟨j,hj,he⟩:=h
  have h3:=List.getElem?_eq_some_iff.mp hx
  exact List.pairwise_iff_getElem.mp h2 j i (by omega) h3.1 (by omega) (by rw [he,h3.2])
theorem EO (T:θ.Ok ext) (q:ByteArray) (t c:Int) (hq:q.size ≤ 1000000):G ext F (n + 2) 76 [vq q t c] = some ([vb (θ.key q t c)],[vq q t c]):=by
 refine eH (cf:=c76) rfl ?_
 have h1:=fun n=>aag (F:=F) (n:=n) T q hq
 have h2:=fun n=>aah (F:=F) (n:=n) T q hq
 simp only [c76,h1,h2,EG,go_sem,Nat.reduceAdd,Nat.reduceMul,Nat.reduceEqDiff,Nat.reduceBEq,Nat.reduceMod,Nat.reduceDiv,↓reduceIte,reduceCtorEq]
 repeat' (refine bO (fun h=>?_) (fun h=>?_) <;> simp only [h,h1,h2,EG,go_sem,Nat.reduceAdd,Nat.reduceMul,Nat.reduceEqDiff,Nat.reduceBEq,Nat.reduceMod,Nat.reduceDiv,↓reduceIte,reduceCtorEq])
 all_goals (simp [Th.key];try simp_all)
 all_goals (try omega)
theorem J9 (T:θ.Ok ext) (q:ByteArray) (t c:Int) (d:List ByteArray) (ttl:Int) (hl:d.length ≤ 1000000000000) (hF:200000000000001 ≤ F) (hq:q.size ≤ 1000000) (hd:∀ x ∈ d,x.size ≤ 1000000):G ext F (n + 3) 56 [tV q t c d ttl] = some ([vb (θ.set q t c d ttl)],[tV q t c d ttl]):=by
 refine eH (cf:=c56) rfl ?_
 simp only [c56,go_sem,Nat.reduceAdd,Nat.reduceMul,Nat.reduceEqDiff,Nat.reduceBEq,Nat.reduceMod,Nat.reduceDiv,↓reduceIte,reduceCtorEq]
 refine lU d.length (fun i=>⟨[(1,PV.c (CV.one (PL.ptr 40000 0))),(3,PV.c (CV.one (PL.f (FV.int .i64 i))))],[(40000,.lC [.f (.str q),.f (.int .i64 t),.f (.int .i64 c),.f (.sl (d.map fO)),.f (.int .i64 ttl)])]⟩) (fun i=>θ.dat t (d.take i) = true) (by omega) rfl (by simp [Th.dat]) (fun i hi hP=>?_) (fun hP=>?_)
 ·obtain ⟨x,hx,hlt,ht,h0⟩:=at_ hi
  have hn:=nx hi (Nat.le_trans hl (by decide))
  have h1:=fun n=>aak (F:=F) (n:=n) T t x (hd x (List.mem_of_getElem? hx))
  have h2:=fun n=>aal (F:=F) (n:=n) T t x (hd x (List.mem_of_getElem? hx))
  have h3:=fun n=>aad (ext:=ext) (F:=F) (n:=n) (d.take i) x (by simp;omega) hF
  have hle:(i:Int) ≤ (d.length:Int):=by omega
  have hrw:=@TS d
  have hcut:(0:Int) ≤ i ∧ (i:Int) ≤ d.length:=by omega
  simp only [List.length_map,List.getElem?_map,hlt,hx,ht,h0,fO,h1,h2,h3,go_sem,Nat.reduceAdd,Nat.reduceMul,Nat.reduceEqDiff,Nat.reduceBEq,Nat.reduceMod,Nat.reduceDiv,↓reduceIte,reduceCtorEq]
  repeat' (refine bO (fun h=>?_) (fun h=>?_) <;> simp only [h,List.length_map,List.getElem?_map,hlt,hx,ht,h0,hn,fO,h1,h2,h3,hle,hrw,← List.map_take,List.drop_zero,Nat.sub_zero,hcut,go_sem,Nat.reduceAdd,Nat.reduceMul,Nat.reduceEqDiff,Nat.reduceBEq,Nat.reduceMod,Nat.reduceDiv,↓reduceIte,reduceCtorEq])
  ·simp [Th.set,vM hx (.inr (.inr h))]
  ·exact EN hx hP (by assumption) (of_decide_eq_true (by assumption)) h
  ·simp [Th.set,vM hx (.inr (.inl (of_decide_eq_false h)))]
  ·simp [Th.set,vM hx (.inl h)]
 ·have hd:=@end_ _ d
  rw [List.take_length] at hP
  have h1:=fun n=>EO (F:=F) (n:=n) T q t c hq
  simp only [List.length_map,hd,h1,go_sem,Nat.reduceAdd,Nat.reduceMul,Nat.reduceEqDiff,Nat.reduceBEq,Nat.reduceMod,Nat.reduceDiv,↓reduceIte,reduceCtorEq]
  repeat' (refine bO (fun h=>?_) (fun h=>?_) <;> simp only [h,List.length_map,hd,h1,go_sem,Nat.reduceAdd,Nat.reduceMul,Nat.reduceEqDiff,Nat.reduceBEq,Nat.reduceMod,Nat.reduceDiv,↓reduceIte,reduceCtorEq])
  all_goals (simp [Th.set,hP];try simp_all)
  all_goals (try omega)
  all_goals (cases d <;> simp)
theorem Ka (T:θ.Ok ext) (q:ByteArray) (t c:Int) (d:List ByteArray) (ttl:Int) (hl:d.length ≤ 1000000000000) (hF:200000000000001 ≤ F) (hq:q.size ≤ 1000000) (hd:∀ x ∈ d,x.size ≤ 1000000):G ext F (n + 3) 73 [tV q t c d ttl] = some ([vb (θ.set q t c d ttl)],[tV q t c d ttl]):=by
 refine eH (cf:=c73) rfl ?_
 have h1:=fun n=>TQ (F:=F) (n:=n) T q hq
 have h2:=fun n=>TR (F:=F) (n:=n) T q hq
 simp only [c73,h1,h2,TP,go_sem,Nat.reduceAdd,Nat.reduceMul,Nat.reduceEqDiff,Nat.reduceBEq,Nat.reduceMod,Nat.reduceDiv,↓reduceIte,reduceCtorEq]
 repeat' (refine bO (fun h=>?_) (fun h=>?_) <;> simp only [h,h1,h2,TP,go_sem,Nat.reduceAdd,Nat.reduceMul,Nat.reduceEqDiff,Nat.reduceBEq,Nat.reduceMod,Nat.reduceDiv,↓reduceIte,reduceCtorEq])
 ·refine lU d.length (fun i=>⟨[(1,PV.c (CV.one (PL.ptr 40000 0))),(3,PV.c (CV.one (PL.ptr 80000 0))),(39,PV.c (CV.one (PL.f (FV.sl (List.map fO d))))),(40,PV.c (CV.one (PL.f (FV.int IntKind.i64 (List.map fO d).length)))),(41,PV.c (CV.one (PL.f (FV.int .i64 i))))],[(40000,.lC [.f (.str q),.f (.int .i64 t),.f (.int .i64 c),.f (.sl (d.map fO)),.f (.int .i64 ttl)]),(80000,Ob.lC [PL.f (FV.str q),PL.f (FV.int IntKind.i64 t),PL.f (FV.int IntKind.i64 c)])]⟩) (fun i=>θ.dat t (d.take i) = true) (by omega) rfl (by simp [Th.dat]) (fun i hi hP=>?_) (fun hP=>?_)
  ·obtain ⟨x,hx,hlt,ht,h0⟩:=at_ hi
   have hn:=nx hi (Nat.le_trans hl (by decide))
   have h1:=fun n=>aai (F:=F) (n:=n) T t x (hd x (List.mem_of_getElem? hx))
   have h2:=fun n=>aaj (F:=F) (n:=n) T t x (hd x (List.mem_of_getElem? hx))
   have h3:=fun n=>EK (ext:=ext) (F:=F) (n:=n) (d.take i) x (by simp;omega) hF
   have hle:(i:Int) ≤ (d.length:Int):=by omega
   have hrw:=@TS d
   have hcut:(0:Int) ≤ i ∧ (i:Int) ≤ d.length:=by omega
   simp only [List.length_map,List.getElem?_map,hlt,hx,ht,h0,fO,h1,h2,h3,go_sem,Nat.reduceAdd,Nat.reduceMul,Nat.reduceEqDiff,Nat.reduceBEq,Nat.reduceMod,Nat.reduceDiv,↓reduceIte,reduceCtorEq]
   repeat' (refine bO (fun h=>?_) (fun h=>?_) <;> simp only [h,List.length_map,List.getElem?_map,hlt,hx,ht,h0,hn,fO,h1,h2,h3,hle,hrw,← List.map_take,List.drop_zero,Nat.sub_zero,hcut,go_sem,Nat.reduceAdd,Nat.reduceMul,Nat.reduceEqDiff,Nat.reduceBEq,Nat.reduceMod,Nat.reduceDiv,↓reduceIte,reduceCtorEq])
   ·simp [Th.set,vM hx (.inr (.inr h))]
   ·exact EN hx hP (by assumption) (of_decide_eq_true (by assumption)) h
   ·simp [Th.set,vM hx (.inr (.inl (of_decide_eq_false h)))]
   ·simp [Th.set,vM hx (.inl h)]
  ·have hd:=@end_ _ d
   rw [List.take_length] at hP
   simp only [List.length_map,hd,go_sem,Nat.reduceAdd,Nat.reduceMul,Nat.reduceEqDiff,Nat.reduceBEq,Nat.reduceMod,Nat.reduceDiv,↓reduceIte,reduceCtorEq]
   repeat' (refine bO (fun h=>?_) (fun h=>?_) <;> simp only [h,List.length_map,hd,go_sem,Nat.reduceAdd,Nat.reduceMul,Nat.reduceEqDiff,Nat.reduceBEq,Nat.reduceMod,Nat.reduceDiv,↓reduceIte,reduceCtorEq])
   all_goals (simp [Th.set,Th.key,hP];simp_all)
   all_goals (cases d <;> simp <;> omega)
 all_goals (simp [Th.set,Th.key];try simp_all)
 all_goals (try omega)
end Go.Proofs.Ytdkkgecdhapfhaa.Kn
set_option maxRecDepth 4000
namespace Go.Proofs.Ytdkkgecdhapfhaa.Kn
open Go Ev
variable {ext : Env} {F n:Nat}
theorem MS {α:Type} {body:St → Option (Out × St)} {rs:St → St} {k:Out × St → Prop} {u:Tok k} {F:Nat} {σ:St} (N:Nat) (T:α → St) (P:Nat → α → Prop) (hF:N < F) (x:α) (hs:rs σ = T x) (h0:P 0 x)
  (step:∀ i x,i < N → P i x → W (fun p=>match p.1 with
   | .jk=>∃ y,rs p.2 = T y ∧ P (i + 1) y
   | o=>k (o,p.2)) ⟨⟩ (body (T x)))
  (last:∀ x,P N x → W (fun p=>match p.1 with
   | .jk=>False
   | o=>k (o,p.2)) ⟨⟩ (body (T x))):W k u (iter body rs F σ):=by
 refine CJ (fun m σ=>∃ i x,i ≤ N ∧ m = N - i ∧ rs σ = T x ∧ P i x) ?_ F N σ hF ⟨0,x,Nat.zero_le _,rfl,hs,h0⟩
 rintro m σ ⟨i,x,hi,rfl,hr,hP⟩
 rw [hr]
 by_cases hlt:i < N
 ·refine vK (step i x hlt hP) fun p hp=>?_
  obtain ⟨o,s⟩:=p
  cases o with
  | jk =>
   obtain ⟨y,h1,h2⟩:=hp
   exact ⟨N - (i + 1),by omega,i + 1,y,by omega,rfl,h1,h2⟩
  | ext j=>exact hp
  | ret=>exact hp
 ·have:i = N:=by omega
  subst this
  refine vK (last x hP) fun p hp=>?_
  obtain ⟨o,s⟩:=p
  cases o with
  | jk=>exact hp.elim
  | ext j=>exact hp
  | ret=>exact hp
abbrev Qn.f (k:Qn):List FV:=[.str k.q,.int .i64 k.t,.int .i64 k.c]
abbrev fnQ (k:Qn):AV:=.one (.fn 90 [k.f])
theorem MU (x k:Qn):G ext F (n + 1) 90 [vq x.q x.t x.c,.one (.fp k.f)] = some ([vb (decide (x = k))],[vq x.q x.t x.c,.one (.fp k.f)]):=by
 refine eH (cf:=c90) rfl ?_
 simp only [c90,go_sem,Nat.reduceAdd,Nat.reduceMul,Nat.reduceEqDiff,Nat.reduceBEq,Nat.reduceMod,Nat.reduceDiv,↓reduceIte,reduceCtorEq]
 cases x;cases k;simp
def TT (l:List Qn) (k:Qn):Int:=match l.findIdx? fun x=>decide (x = k) with | some i=>i | none=>-1
theorem VY {l:List Qn} {k:Qn} (h:∀ x ∈ l,x ≠ k):TT l k = -1:=by
 have:l.findIdx? (fun x=>decide (x = k)) = none:=List.findIdx?_eq_none_iff.mpr fun x hx=>by simpa using h x hx
 simp [TT,this]
theorem VZ {l:List Qn} {k:Qn} {i:Nat} {x:Qn} (h:∀ x ∈ l.take i,x ≠ k) (hx:l[i]? = some x) (hk:x = k):TT l k = i:=by
 have hi:=(List.getElem?_eq_some_iff.mp hx)
 have:l.findIdx? (fun x=>decide (x = k)) = some i:=by
  refine List.findIdx?_eq_some_iff_getElem.mpr ⟨hi.1,by simp [hi.2,hk],fun j hj=>?_⟩
  have:=h (l[j]'(by have:=hi.1;omega)) (by rw [List.mem_take_iff_getElem];exact ⟨j,by have:=hi.1;omega,rfl⟩)
  simpa using this
 simp [TT,this]
theorem V3 (l:List Qn) (k:Qn):(TT l k = -1 ∧ ∀ x ∈ l,x ≠ k) ∨ ∃ (i:Nat),TT l k = (i:Int) ∧ ∃ h:i < l.length,(∀ x ∈ l.take i,x ≠ k) ∧ l[i] = k:=by
 have hp:TT l k = match l.findIdx? fun x=>decide (x = k) with | some i=>(i:Int) | none=>-1:=rfl
 cases h:l.findIdx? fun x=>decide (x = k) with
 | none =>
  rw [h] at hp
  exact .inl ⟨hp,fun x hx=>by simpa using List.findIdx?_eq_none_iff.mp h x hx⟩
 | some i =>
  rw [h] at hp
  obtain ⟨hi,hx,hb⟩:=List.findIdx?_eq_some_iff_getElem.mp h
  refine .inr ⟨i,hp,hi,fun x hx=>?_,by simpa using hx⟩
  obtain ⟨j,hj,rfl⟩:=List.mem_take_iff_getElem.mp hx
  have:=hb j (by omega)
  simpa using this
theorem CK (l:List Qn) (k:Qn) (hl:l.length ≤ 1000000000000) (hF:200000000000001 ≤ F):G ext F (n + 2) 108 [vl (l.map rQ),fnQ k] = some ([vi (TT l k)],[vl (l.map rQ),fnQ k]):=by
 refine eH (cf:=Qp) rfl ?_
 simp only [Qp,go_sem,Nat.reduceAdd,Nat.reduceMul,Nat.reduceEqDiff,Nat.reduceBEq,Nat.reduceMod,Nat.reduceDiv,↓reduceIte,reduceCtorEq]
 refine lU l.length (fun i=>⟨[(0,PV.c (CV.one (PL.f (FV.sl (l.map rQ))))),(1,PV.c (CV.one (PL.fn 90 [k.f]))),(7,PV.c (CV.one (PL.f (FV.int .i64 (l.map rQ).length)))),(8,PV.c (CV.one (PL.f (FV.int .i64 i))))],[]⟩) (fun i=>∀ x ∈ l.take i,x ≠ k) (by omega) rfl (by simp) (fun i hi hP=>?_) (fun hP=>?_)
 ·obtain ⟨x,hx,hd,ht,h0⟩:=at_ hi
  have hn:=nx hi (Nat.le_trans hl (by decide))
  have hq:=fun n=>MU (ext:=ext) (F:=F) (n:=n) x k
  simp only [List.length_map,List.getElem?_map,hd,hx,ht,h0,rQ,hq,go_sem,Nat.reduceAdd,Nat.reduceMul,Nat.reduceEqDiff,Nat.reduceBEq,Nat.reduceMod,Nat.reduceDiv,↓reduceIte,reduceCtorEq]
  repeat' (refine bO (fun h=>?_) (fun h=>?_) <;> simp only [h,List.length_map,List.getElem?_map,hd,hx,ht,h0,hn,rQ,hq,go_sem,Nat.reduceAdd,Nat.reduceMul,Nat.reduceEqDiff,Nat.reduceBEq,Nat.reduceMod,Nat.reduceDiv,↓reduceIte,reduceCtorEq])
  ·rw [VZ hP hx (by simpa using h)]
  ·exact all_succ hP hx (by simpa using h)
 ·have hd:=@end_ _ l
  simp only [List.length_map,hd,go_sem,Nat.reduceAdd,Nat.reduceMul,Nat.reduceEqDiff,Nat.reduceBEq,Nat.reduceMod,Nat.reduceDiv,↓reduceIte,reduceCtorEq]
  repeat' (refine bO (fun h=>?_) (fun h=>?_) <;> simp only [h,List.length_map,hd,go_sem,Nat.reduceAdd,Nat.reduceMul,Nat.reduceEqDiff,Nat.reduceBEq,Nat.reduceMod,Nat.reduceDiv,↓reduceIte,reduceCtorEq])
  rw [List.take_length] at hP
  rw [VY hP]
theorem Qv {l:List Qn} {k x:Qn} {i:Nat} (h:l[i]? = some x):(l.take (i + 1)).filter (fun y=>decide (y ≠ k)) = (l.take i).filter (fun y=>decide (y ≠ k)) ++ if x = k then [] else [x]:=by
 rw [List.take_add_one,List.filter_append,h]
 by_cases hx:x = k <;> simp [hx]
theorem zY (l:List Qn) (k:Qn) (hl:l.length ≤ 1000000000000) (hF:200000000000001 ≤ F):G ext F (n + 3) 89 [.one (.own 3 (l.map rQ)),fnQ k] = some ([.one (.own 3 ((l.filter fun x=>decide (x ≠ k)).map rQ))],[.one .any,fnQ k]):=by
 refine eH (cf:=c89) rfl ?_
 have h1:=fun n=>CK (ext:=ext) (F:=F) (n:=n) l k hl hF
 simp only [c89,h1,go_sem,Nat.reduceAdd,Nat.reduceMul,Nat.reduceEqDiff,Nat.reduceBEq,Nat.reduceMod,Nat.reduceDiv,↓reduceIte,reduceCtorEq]
 rcases V3 l k with ⟨hp,hno⟩ | ⟨i0,hp,hi0,hpre,hat⟩
 ·rw [hp]
  simp only [show decide ((-1:Int) = -1) = true from rfl,go_sem,Nat.reduceAdd,Nat.reduceMul,Nat.reduceEqDiff,Nat.reduceBEq,Nat.reduceMod,Nat.reduceDiv,↓reduceIte,reduceCtorEq]
  rw [List.filter_eq_self.mpr (fun x hx=>by simpa using hno x hx)]
 ·rw [hp]
  have hne:decide ((i0:Int) = -1) = false:=by simp
  simp only [hne,nx hi0 (Nat.le_trans hl (by decide)),List.length_map,go_sem,Nat.reduceAdd,Nat.reduceMul,Nat.reduceEqDiff,Nat.reduceBEq,Nat.reduceMod,Nat.reduceDiv,↓reduceIte,reduceCtorEq]
  refine MS (l.length - (i0 + 1)) (fun x:List Qn × Nat × Nat=>⟨[(0,PV.c (CV.one (PL.own 20202 x.1.length))),(1,PV.c (CV.one (PL.fn 90 [k.f]))),(5,PV.c (CV.one (PL.f (FV.int IntKind.i64 x.2.1)))),(6,PV.c (CV.one (PL.f (FV.int IntKind.i64 x.2.2))))],[(20202,Ob.row 3 (x.1.map rQ))]⟩) (fun r x=>x.2.2 = i0 + 1 + r ∧ x.2.1 < x.2.2 ∧ x.1.length = l.length ∧ x.1.take x.2.1 = (l.take x.2.2).filter (fun y=>decide (y ≠ k)) ∧ x.1.drop x.2.2 = l.drop x.2.2) (by omega) (l,i0,i0 + 1) rfl ⟨rfl,Nat.lt_succ_self _,rfl,?_,rfl⟩ (fun r x hr hP=>?_) (fun x hP=>?_)
  ·rw [List.take_add_one,List.filter_append,List.filter_eq_self.mpr (fun x hx=>by simpa using hpre x hx),List.getElem?_eq_getElem hi0]
   simp [hat]
  ·obtain ⟨R,c,j⟩:=x
   obtain ⟨rfl,hc,hlen,htk,hdr⟩:=hP
   simp only at hc hlen htk hdr ⊢
   have hj:i0 + 1 + r < R.length:=by omega
   obtain ⟨x,hx,hd,ht,h0⟩:=at_ hj
   have hn:=nx hj (by omega)
   have hq:=fun n=>MU (ext:=ext) (F:=F) (n:=n) x k
   have hlt:((i0 + 1 + r:Nat):Int) < (R.length:Int):=by omega
   have hcR:c < R.length:=by omega
   obtain ⟨y,hy,hcd,hct,hc0⟩:=at_ hcR
   have hcl:(c:Int) < (R.length:Int):=by omega
   have hcn:=nx hcR (by omega)
   simp only [List.length_map,List.getElem?_map,hd,hx,ht,h0,rQ,hq,hlt,go_sem,Nat.reduceAdd,Nat.reduceMul,Nat.reduceEqDiff,Nat.reduceBEq,Nat.reduceMod,Nat.reduceDiv,↓reduceIte,reduceCtorEq]
   repeat' (refine bO (fun h=>?_) (fun h=>?_) <;> simp only [h,List.length_map,List.getElem?_map,hd,hx,ht,h0,hn,rQ,hq,hlt,hy,hct,hc0,hcl,hcn,go_sem,Nat.reduceAdd,Nat.reduceMul,Nat.reduceEqDiff,Nat.reduceBEq,Nat.reduceMod,Nat.reduceDiv,↓reduceIte,reduceCtorEq])
   all_goals
    have hxl:l[i0 + 1 + r]? = some x:=by
     have:=congrArg (fun z:List Qn=>z[0]?) hdr
     simp only [List.getElem?_drop,Nat.add_zero,hx] at this
     exact this.symm
    have hdr':List.drop (i0 + 1 + r + 1) R = List.drop (i0 + 1 + r + 1) l:=by
     have:=congrArg (List.drop 1) hdr
     simpa only [List.drop_drop] using this
    have hft:=Qv (k:=k) hxl
   ·simp only [decide_eq_true_eq] at h
    rw [if_pos h,List.append_nil] at hft
    exact ⟨(R,c,i0 + 1 + r + 1),rfl,rfl,by show c < i0 + 1 + r + 1;omega,hlen,by rw [hft];exact htk,hdr'⟩
   ·simp only [decide_eq_false_iff_not] at h
    rw [if_neg h] at hft
    refine ⟨(R.set c x,c + 1,i0 + 1 + r + 1),?_,rfl,by show c + 1 < i0 + 1 + r + 1;omega,by simp [hlen],?_,?_⟩
    ·simp [List.map_set,rQ]
    ·show List.take (c + 1) (R.set c x) = _
     rw [hft,List.take_add_one,List.take_set,List.set_eq_of_length_le (by simp;omega),htk,List.getElem?_set_self hcR]
     rfl
    ·show List.drop _ (R.set c x) = _
     rw [List.drop_set_of_lt (show c < i0 + 1 + r + 1 by omega)]
     exact hdr'
  ·obtain ⟨R,c,j⟩:=x
   obtain ⟨rfl,hc,hlen,htk,hdr⟩:=hP
   simp only at hc hlen htk hdr ⊢
   have hj:i0 + 1 + (l.length - (i0 + 1)) = R.length:=by omega
   rw [hj]
   rw [hj,List.take_of_length_le (l:=l) (i:=R.length) (by omega)] at htk
   have hd:=@end_ _ R
   have hct:(c:Int).toNat = c:=by simp
   have htt:List.take c (List.take c (List.map rQ R) ++ List.replicate (R.length - c) [FV.str ⟨#[]⟩,FV.int IntKind.i64 0,FV.int IntKind.i64 0]) = (l.filter fun y=>decide (y ≠ k)).map rQ:=by
    rw [List.take_append_of_le_length (by simp;omega),List.take_take,Nat.min_self,← List.map_take,htk]
   simp only [List.length_map,hd,go_sem,Nat.reduceAdd,Nat.reduceMul,Nat.reduceEqDiff,Nat.reduceBEq,Nat.reduceMod,Nat.reduceDiv,↓reduceIte,reduceCtorEq]
   repeat' (refine bO (fun h=>?_) (fun h=>?_) <;> simp only [h,List.length_map,hd,go_sem,Nat.reduceAdd,Nat.reduceMul,Nat.reduceEqDiff,Nat.reduceBEq,Nat.reduceMod,Nat.reduceDiv,↓reduceIte,reduceCtorEq])
   rw [hct]
   exact ⟨by omega,by omega,⟨by omega,by simp;omega⟩,by rw [htt]⟩
structure qR (ext:Env):Prop where
 cq:∀ l:List Qn,l.length ≤ 1000000 → ext 70 [vl (l.map rQ)] = some ([.one (.own 3 (l.map rQ))],[vl (l.map rQ)])
 cs:∀ l:List ByteArray,l.length ≤ 1000000 → ext 88 [vl (l.map fO)] = some ([vl (l.map fO)],[vl (l.map fO)])
theorem IK (C:qR ext) (l:List Qn) (h:l.length ≤ 1000000):G ext F (n + 1) 70 [vl (l.map rQ)] = some ([.one (.own 3 (l.map rQ))],[vl (l.map rQ)]):=(congrFun (jU rfl) _).trans (C.cq l h)
theorem aam (C:qR ext) (l:List ByteArray) (h:l.length ≤ 1000000):G ext F (n + 1) 88 [vl (l.map fO)] = some ([vl (l.map fO)],[vl (l.map fO)]):=(congrFun (jU rfl) _).trans (C.cs l h)
def wB (l:List Qn) (k:Qn):List Qn:=l.filter fun x=>decide (x ≠ k)
theorem xA {l:List Qn} {k:Qn}:(wB l k).length ≤ l.length:=List.length_filter_le ..
theorem EP (C:qR ext) (l:List Qn) (k:Qn) (hl:l.length ≤ 1000000) (hF:200000000000001 ≤ F):G ext F (n + 4) 69 [vl (l.map rQ),vq k.q k.t k.c] = some ([.one (.own 3 ((wB l k).map rQ))],[vl (l.map rQ),vq k.q k.t k.c]):=by
 refine eH (cf:=c69) rfl ?_
 have h1:=fun n=>IK (F:=F) (n:=n) C l hl
 have h2:=fun n=>zY (ext:=ext) (F:=F) (n:=n) l k (by omega) hF
 simp only [c69,h1,h2,go_sem,Nat.reduceAdd,Nat.reduceMul,Nat.reduceEqDiff,Nat.reduceBEq,Nat.reduceMod,Nat.reduceDiv,↓reduceIte,reduceCtorEq]
 rfl
theorem MV (C:qR ext) (l:List Qn) (k:Qn) (hl:l.length ≤ 1000000) (hF:200000000000001 ≤ F):G ext F (n + 5) 67 [vl (l.map rQ),vq k.q k.t k.c] = some ([vl ((wB l k ++ [k]).map rQ)],[vl (l.map rQ),vq k.q k.t k.c]):=by
 refine eH (cf:=c67) rfl ?_
 have h1:=fun n=>EP (ext:=ext) (F:=F) (n:=n) C l k hl hF
 have hl2:=@xA l k
 simp only [c67,h1,List.length_map,go_sem,Nat.reduceAdd,Nat.reduceMul,Nat.reduceEqDiff,Nat.reduceBEq,Nat.reduceMod,Nat.reduceDiv,↓reduceIte,reduceCtorEq]
 have hsz:((wB l k).length + 1) * 32 ≤ 140737488355328:=by omega
 simp [rQ,hsz]
theorem aan (l:List Qn):((l.map rQ).all fun r=>r.length == 3) = true:=by
 rw [List.all_eq_true]
 intro r hr
 obtain ⟨x, -,rfl⟩:=List.mem_map.mp hr
 rfl
theorem V4 (C:qR ext) (l:List Qn) (most:Int) (hl:l.length ≤ 1000000) (hm:0 ≤ most ∧ most ≤ 1000000000000) (hF:200000000000001 ≤ F):G ext F (n + 2) 66 [vl (l.map rQ),vi most] = some ([vl ((l.drop (l.length - most.toNat)).map rQ),vl ((l.take (l.length - most.toNat)).map rQ)],[vl (l.map rQ),vi most]):=by
 refine eH (cf:=c66) rfl ?_
 have h1:=fun n=>IK (F:=F) (n:=n) C (l.drop (l.length - most.toNat)) (by simp;omega)
 have h2:=fun n=>IK (F:=F) (n:=n) C (l.take (l.length - most.toNat)) (by simp;omega)
 obtain ⟨a,ha⟩:∃ a,a = l.length - most.toNat:=⟨_,rfl⟩
 rw [← ha] at h1 h2 ⊢
 have hc:IntKind.i64.wrap ((l.length:Int) - if (if (l.length:Int) < most then (l.length:Int) else most) < 0 then 0 else if (l.length:Int) < most then (l.length:Int) else most) = (a:Int):=by
  rw [vL (by split <;> split <;> omega) (by split <;> split <;> omega)]
  split <;> split <;> omega
 have hat:(a:Int).toNat = a:=by simp
 have hc1:(0:Int) ≤ a ∧ (a:Int) ≤ (l.length:Int):=by omega
 have hk1:List.take (l.length - a) (List.drop a (l.map rQ)) = (l.drop a).map rQ:=by rw [List.take_of_length_le (by simp),List.map_drop]
 have hk2:List.take a (l.map rQ) = (l.take a).map rQ:=List.map_take.symm
 simp only [c66,List.length_map,hc,hat,hc1,hk1,hk2,h1,h2,aan l,List.drop_zero,Nat.sub_zero,go_sem,Nat.reduceAdd,Nat.reduceMul,Nat.reduceEqDiff,Nat.reduceBEq,Nat.reduceMod,Nat.reduceDiv,↓reduceIte,reduceCtorEq]
end Go.Proofs.Ytdkkgecdhapfhaa.Kn
set_option maxRecDepth 4000
namespace Go.Proofs.Ytdkkgecdhapfhaa.Kn
open Go Ev
variable {ext : Env} {F n:Nat} {θ:Th}
structure Nt where
 k:Qn
 nx:Bool
 s:Se
 u:Int
 deriving DecidableEq
def rN (x:Nt):List FV:=[.str x.k.q,.int .i64 x.k.t,.int .i64 x.k.c,.bool x.nx,.str x.s.q,.int .i64 x.s.t,.int .i64 x.s.c,.sl (x.s.d.map fO),.int .i64 x.s.ttl,.int .i64 x.u]
abbrev Nt.v (x:Nt):AV:=.agg [.f (.str x.k.q),.f (.int .i64 x.k.t),.f (.int .i64 x.k.c),.f (.bool x.nx),.f (.str x.s.q),.f (.int .i64 x.s.t),.f (.int .i64 x.s.c),.f (.sl (x.s.d.map fO)),.f (.int .i64 x.s.ttl),.f (.int .i64 x.u)]
abbrev Qn.v (k:Qn):AV:=vq k.q k.t k.c
def O7 : Nt:=⟨⟨⟨#[]⟩,0,0⟩,false,⟨⟨#[]⟩,0,0,[],0⟩,0⟩
structure On where
 o:Int
 now:Int
 k:Qn
 nx:Bool
 s:Se
def A9 (x:On):List FV:=[.int .i64 x.o,.int .i64 x.now,.str x.k.q,.int .i64 x.k.t,.int .i64 x.k.c,.bool x.nx,.str x.s.q,.int .i64 x.s.t,.int .i64 x.s.c,.sl (x.s.d.map fO),.int .i64 x.s.ttl]
abbrev On.v (x:On):AV:=.agg [.f (.int .i64 x.o),.f (.int .i64 x.now),.f (.str x.k.q),.f (.int .i64 x.k.t),.f (.int .i64 x.k.c),.f (.bool x.nx),.f (.str x.s.q),.f (.int .i64 x.s.t),.f (.int .i64 x.s.c),.f (.sl (x.s.d.map fO)),.f (.int .i64 x.s.ttl)]
structure Nv where
 room:Int
 m:List Nt
 o:List Qn
 ch:Int
structure Rn where
 room:Int
 l:List Nt
 ch:Int
abbrev MW : KS:=.agg [.str,.int .i64,.int .i64]
abbrev kq (k:Qn):KV:=.agg [.str k.q,.int .i64 k.t,.int .i64 k.c]
theorem V5 {a b:Qn}:kq a = kq b ↔ a = b:=by
 constructor
 ·intro h;simp only [kq,KV.agg.injEq,List.cons.injEq,SV.str.injEq,SV.int.injEq] at h
  cases a;cases b;simp_all
 ·rintro rfl;rfl
def old (l:List Nt) (k:Qn):Option Nt:=l.find? fun x=>decide (x.k = k)
def rid (l:List Nt) (k:Qn):List Nt:=l.eraseP fun x=>decide (x.k = k)
def ent (x:Nt):KV × FC:=(kq x.k,.agg (rN x))
theorem yJ (l:List Nt) (k:Qn):Gj (l.map ent) (kq k) = l.findIdx? fun x=>decide (x.k = k):=by
 unfold Gj
 rw [List.map_map,List.findIdx?_map]
 refine congrArg (fun p=>List.findIdx? p l) (funext fun x=>?_)
 simp only [Function.comp,ent]
 by_cases h:x.k = k
 ·simp [h]
 ·have:¬ kq x.k = kq k:=fun e=>h (V5.mp e)
  simp only [this,h,decide_false]
theorem ER (l:List Nt) (k:Qn):DZ (l.map ent) (kq k) = (old l k).map fun x=>.agg (rN x):=by
 have hf:old l k = (l.findIdx? fun x=>decide (x.k = k)).bind fun i=>l[i]?:=List.find?_eq_bind_findIdx?_getElem? ..
 unfold DZ
 rw [yJ,hf]
 cases l.findIdx? fun x=>decide (x.k = k) with
 | none=>rfl
 | some i=>simp only [Option.bind_some,List.getElem?_map];cases l[i]? <;> rfl
theorem ES (l:List Nt) (k:Qn):Gn (l.map ent) (kq k) = (rid l k).map ent:=by
 unfold Gn rid
 rw [yJ,List.eraseP_eq_eraseIdx]
 cases l.findIdx? fun x=>decide (x.k = k) with
 | none=>rfl
 | some i=>simp [List.eraseIdx_eq_take_drop_succ,List.map_take,List.map_drop]
def upd (l:List Nt) (x:Nt):List Nt:=match l.findIdx? fun y=>decide (y.k = x.k) with
 | some i=>l.set i x
 | none=>l ++ [x]
theorem MX (l:List Nt) (x:Nt):Gl (l.map ent) (kq x.k) (.agg (rN x)) = (upd l x).map ent:=by
 unfold Gl upd
 rw [yJ]
 cases l.findIdx? fun y=>decide (y.k = x.k) with
 | none=>simp [ent]
 | some i=>simp [List.map_set,ent]
abbrev ks (l:List Nt):List Qn:=l.map Nt.k
theorem Qw {b:Qn}:old [] b = none:=rfl
theorem pJ {x:Nt} {l:List Nt} {b:Qn}:old (x :: l) b = if x.k = b then some x else old l b:=by
 unfold old;rw [List.find?_cons];by_cases h:x.k = b <;> simp [h]
theorem CO {l:List Nt} {b:Qn} (h:b ∉ ks l):old l b = none:=by
 unfold old;rw [List.find?_eq_none]
 intro x hx;simp only [decide_eq_true_eq];rintro rfl;exact h (List.mem_map_of_mem hx)
theorem xB {l:List Nt} {b:Qn} {x:Nt} (h:old l b = some x):x.k = b ∧ x ∈ l:=⟨by simpa using List.find?_some h,List.mem_of_find?_eq_some h⟩
theorem yK {x:Nt} {l:List Nt} {a:Qn}:rid (x :: l) a = if x.k = a then l else x :: rid l a:=by
 unfold rid;rw [List.eraseP_cons];by_cases h:x.k = a <;> simp [h]
theorem CP {l:List Nt} {a:Qn}:(rid l a).Sublist l:=List.eraseP_sublist ..
theorem qB {l:List Nt} {a:Qn} (h:(ks l).Nodup):(ks (rid l a)).Nodup:=(CP.map _).nodup h
theorem CQ {l:List Nt} {a b:Qn} (h:(ks l).Nodup):old (rid l a) b = if b = a then none else old l b:=by
 induction l with
 | nil=>simp [rid,Qw]
 | cons x l ih =>
  have hc:=List.nodup_cons.mp h
  rw [yK]
  by_cases hx:x.k = a
  ·rw [if_pos hx]
   by_cases hb:b = a
   ·rw [if_pos hb];exact CO (by rw [hb,← hx];exact hc.1)
   ·rw [if_neg hb,pJ,if_neg (by rw [hx];exact fun e=>hb e.symm)]
  ·rw [if_neg hx,pJ,pJ,ih hc.2]
   by_cases hb:b = a
   ·subst hb;rw [if_neg hx,if_pos rfl,if_pos rfl]
   ·rw [if_neg hb,if_neg hb]
theorem V6 {l:List Nt} {a:Qn} (h:(ks l).Nodup):ks (rid l a) = wB (ks l) a:=by
 induction l with
 | nil=>rfl
 | cons x l ih =>
  have hc:=List.nodup_cons.mp h
  rw [yK]
  by_cases hx:x.k = a
  ·rw [if_pos hx]
   have:wB (ks l) a = ks l:=List.filter_eq_self.mpr fun y hy=>by
    simp only [decide_eq_true_eq];rintro rfl;rw [← hx] at hy;exact hc.1 hy
   simp only [ks,List.map_cons,wB,List.filter_cons,hx,ne_eq,decide_not] at this ⊢
   simp [this]
  ·rw [if_neg hx]
   simp only [ks,List.map_cons,wB,List.filter_cons] at ih ⊢
   rw [ih hc.2];simp [hx]
theorem IL {l:List Nt} {x:Nt} {b:Qn} (h:x.k ∉ ks l):old (l ++ [x]) b = if b = x.k then some x else old l b:=by
 unfold old;rw [List.find?_append]
 by_cases hb:b = x.k
 ·subst hb
  have:=CO h;unfold old at this
  rw [this];simp
 ·have:¬ x.k = b:=fun e=>hb e.symm
  simp [hb,this]
theorem CS (l:List Nt) (x:Nt):(x.k ∉ ks l ∧ upd l x = l ++ [x]) ∨ ∃ a y b,l = a ++ y :: b ∧ y.k = x.k ∧ x.k ∉ ks a ∧ upd l x = a ++ x :: b:=by
 unfold upd
 cases h:l.findIdx? fun y=>decide (y.k = x.k) with
 | none =>
  refine .inl ⟨fun hm=>?_,rfl⟩
  obtain ⟨y,hy,hk⟩:=List.mem_map.mp hm
  have:=List.findIdx?_eq_none_iff.mp h y hy
  simp [hk] at this
 | some i =>
  obtain ⟨hi,hx,hb⟩:=List.findIdx?_eq_some_iff_getElem.mp h
  refine .inr ⟨l.take i,l[i],l.drop (i + 1),?_,by simpa using hx,fun hm=>?_,?_⟩
  ·rw [List.getElem_cons_drop,List.take_append_drop]
  ·obtain ⟨y,hy,hk⟩:=List.mem_map.mp hm
   obtain ⟨j,hj,rfl⟩:=List.mem_take_iff_getElem.mp hy
   have:=hb j (by omega)
   simp [hk] at this
  ·simp only [List.set_eq_take_append_cons_drop,hi,if_true]
theorem Qx {l:List Nt} {x:Nt} {b:Qn}:old (upd l x) b = if b = x.k then some x else old l b:=by
 rcases CS l x with ⟨h,hu⟩ | ⟨a,y,c,rfl,hy,ha,hu⟩
 ·rw [hu,IL h]
 ·rw [hu]
  have hno:=CO ha
  unfold old at hno ⊢
  rw [List.find?_append,List.find?_append,List.find?_cons,List.find?_cons]
  by_cases hb:b = x.k
  ·subst hb;rw [hno];simp
  ·have h1:¬ x.k = b:=fun e=>hb e.symm
   have h2:¬ y.k = b:=fun e=>hb (by rw [← hy,e])
   simp [hb,h1,h2]
theorem qC {l:List Nt} {x:Nt} (h:(ks l).Nodup):(ks (upd l x)).Nodup:=by
 rcases CS l x with ⟨hn,hu⟩ | ⟨a,y,c,rfl,hy,ha,hu⟩
 ·rw [hu]
  simp only [ks,List.map_append,List.map_cons,List.map_nil]
  refine List.nodup_append.mpr ⟨h,List.pairwise_singleton _ _,fun p hp q hq=>?_⟩
  rw [List.mem_singleton] at hq;subst hq;rintro rfl;exact hn hp
 ·rw [hu]
  have:ks (a ++ x :: c) = ks (a ++ y :: c):=by simp [ks,hy]
  rw [this];exact h
theorem Qy {l:List Nt} {a:Qn}:(rid l a).length ≤ l.length:=CP.length_le
theorem Ba {l:List Nt} {a:Qn} (h:(ks l).Nodup):a ∉ ks (rid l a):=fun hp=>by
 have h1:=CQ (b:=a) (a:=a) h
 rw [if_pos rfl] at h1
 obtain ⟨y,hy,hk⟩:=List.mem_map.mp hp
 have:=List.find?_eq_none.mp h1 y hy
 simp [hk] at this
theorem Ke {l:List Nt} {x:Nt} (h:(ks l).Nodup) (hn:x.k ∉ ks l):(ks (l ++ [x])).Nodup:=by
 simp only [ks,List.map_append,List.map_cons,List.map_nil]
 refine List.nodup_append.mpr ⟨h,List.pairwise_singleton _ _,fun p hp q hq=>?_⟩
 rw [List.mem_singleton] at hq;subst hq;rintro rfl;exact hn hp
theorem Qz {l:List Nt} {x:Nt}:(upd l x).length ≤ l.length + 1:=by
 rcases CS l x with ⟨-,hu⟩ | ⟨a,y,c,rfl, -, -,hu⟩ <;> rw [hu] <;> simp
theorem QA {l:List Nt} {x y:Nt} (h:y ∈ upd l x):y = x ∨ y ∈ l:=by
 rcases CS l x with ⟨-,hu⟩ | ⟨a,z,c,rfl, -, -,hu⟩ <;> rw [hu] at h <;> simp at h ⊢
 ·rcases h with h | h <;> simp [h]
 ·rcases h with h | h | h <;> simp [h]
theorem yL : ∀ {g:List Qn} {l:List Nt},(g.foldl rid l).Sublist l
 | [],l=>List.Sublist.refl _
 | a :: g,l=>(yL (g:=g)).trans CP
abbrev Nv.v (s:Nv):AV:=.one (.ptr [.f (.int .i64 s.room),.mp MW (s.m.map ent),.f (.sl (s.o.map rQ)),.f (.int .i64 s.ch)])
abbrev Rn.v (s:Rn):AV:=.agg [.f (.int .i64 s.room),.f (.sl (s.l.map rN)),.f (.int .i64 s.ch)]
def V7 : Option Nv → AV
 | some s=>s.v
 | none=>.one .jd
theorem tY (s:Nv):V7 (some s) = s.v:=rfl
theorem tZ : V7 none = .one .jd:=rfl
end Go.Proofs.Ytdkkgecdhapfhaa.Kn
set_option maxRecDepth 4000
namespace Go.Proofs.Ytdkkgecdhapfhaa.Kn
open Go Ev
variable {ext : Env} {F n:Nat} {θ:Th} {gt:ByteArray → Int → Int → Int × Bool}
structure zZ (gt:ByteArray → Int → Int → Int × Bool) (ext:Env):Prop where
 og:∀ s a z,s.size ≤ 1000000 → ext 74 [vs s,vi a,vi z] = some ([vi (gt s a z).1,vb (gt s a z).2],[vs s,vi a,vi z])
 rg:∀ s a z,s.size ≤ 1000000 → ext 75 [vs s,vi a,vi z] = some ([vi (gt s a z).1,vb (gt s a z).2],[vs s,vi a,vi z])
 nn:∀ s a z,0 ≤ (gt s a z).1
theorem aao (O:zZ gt ext) (s:ByteArray) (a z:Int) (h:s.size ≤ 1000000):G ext F (n + 1) 74 [vs s,vi a,vi z] = some ([vi (gt s a z).1,vb (gt s a z).2],[vs s,vi a,vi z]):=(congrFun (jU rfl) _).trans (O.og s a z h)
theorem aap (O:zZ gt ext) (s:ByteArray) (a z:Int) (h:s.size ≤ 1000000):G ext F (n + 1) 75 [vs s,vi a,vi z] = some ([vi (gt s a z).1,vb (gt s a z).2],[vs s,vi a,vi z]):=(congrFun (jU rfl) _).trans (O.rg s a z h)
theorem CU (room:Int):G ext F (n + 1) 39 [vi room] = some ([V7 (if room < 1 ∨ 1000 < room then none else some ⟨room,[],[],0⟩)],[vi room]):=by
 refine eH (cf:=O5) rfl ?_
 simp only [O5,go_sem,Nat.reduceAdd,Nat.reduceMul,Nat.reduceEqDiff,Nat.reduceBEq,Nat.reduceMod,Nat.reduceDiv,↓reduceIte,reduceCtorEq]
 repeat' (refine bO (fun h=>?_) (fun h=>?_) <;> simp only [h,go_sem,Nat.reduceAdd,Nat.reduceMul,Nat.reduceEqDiff,Nat.reduceBEq,Nat.reduceMod,Nat.reduceDiv,↓reduceIte,reduceCtorEq])
 all_goals (simp only [decide_eq_true_eq,decide_eq_false_iff_not] at *)
 all_goals first | rw [if_pos (by omega)] | rw [if_neg (by omega)]
 all_goals rfl
theorem MZ (room:Int):G ext F (n + 1) 40 [vi room] = some ([Rn.v ⟨if room < 1 ∨ 1000 < room then 0 else room,[],0⟩],[vi room]):=by
 refine eH (cf:=c40) rfl ?_
 simp only [c40,go_sem,Nat.reduceAdd,Nat.reduceMul,Nat.reduceEqDiff,Nat.reduceBEq,Nat.reduceMod,Nat.reduceDiv,↓reduceIte,reduceCtorEq]
 repeat' (refine bO (fun h=>?_) (fun h=>?_) <;> simp only [h,go_sem,Nat.reduceAdd,Nat.reduceMul,Nat.reduceEqDiff,Nat.reduceBEq,Nat.reduceMod,Nat.reduceDiv,↓reduceIte,reduceCtorEq])
 all_goals (simp only [decide_eq_true_eq,decide_eq_false_iff_not] at *)
 all_goals first | rw [if_pos (by omega)] | rw [if_neg (by omega)]
 all_goals rfl
theorem ny (o:Option Nv):G ext F (n + 1) 53 [V7 o] = some ([vi (match o with | some s=>s.ch | none=>0)],[V7 o]):=by
 refine eH (cf:=c53) rfl ?_
 cases o with
 | none =>
  rw [tZ]
  simp only [c53,go_sem,Nat.reduceAdd,Nat.reduceMul,Nat.reduceEqDiff,Nat.reduceBEq,Nat.reduceMod,Nat.reduceDiv,↓reduceIte,reduceCtorEq]
 | some s =>
  rw [tY]
  simp only [c53,go_sem,Nat.reduceAdd,Nat.reduceMul,Nat.reduceEqDiff,Nat.reduceBEq,Nat.reduceMod,Nat.reduceDiv,↓reduceIte,reduceCtorEq]
theorem yM (C:qR ext) (o:Option Nv) (ho:∀ s,o = some s → s.o.length ≤ 1000000):G ext F (n + 2) 51 [V7 o] = some ([vl ((match o with | some s=>s.o | none=>[]).map rQ)],[V7 o]):=by
 refine eH (cf:=c51) rfl ?_
 cases o with
 | none =>
  rw [tZ]
  simp only [c51,go_sem,Nat.reduceAdd,Nat.reduceMul,Nat.reduceEqDiff,Nat.reduceBEq,Nat.reduceMod,Nat.reduceDiv,↓reduceIte,reduceCtorEq]
 | some s =>
  rw [tY]
  have h1:=fun n=>IK (F:=F) (n:=n) C s.o (ho s rfl)
  simp only [c51,h1,go_sem,Nat.reduceAdd,Nat.reduceMul,Nat.reduceEqDiff,Nat.reduceBEq,Nat.reduceMod,Nat.reduceDiv,↓reduceIte,reduceCtorEq]
theorem nP (C:qR ext) (x:Nt) (hx:x.s.d.length ≤ 1000000):G ext F (n + 2) 80 [x.v] = some ([x.v],[x.v]):=by
 refine eH (cf:=c80) rfl ?_
 have h1:=fun n=>aam (F:=F) (n:=n) C x.s.d hx
 simp only [c80,h1,go_sem,Nat.reduceAdd,Nat.reduceMul,Nat.reduceEqDiff,Nat.reduceBEq,Nat.reduceMod,Nat.reduceDiv,↓reduceIte,reduceCtorEq]
theorem ET (k:Qn):G ext F (n + 1) 79 [k.v] = some ([vq k.q 0 k.c],[k.v]):=by
 refine eH (cf:=c79) rfl ?_
 simp only [c79,go_sem,Nat.reduceAdd,Nat.reduceMul,Nat.reduceEqDiff,Nat.reduceBEq,Nat.reduceMod,Nat.reduceDiv,↓reduceIte,reduceCtorEq]
abbrev Qn.w (k:Qn):Qn:=⟨k.q,0,k.c⟩
def Th.ask (θ:Th) (k:Qn):Bool:=θ.key k.q k.t k.c && !decide (k.t = 0)
theorem M0 (T:θ.Ok ext) (k:Qn) (hq:k.q.size ≤ 1000000):G ext F (n + 2) 78 [k.v] = some ([vb (θ.ask k)],[k.v]):=by
 refine eH (cf:=c78) rfl ?_
 have h1:=fun n=>TQ (F:=F) (n:=n) T k.q hq
 have h2:=fun n=>TR (F:=F) (n:=n) T k.q hq
 simp only [c78,h1,h2,go_sem,Nat.reduceAdd,Nat.reduceMul,Nat.reduceEqDiff,Nat.reduceBEq,Nat.reduceMod,Nat.reduceDiv,↓reduceIte,reduceCtorEq]
 repeat' (refine bO (fun h=>?_) (fun h=>?_) <;> simp only [h,h1,h2,go_sem,Nat.reduceAdd,Nat.reduceMul,Nat.reduceEqDiff,Nat.reduceBEq,Nat.reduceMod,Nat.reduceDiv,↓reduceIte,reduceCtorEq])
 all_goals clear h1 h2
 all_goals simp only [decide_eq_true_eq,decide_eq_false_iff_not] at *
 all_goals (simp [Th.ask,Th.key, *])
 all_goals (try omega)
 all_goals (have a1:0 ≤ k.t:=by omega);(have a2:¬ k.t = 0:=by omega);simp [a1,a2]
theorem vF (o:On):G ext F (n + 1) 54 [o.v] = some ([if o.nx then o.k.w.v else o.k.v],[o.v]):=by
 refine eH (cf:=c54) rfl ?_
 cases hx:o.nx
 all_goals
  simp only [c54,hx,go_sem,Nat.reduceAdd,Nat.reduceMul,Nat.reduceEqDiff,Nat.reduceBEq,Nat.reduceMod,Nat.reduceDiv,↓reduceIte,reduceCtorEq]
  simp only [On.v,Qn.v,Qn.w,vq,hx]
theorem EU (x:Nt):G ext F (n + 1) 48 [x.v] = some ([x.v],[x.v]):=by
 refine eH (cf:=O6) rfl ?_
 simp only [O6,go_sem,Nat.reduceAdd,Nat.reduceMul,Nat.reduceEqDiff,Nat.reduceBEq,Nat.reduceMod,Nat.reduceDiv,↓reduceIte,reduceCtorEq]
theorem IQ (x y:Nt) (hl:x.s.d.length ≤ 1000000000000) (hF:200000000000001 ≤ F):G ext F (n + 3) 47 [x.v,y.v] = some ([vb (decide (x = y))],[x.v,y.v]):=by
 refine eH (cf:=Qr) rfl ?_
 have ht:=fun n=>Qu (ext:=ext) (F:=F) (n:=n) x.s.q x.s.t x.s.c x.s.d x.s.ttl y.s.q y.s.t y.s.c y.s.d y.s.ttl hl hF
 obtain ⟨⟨kq,kt,kc⟩,nx,⟨q,t,c,d,ttl⟩,u⟩:=x
 obtain ⟨⟨kq',kt',kc'⟩,nx',⟨q',t',c',d',J8⟩,u'⟩:=y
 simp only [Qr,ht,go_sem,Nat.reduceAdd,Nat.reduceMul,Nat.reduceEqDiff,Nat.reduceBEq,Nat.reduceMod,Nat.reduceDiv,↓reduceIte,reduceCtorEq]
 repeat' (refine bO (fun h=>?_) (fun h=>?_) <;> simp only [h,ht,go_sem,Nat.reduceAdd,Nat.reduceMul,Nat.reduceEqDiff,Nat.reduceBEq,Nat.reduceMod,Nat.reduceDiv,↓reduceIte,reduceCtorEq])
 all_goals (simp [MR] at *)
 all_goals (try simp_all)
 all_goals (try (rw [Bool.eq_iff_iff];simp only [Bool.and_eq_true,decide_eq_true_eq];constructor <;> (intro h';simp_all)))
def yN (l:List On):Bool:=l.all fun x=>oz x.s.q x.s.d && decide (x.k.q.size ≤ 300)
theorem Kg {l:List On} {x:On} {i:Nat} (h:l[i]? = some x):yN (l.take (i + 1)) = (yN (l.take i) && (oz x.s.q x.s.d && decide (x.k.q.size ≤ 300))):=by
 unfold yN
 rw [List.take_add_one,h,List.all_append]
 simp
theorem IU {l:List On} {x:On} {i:Nat} (h:l[i]? = some x) (hx:(oz x.s.q x.s.d && decide (x.k.q.size ≤ 300)) = false):yN l = false:=by
 unfold yN
 refine Bool.eq_false_iff.mpr fun ha=>?_
 rw [List.all_eq_true.mp ha x (List.mem_of_getElem? h)] at hx
 cases hx
theorem GL (l:List On) (m:Int) (hl:l.length ≤ 200000000000000) (hd:∀ x ∈ l,x.s.d.length ≤ 200000000000000) (hF:200000000000001 ≤ F):G ext F (n + 2) 37 [vl (l.map A9),vi m] = some ([vb (yN l && decide ((l.length:Int) ≤ m))],[vl (l.map A9),vi m]):=by
 refine eH (cf:=c37) rfl ?_
 simp only [c37,go_sem,Nat.reduceAdd,Nat.reduceMul,Nat.reduceEqDiff,Nat.reduceBEq,Nat.reduceMod,Nat.reduceDiv,↓reduceIte,reduceCtorEq]
 refine lU l.length (fun i=>⟨[(0,PV.c (CV.one (PL.f (FV.sl (l.map A9))))),(1,PV.c (CV.one (PL.f (FV.int .i64 m)))),(5,PV.c (CV.one (PL.f (FV.int .i64 i))))],[]⟩) (fun i=>yN (l.take i) = true) (by omega) rfl (by simp [yN]) (fun i hi hP=>?_) (fun hP=>?_)
 ·obtain ⟨x,hx,hlt,ht,h0⟩:=at_ hi
  have hn:=nx hi (Nat.le_trans hl (by decide))
  have hs:=fun n=>MQ (ext:=ext) (F:=F) (n:=n) x.s.q x.s.t x.s.c x.s.d x.s.ttl (hd x (List.mem_of_getElem? hx)) hF
  cases h1:oz x.s.q x.s.d with
  | false =>
   simp only [List.length_map,List.getElem?_map,hlt,hx,ht,h0,A9,hs,h1,go_sem,Nat.reduceAdd,Nat.reduceMul,Nat.reduceEqDiff,Nat.reduceBEq,Nat.reduceMod,Nat.reduceDiv,↓reduceIte,reduceCtorEq]
   rw [IU hx (by rw [h1];rfl)];rfl
  | true =>
   simp only [List.length_map,List.getElem?_map,hlt,hx,ht,h0,A9,hs,h1,go_sem,Nat.reduceAdd,Nat.reduceMul,Nat.reduceEqDiff,Nat.reduceBEq,Nat.reduceMod,Nat.reduceDiv,↓reduceIte,reduceCtorEq]
   repeat' (refine bO (fun h=>?_) (fun h=>?_) <;> simp only [h,List.length_map,List.getElem?_map,hlt,hx,ht,h0,hn,A9,hs,h1,go_sem,Nat.reduceAdd,Nat.reduceMul,Nat.reduceEqDiff,Nat.reduceBEq,Nat.reduceMod,Nat.reduceDiv,↓reduceIte,reduceCtorEq])
   all_goals simp only [decide_eq_true_eq,decide_eq_false_iff_not] at *
   ·rw [IU hx (by rw [h1];simp;omega)];rfl
   ·rw [Kg hx,hP,h1];simp;omega
 ·have hd:=@end_ _ l
  rw [List.take_length] at hP
  simp only [List.length_map,hd,go_sem,Nat.reduceAdd,Nat.reduceMul,Nat.reduceEqDiff,Nat.reduceBEq,Nat.reduceMod,Nat.reduceDiv,↓reduceIte,reduceCtorEq]
  repeat' (refine bO (fun h=>?_) (fun h=>?_) <;> simp only [h,List.length_map,hd,go_sem,Nat.reduceAdd,Nat.reduceMul,Nat.reduceEqDiff,Nat.reduceBEq,Nat.reduceMod,Nat.reduceDiv,↓reduceIte,reduceCtorEq])
  simp [hP]
def lF (θ:Th) (gt:ByteArray → Int → Int → Int × Bool) (x:Se):Int × Bool :=
 if θ.set x.q x.t x.c x.d x.ttl = true ∧ x.t = 6 then (if x.ttl < (gt (x.d.headD ⟨#[]⟩) ((x.d.headD ⟨#[]⟩).size - 4) 4).1 then x.ttl else (gt (x.d.headD ⟨#[]⟩) ((x.d.headD ⟨#[]⟩).size - 4) 4).1,true) else (0,false)
theorem EW {x:Se} (h:θ.set x.q x.t x.c x.d x.ttl = true):∃ y d,x.d = y :: d:=by
 unfold Th.set at h
 rw [decide_eq_true_eq] at h
 exact List.exists_cons_of_ne_nil h.2.2.2
theorem kY (T:θ.Ok ext) (O:zZ gt ext) (x:Se) (hF:200000000000001 ≤ F) (hq:x.q.size ≤ 1000000) (hn:x.d.length ≤ 1000000) (hd:∀ y ∈ x.d,y.size ≤ 1000000):G ext F (n + 4) 41 [x.v] = some ([vi (lF θ gt x).1,vb (lF θ gt x).2],[x.v]):=by
 refine eH (cf:=Ll) rfl ?_
 have h1:=fun n=>Ka (F:=F) (n:=n) T x.q x.t x.c x.d x.ttl (by omega) hF hq hd
 by_cases h6:x.t = 6
 ·have h6':decide (x.t = 6) = true:=decide_eq_true h6
  cases hs:θ.set x.q x.t x.c x.d x.ttl with
  | false =>
   rw [hs] at h1
   have e:lF θ gt x = (0,false):=by unfold lF;rw [hs];rfl
   rw [e]
   simp only [Ll,h1,h6',go_sem,Nat.reduceAdd,Nat.reduceMul,Nat.reduceEqDiff,Nat.reduceBEq,Nat.reduceMod,Nat.reduceDiv,↓reduceIte,reduceCtorEq]
  | true =>
   rw [hs] at h1
   obtain ⟨y,ds,hy⟩:=EW hs
   have e:lF θ gt x = (if x.ttl < (gt y (y.size - 4) 4).1 then x.ttl else (gt y (y.size - 4) 4).1,true):=by unfold lF;rw [if_pos ⟨hs,h6⟩,hy];rfl
   rw [e]
   have hys:=hd y (by rw [hy];simp)
   have hw:IntKind.i64.wrap ((y.size:Int) - 4) = y.size - 4:=vL (by omega) (by omega)
   have hg:=fun n=>aao (F:=F) (n:=n) O y (y.size - 4) 4 hys
   simp only [Se.v,tV,hy,List.map_cons,fO] at h1 ⊢
   simp only [Ll,h1,h6',List.map_cons,List.getElem?_cons_zero,fO,hw,hg,Int.toNat_zero,go_sem,Nat.reduceAdd,Nat.reduceMul,Nat.reduceEqDiff,Nat.reduceBEq,Nat.reduceMod,Nat.reduceDiv,↓reduceIte,reduceCtorEq]
   exact ⟨Int.le_refl _,by rw [hy];rfl⟩
 ·have h6':decide (x.t = 6) = false:=decide_eq_false h6
  have e:lF θ gt x = (0,false):=by unfold lF;rw [if_neg (fun h=>h6 h.2)]
  rw [e]
  simp only [Ll,h6',go_sem,Nat.reduceAdd,Nat.reduceMul,Nat.reduceEqDiff,Nat.reduceBEq,Nat.reduceMod,Nat.reduceDiv,↓reduceIte,reduceCtorEq]
theorem pK (T:θ.Ok ext) (O:zZ gt ext) (x:Se) (hF:200000000000001 ≤ F) (hq:x.q.size ≤ 1000000) (hn:x.d.length ≤ 1000000) (hd:∀ y ∈ x.d,y.size ≤ 1000000):G ext F (n + 4) 42 [x.v] = some ([vi (lF θ gt x).1,vb (lF θ gt x).2],[x.v]):=by
 refine eH (cf:=Yl) rfl ?_
 have h1:=fun n=>J9 (F:=F) (n:=n) T x.q x.t x.c x.d x.ttl (by omega) hF hq hd
 cases hs:θ.set x.q x.t x.c x.d x.ttl with
 | false =>
  rw [hs] at h1
  have e:lF θ gt x = (0,false):=by unfold lF;rw [hs];rfl
  rw [e]
  simp only [Yl,h1,go_sem,Nat.reduceAdd,Nat.reduceMul,Nat.reduceEqDiff,Nat.reduceBEq,Nat.reduceMod,Nat.reduceDiv,↓reduceIte,reduceCtorEq]
 | true =>
  rw [hs] at h1
  by_cases h6:x.t = 6
  ·have h6':decide (x.t = 6) = true:=decide_eq_true h6
   obtain ⟨y,ds,hy⟩:=EW hs
   have e:lF θ gt x = (if x.ttl < (gt y (y.size - 4) 4).1 then x.ttl else (gt y (y.size - 4) 4).1,true):=by unfold lF;rw [if_pos ⟨hs,h6⟩,hy];rfl
   rw [e]
   have hys:=hd y (by rw [hy];simp)
   have hw:IntKind.i64.wrap ((y.size:Int) - 4) = y.size - 4:=vL (by omega) (by omega)
   have hg:=fun n=>aap (F:=F) (n:=n) O y (y.size - 4) 4 hys
   simp only [Se.v,tV,hy,List.map_cons,fO] at h1 ⊢
   simp only [Yl,h1,h6',List.map_cons,List.getElem?_cons_zero,fO,hw,hg,Int.toNat_zero,go_sem,Nat.reduceAdd,Nat.reduceMul,Nat.reduceEqDiff,Nat.reduceBEq,Nat.reduceMod,Nat.reduceDiv,↓reduceIte,reduceCtorEq]
   exact ⟨Int.le_refl _,by rw [hy];rfl⟩
  ·have h6':decide (x.t = 6) = false:=decide_eq_false h6
   have e:lF θ gt x = (0,false):=by unfold lF;rw [if_neg (fun h=>h6 h.2)]
   rw [e]
   simp only [Yl,h1,h6',go_sem,Nat.reduceAdd,Nat.reduceMul,Nat.reduceEqDiff,Nat.reduceBEq,Nat.reduceMod,Nat.reduceDiv,↓reduceIte,reduceCtorEq]
end Go.Proofs.Ytdkkgecdhapfhaa.Kn
set_option maxRecDepth 4000
namespace Go.Proofs.Ytdkkgecdhapfhaa.Kn
open Go Ev
variable {ext : Env} {F n:Nat} {θ:Th} {gt:ByteArray → Int → Int → Int × Bool}
theorem CW {a b:Qn}:a = b ↔ a.q = b.q ∧ a.t = b.t ∧ a.c = b.c:=by cases a;cases b;simp
def IV (l:List Nt) (k:Qn):List Nt:=l.filter fun x=>decide (x.k ≠ k)
theorem M4 {l:List Nt} {k:Qn} {i:Nat} {x:Nt} (h:l[i]? = some x):IV (l.take (i + 1)) k = IV (l.take i) k ++ if x.k = k then [] else [x]:=by
 unfold IV
 rw [List.take_add_one,h,List.filter_append]
 by_cases hk:x.k = k <;> simp [hk]
theorem IW {l:List Nt} {k:Qn}:(IV l k).length ≤ l.length:=List.length_filter_le ..
theorem EX (l:List Nt) (k:Qn) (hl:l.length ≤ 1000000000) (hF:200000000000001 ≤ F):G ext F (n + 1) 77 [vl (l.map rN),k.v] = some ([.one (.own 10 ((IV l k).map rN))],[vl (l.map rN),k.v]):=by
 refine eH (cf:=c77) rfl ?_
 simp only [c77,go_sem,Nat.reduceAdd,Nat.reduceMul,Nat.reduceEqDiff,Nat.reduceBEq,Nat.reduceMod,Nat.reduceDiv,↓reduceIte,reduceCtorEq]
 refine lU l.length (fun i=>⟨[(0,PV.c (CV.one (PL.f (FV.sl (List.map rN l))))),(3,PV.c (CV.one (PL.ptr 80000 0))),(5,PV.c (CV.one (PL.own 120000 ((IV (l.take i) k).map rN).length))),(6,PV.c (CV.one (PL.f (FV.int IntKind.i64 i))))],[(80000,Ob.lC [PL.f (FV.str k.q),PL.f (FV.int IntKind.i64 k.t),PL.f (FV.int IntKind.i64 k.c)]),(120000,Ob.row 10 ((IV (l.take i) k).map rN))]⟩) (fun i=>True) (by omega) (by rw [show IV (List.take 0 l) k = [] by simp [IV]];rfl) trivial (fun i hi hP=>?_) (fun hP=>?_)
 ·obtain ⟨x,hx,hd,ht,h0⟩:=at_ hi
  have hn:=nx hi (Nat.le_trans hl (by decide))
  have hw:(IV (l.take i) k).length ≤ i:=Nat.le_trans IW (by simp;omega)
  simp only [List.length_map,List.getElem?_map,hd,hx,ht,h0,rN,go_sem,Nat.reduceAdd,Nat.reduceMul,Nat.reduceEqDiff,Nat.reduceBEq,Nat.reduceMod,Nat.reduceDiv,↓reduceIte,reduceCtorEq]
  repeat' (refine bO (fun h=>?_) (fun h=>?_) <;> simp only [h,List.length_map,List.getElem?_map,hd,hx,ht,h0,hn,rN,go_sem,Nat.reduceAdd,Nat.reduceMul,Nat.reduceEqDiff,Nat.reduceBEq,Nat.reduceMod,Nat.reduceDiv,↓reduceIte,reduceCtorEq])
  all_goals (rw [M4 hx];simp only [decide_eq_true_eq,decide_eq_false_iff_not] at h)
  ·rw [if_pos (CW.mpr h)];simp
  ·rw [if_neg (fun e=>h (CW.mp e)),List.map_append,List.length_append];exact ⟨by omega,rfl⟩
 ·have hd:=@end_ _ l
  simp only [List.length_map,hd,go_sem,Nat.reduceAdd,Nat.reduceMul,Nat.reduceEqDiff,Nat.reduceBEq,Nat.reduceMod,Nat.reduceDiv,↓reduceIte,reduceCtorEq]
  repeat' (refine bO (fun h=>?_) (fun h=>?_) <;> simp only [h,List.length_map,hd,go_sem,Nat.reduceAdd,Nat.reduceMul,Nat.reduceEqDiff,Nat.reduceBEq,Nat.reduceMod,Nat.reduceDiv,↓reduceIte,reduceCtorEq])
  rw [List.take_length]
def M5 (l:List Nt) (now:Int) (k:Qn):Option Nt:=l.find? fun x=>decide (x.k = k) && iM now x.u
theorem M6 {l:List Nt} {now:Int} {k:Qn} (h:∀ x ∈ l,¬ (x.k = k ∧ iM now x.u = true)):M5 l now k = none:=by
 unfold M5
 rw [List.find?_eq_none]
 intro x hx
 have:=h x hx
 simpa using this
theorem V8 {l:List Nt} {now:Int} {k:Qn} {i:Nat} {x:Nt} (h:∀ x ∈ l.take i,¬ (x.k = k ∧ iM now x.u = true)) (hx:l[i]? = some x) (hk:x.k = k) (hv:iM now x.u = true):M5 l now k = some x:=by
 have hi:=List.getElem?_eq_some_iff.mp hx
 have e:l = l.take i ++ x :: l.drop (i + 1):=by
  rw [← hi.2,List.getElem_cons_drop,List.take_append_drop]
 unfold M5
 rw [e,List.find?_append]
 have:(l.take i).find? (fun x=>decide (x.k = k) && iM now x.u) = none:=M6 h
 rw [this,List.find?_cons]
 simp [hk,hv]
def M7 (o:Option Nt):Nt × Bool:=match o with
 | some x=>(x,true)
 | none=>(O7,false)
theorem M8 (s:Rn) (now:Int) (k:Qn) (hl:s.l.length ≤ 1000000000) (hF:200000000000001 ≤ F):G ext F (n + 3) 81 [s.v,vi now,k.v] = some ([(M7 (M5 s.l now k)).1.v,vb (M7 (M5 s.l now k)).2],[s.v,vi now,k.v]):=by
 refine eH (cf:=c81) rfl ?_
 simp only [c81,go_sem,Nat.reduceAdd,Nat.reduceMul,Nat.reduceEqDiff,Nat.reduceBEq,Nat.reduceMod,Nat.reduceDiv,↓reduceIte,reduceCtorEq]
 refine lU s.l.length (fun i=>⟨[(1,PV.c (CV.one (PL.f (FV.int IntKind.i64 now)))),(3,PV.c (CV.one (PL.ptr 80000 0))),(5,PV.c (CV.one (PL.ptr 120000 0))),(6,PV.c (CV.one (PL.ptr 140000 0))),(8,PV.c (CV.one (PL.f (FV.int IntKind.i64 i))))],[(80000,Ob.lC [PL.f (FV.int IntKind.i64 s.room),PL.f (FV.sl (List.map rN s.l)),PL.f (FV.int IntKind.i64 s.ch)]),(120000,Ob.lC [PL.f (FV.str k.q),PL.f (FV.int IntKind.i64 k.t),PL.f (FV.int IntKind.i64 k.c)]),(140000,Ob.lC [PL.f (FV.str ⟨#[]⟩),PL.f (FV.int IntKind.i64 0),PL.f (FV.int IntKind.i64 0),PL.f (FV.bool false),PL.f (FV.str ⟨#[]⟩),PL.f (FV.int IntKind.i64 0),PL.f (FV.int IntKind.i64 0),PL.fF,PL.f (FV.int IntKind.i64 0),PL.f (FV.int IntKind.i64 0)])]⟩) (fun i=>∀ x ∈ s.l.take i,¬ (x.k = k ∧ iM now x.u = true)) (by omega) rfl (by simp) (fun i hi hP=>?_) (fun hP=>?_)
 ·obtain ⟨x,hx,hd,ht,h0⟩:=at_ hi
  have hn:=nx hi (Nat.le_trans hl (by decide))
  simp only [List.length_map,List.getElem?_map,hd,hx,ht,h0,rN,tX,go_sem,Nat.reduceAdd,Nat.reduceMul,Nat.reduceEqDiff,Nat.reduceBEq,Nat.reduceMod,Nat.reduceDiv,↓reduceIte,reduceCtorEq]
  repeat' (refine bO (fun h=>?_) (fun h=>?_) <;> simp only [h,List.length_map,List.getElem?_map,hd,hx,ht,h0,hn,rN,tX,go_sem,Nat.reduceAdd,Nat.reduceMul,Nat.reduceEqDiff,Nat.reduceBEq,Nat.reduceMod,Nat.reduceDiv,↓reduceIte,reduceCtorEq])
  ·rw [V8 hP hx (CW.mpr (of_decide_eq_true (by assumption))) h];rfl
  ·exact all_succ hP hx (fun e=>by rw [h] at e;cases e.2)
  ·exact all_succ hP hx (fun e=>of_decide_eq_false h (CW.mp e.1))
 ·have hd:=@end_ _ s.l
  rw [List.take_length] at hP
  simp only [List.length_map,hd,go_sem,Nat.reduceAdd,Nat.reduceMul,Nat.reduceEqDiff,Nat.reduceBEq,Nat.reduceMod,Nat.reduceDiv,↓reduceIte,reduceCtorEq]
  repeat' (refine bO (fun h=>?_) (fun h=>?_) <;> simp only [h,List.length_map,hd,go_sem,Nat.reduceAdd,Nat.reduceMul,Nat.reduceEqDiff,Nat.reduceBEq,Nat.reduceMod,Nat.reduceDiv,↓reduceIte,reduceCtorEq])
  rw [M6 hP];rfl
def uf (s:Rn) (now:Int) (k:Qn):Nt × Bool:=match M5 s.l now k.w with
 | some x=>(x,true)
 | none=>M7 (M5 s.l now k)
theorem EY (s:Rn) (now:Int) (k:Qn) (hl:s.l.length ≤ 1000000000) (hF:200000000000001 ≤ F):G ext F (n + 4) 45 [s.v,vi now,k.v] = some ([(uf s now k).1.v,vb (uf s now k).2],[s.v,vi now,k.v]):=by
 refine eH (cf:=MN) rfl ?_
 have h1:=fun n=>M8 (ext:=ext) (F:=F) (n:=n) s now k.w hl hF
 have h2:=fun n=>M8 (ext:=ext) (F:=F) (n:=n) s now k hl hF
 unfold uf
 cases h:M5 s.l now k.w with
 | none =>
  rw [h] at h1
  simp only [M7,O7,List.map_nil] at h1
  simp only [MN,h1,h2,go_sem,Nat.reduceAdd,Nat.reduceMul,Nat.reduceEqDiff,Nat.reduceBEq,Nat.reduceMod,Nat.reduceDiv,↓reduceIte,reduceCtorEq]
 | some x =>
  rw [h] at h1
  simp only [M7] at h1
  simp only [MN,h1,go_sem,Nat.reduceAdd,Nat.reduceMul,Nat.reduceEqDiff,Nat.reduceBEq,Nat.reduceMod,Nat.reduceDiv,↓reduceIte,reduceCtorEq]
theorem EZ (s:Rn) (hl:s.l.length ≤ 1000000000) (hF:200000000000001 ≤ F):G ext F (n + 1) 52 [s.v] = some ([.one (.f (.sl ((s.l.map Nt.k).map rQ)))],[s.v]):=by
 refine eH (cf:=c52) rfl ?_
 simp only [c52,go_sem,Nat.reduceAdd,Nat.reduceMul,Nat.reduceEqDiff,Nat.reduceBEq,Nat.reduceMod,Nat.reduceDiv,↓reduceIte,reduceCtorEq]
 refine lU s.l.length (fun i=>⟨[(1,PV.c (CV.one (PL.ptr 40000 0))),(3,PV.c (CV.one (PL.own 80000 (((s.l.take i).map Nt.k).map rQ).length))),(4,PV.c (CV.one (PL.f (FV.int IntKind.i64 i))))],[(40000,Ob.lC [PL.f (FV.int IntKind.i64 s.room),PL.f (FV.sl (List.map rN s.l)),PL.f (FV.int IntKind.i64 s.ch)]),(80000,Ob.row 3 (((s.l.take i).map Nt.k).map rQ))]⟩) (fun i=>True) (by omega) rfl trivial (fun i hi hP=>?_) (fun hP=>?_)
 ·obtain ⟨x,hx,hd,ht,h0⟩:=at_ hi
  have hn:=nx hi (Nat.le_trans hl (by decide))
  have hw:(s.l.take i).length = i:=by simp;omega
  have hs:((s.l.take (i + 1)).map Nt.k).map rQ = ((s.l.take i).map Nt.k).map rQ ++ [[.str x.k.q,.int .i64 x.k.t,.int .i64 x.k.c]]:=by rw [List.take_add_one,hx];simp [rQ]
  simp only [List.length_map,List.getElem?_map,hd,hx,ht,h0,rN,hw,go_sem,Nat.reduceAdd,Nat.reduceMul,Nat.reduceEqDiff,Nat.reduceBEq,Nat.reduceMod,Nat.reduceDiv,↓reduceIte,reduceCtorEq]
  repeat' (refine bO (fun h=>?_) (fun h=>?_) <;> simp only [h,List.length_map,List.getElem?_map,hd,hx,ht,h0,hn,rN,hw,go_sem,Nat.reduceAdd,Nat.reduceMul,Nat.reduceEqDiff,Nat.reduceBEq,Nat.reduceMod,Nat.reduceDiv,↓reduceIte,reduceCtorEq])
  rw [hs]
  have hn':IntKind.i64.wrap ((i:Int) + 1) = i + 1:=by rw [hn];omega
  exact ⟨by omega,by simp [hw];omega⟩
 ·have hd:=@end_ _ s.l
  simp only [List.length_map,hd,go_sem,Nat.reduceAdd,Nat.reduceMul,Nat.reduceEqDiff,Nat.reduceBEq,Nat.reduceMod,Nat.reduceDiv,↓reduceIte,reduceCtorEq]
  repeat' (refine bO (fun h=>?_) (fun h=>?_) <;> simp only [h,List.length_map,hd,go_sem,Nat.reduceAdd,Nat.reduceMul,Nat.reduceEqDiff,Nat.reduceBEq,Nat.reduceMod,Nat.reduceDiv,↓reduceIte,reduceCtorEq])
  rw [List.take_length]
abbrev kn (nx:Bool) (k:Qn):Qn:=if nx then k.w else k
def z8 (room:Int) (l:List Nt):List Nt:=if room < l.length then l.drop 1 else l
def Th.narg (θ:Th) (gt:ByteArray → Int → Int → Int × Bool) (s:Rn) (now:Int) (k:Qn) (x:Se):Prop:=s.room = 0 ∨ AY now = false ∨ (lF θ gt x).2 = false ∨ θ.key k.q k.t k.c = false ∨ k.t = 0
instance {s : Rn} {now:Int} {k:Qn} {x:Se}:Decidable (θ.narg gt s now k x):=by unfold Th.narg;infer_instance
def nA (θ:Th) (gt:ByteArray → Int → Int → Int × Bool) (s:Rn) (now:Int) (k:Qn) (nx:Bool) (x:Se):Rn × Int :=
 if θ.narg gt s now k x then (s,1)
 else if iM now (fu now (lF θ gt x).1) = false then (s,14)
 else (⟨s.room,z8 s.room (IV s.l (kn nx k) ++ [⟨kn nx k,nx,x,fu now (lF θ gt x).1⟩]),s.ch + 1⟩,0)
theorem CX {s:Rn} {now:Int} {k:Qn} {nx:Bool} {x:Se} (h:θ.narg gt s now k x):nA θ gt s now k nx x = (s,1):=if_pos h
theorem E5 {s:Rn} {now:Int} {k:Qn} {nx:Bool} {x:Se} (h:¬ θ.narg gt s now k x) (h2:iM now (fu now (lF θ gt x).1) = false):nA θ gt s now k nx x = (s,14):=by unfold nA;rw [if_neg h,if_pos h2]
theorem ug {s:Rn} {now:Int} {k:Qn} {nx:Bool} {x:Se} {l:List Nt} (h:¬ θ.narg gt s now k x) (h2:iM now (fu now (lF θ gt x).1) = true) (hl:z8 s.room (IV s.l (kn nx k) ++ [⟨kn nx k,nx,x,fu now (lF θ gt x).1⟩]) = l):nA θ gt s now k nx x = (⟨s.room,l,s.ch + 1⟩,0):=by
 subst hl;unfold nA;rw [if_neg h,if_neg (by rw [h2];decide)]
theorem M9 {room:Int} {l:List Nt} {x:Nt} (h:room < ((l.length + 1:Nat):Int)):z8 room (l ++ [x]) = (l ++ [x]).drop 1:=by
 unfold z8;rw [if_pos (by simpa using h)]
theorem Na {room:Int} {l:List Nt} {x:Nt} (h:¬ room < ((l.length + 1:Nat):Int)):z8 room (l ++ [x]) = l ++ [x]:=by
 unfold z8;rw [if_neg (by simpa using h)]
theorem Bb {a:List (List FV)} {b:List FV} {n:Nat} (h:a.length = n):List.take (n + 1 - Int.toNat 1) (List.drop (Int.toNat 1) (a ++ [b])) = (a ++ [b]).drop 1:=by
 rw [show Int.toNat 1 = 1 from rfl,List.take_of_length_le (by simp [h])]
theorem E8 (T:θ.Ok ext) (O:zZ gt ext) (s:Rn) (now:Int) (k:Qn) (nx:Bool) (x:Se) (hl:s.l.length ≤ 1000000) (hF:200000000000001 ≤ F) (hc:0 ≤ s.ch ∧ s.ch ≤ 1000000000000) (hk:k.q.size ≤ 1000000) (hq:x.q.size ≤ 1000000) (hn:x.d.length ≤ 1000000) (hd:∀ y ∈ x.d,y.size ≤ 1000000):G ext F (n + 5) 43 [s.v,vi now,k.v,vb nx,x.v] = some ([(nA θ gt s now k nx x).1.v,vi (nA θ gt s now k nx x).2],[s.v,vi now,k.v,vb nx,x.v]):=by
 refine eH (cf:=c43) rfl ?_
 have h1:=fun n=>pK (F:=F) (n:=n) T O x hF hq hn hd
 have h2:=fun n=>EO (ext:=ext) (F:=F) (n:=n) T k.q k.t k.c hk
 have h3:=fun n=>EX (ext:=ext) (F:=F) (n:=n) s.l (kn nx k) (by omega) hF
 have hr:=@IW s.l (kn nx k)
 have hw:IntKind.i64.wrap (s.ch + 1) = s.ch + 1:=vL (by omega) (by omega)
 have hsz:((IV s.l (kn nx k)).length + 1) * 112 ≤ 140737488355328:=by omega
 generalize hm1:(lF θ gt x).1 = m1 at h1
 cases hm2:(lF θ gt x).2 with
 | false =>
  rw [hm2] at h1
  have e:nA θ gt s now k nx x = (s,1):=by unfold nA;exact if_pos (.inr (.inr (.inl hm2)))
  rw [e]
  simp only [c43,h1,nu,go_sem,Nat.reduceAdd,Nat.reduceMul,Nat.reduceEqDiff,Nat.reduceBEq,Nat.reduceMod,Nat.reduceDiv,↓reduceIte,reduceCtorEq]
  repeat' (refine bO (fun h=>?_) (fun h=>?_) <;> simp only [h,h1,nu,go_sem,Nat.reduceAdd,Nat.reduceMul,Nat.reduceEqDiff,Nat.reduceBEq,Nat.reduceMod,Nat.reduceDiv,↓reduceIte,reduceCtorEq])
 | true =>
  rw [hm2] at h1
  cases nx
  all_goals
   simp only [kn,if_true,if_false,Bool.false_eq_true] at h3 hr hsz
   simp only [c43,h1,h2,h3,nu,A8,tX,go_sem,Nat.reduceAdd,Nat.reduceMul,Nat.reduceEqDiff,Nat.reduceBEq,Nat.reduceMod,Nat.reduceDiv,↓reduceIte,reduceCtorEq]
   repeat' (refine bO (fun h=>?_) (fun h=>?_) <;> simp only [h,h1,h2,h3,nu,A8,tX,List.length_append,List.length_map,hw,hsz,go_sem,Nat.reduceAdd,Nat.reduceMul,Nat.reduceEqDiff,Nat.reduceBEq,Nat.reduceMod,Nat.reduceDiv,↓reduceIte,reduceCtorEq])
  all_goals clear h1 h2 h3
  all_goals simp only [decide_eq_true_eq,decide_eq_false_iff_not] at *
  all_goals first
   | (rw [CX (by unfold Th.narg;simp [*])];done)
   | (rw [E5 (by unfold Th.narg;simp [*]) (by rw [hm1];assumption)];done)
   | (rw [ug (nx:=false) (by unfold Th.narg;simp [*]) (by rw [hm1];assumption) (M9 (by simp only [kn,if_true,if_false,Bool.false_eq_true];omega))];refine ⟨by omega,?_⟩;rw [Bb (List.length_map _)];simp [rN,hm1,kn])
   | (rw [ug (nx:=false) (by unfold Th.narg;simp [*]) (by rw [hm1];assumption) (Na (by simp only [kn,if_true,if_false,Bool.false_eq_true];omega))];try (simp [rN,hm1,kn]);done)
   | (rw [ug (nx:=true) (by unfold Th.narg;simp [*]) (by rw [hm1];assumption) (M9 (by simp only [kn,if_true,if_false,Bool.false_eq_true];omega))];refine ⟨by omega,?_⟩;rw [Bb (List.length_map _)];simp [rN,hm1,kn])
   | (rw [ug (nx:=true) (by unfold Th.narg;simp [*]) (by rw [hm1];assumption) (Na (by simp only [kn,if_true,if_false,Bool.false_eq_true];omega))];try (simp [rN,hm1,kn]);done)
def pO (s:Rn) (q:ByteArray):Rn × Int :=
 let l:=s.l.filter fun x=>decide (x.k.q ≠ q)
 (⟨s.room,l,if 0 < (s.l.length:Int) - l.length then s.ch + 1 else s.ch⟩,(s.l.length:Int) - l.length)
abbrev qf (l:List Nt) (q:ByteArray):List Nt:=l.filter fun x=>decide (x.k.q ≠ q)
theorem QB {l:List Nt} {q:ByteArray} {i:Nat} {x:Nt} (h:l[i]? = some x):qf (l.take (i + 1)) q = qf (l.take i) q ++ if x.k.q = q then [] else [x]:=by
 unfold qf
 rw [List.take_add_one,h,List.filter_append]
 by_cases hk:x.k.q = q <;> simp [hk]
theorem Nb {l:List Nt} {q:ByteArray}:(qf l q).length ≤ l.length:=List.length_filter_le ..
theorem Bc (s:Rn) (q:ByteArray) (hl:s.l.length ≤ 1000000) (hF:200000000000001 ≤ F) (hc:0 ≤ s.ch ∧ s.ch ≤ 1000000000000):G ext F (n + 1) 49 [s.v,vs q] = some ([(pO s q).1.v,vi (pO s q).2],[s.v,vs q]):=by
 refine eH (cf:=c49) rfl ?_
 have hw:IntKind.i64.wrap (s.ch + 1) = s.ch + 1:=vL (by omega) (by omega)
 have hle:=@Nb s.l q
 have hw2:IntKind.i64.wrap ((s.l.length:Int) - (qf s.l q).length) = (s.l.length:Int) - (qf s.l q).length:=vL (by omega) (by omega)
 simp only [c49,go_sem,Nat.reduceAdd,Nat.reduceMul,Nat.reduceEqDiff,Nat.reduceBEq,Nat.reduceMod,Nat.reduceDiv,↓reduceIte,reduceCtorEq]
 refine lU s.l.length (fun i=>⟨[(1,PV.c (CV.one (PL.f (FV.str q)))),(2,PV.c (CV.one (PL.ptr 60000 0))),(4,PV.c (CV.one (PL.ptr 100000 0))),(6,PV.c (CV.one (PL.own 140000 ((qf (s.l.take i) q).map rN).length))),(7,PV.c (CV.one (PL.f (FV.int IntKind.i64 i))))],[(60000,Ob.lC [PL.f (FV.int IntKind.i64 s.room),PL.f (FV.sl (List.map rN s.l)),PL.f (FV.int IntKind.i64 s.ch)]),(100000,Ob.lC [PL.f (FV.int IntKind.i64 0),PL.fF,PL.f (FV.int IntKind.i64 0)]),(140000,Ob.row 10 ((qf (s.l.take i) q).map rN))]⟩) (fun i=>True) (by omega) rfl trivial (fun i hi hP=>?_) (fun hP=>?_)
 ·obtain ⟨x,hx,hd,ht,h0⟩:=at_ hi
  have hn:=nx hi (by omega)
  have hw:(qf (s.l.take i) q).length ≤ i:=Nat.le_trans Nb (by simp;omega)
  simp only [List.length_map,List.getElem?_map,hd,hx,ht,h0,rN,go_sem,Nat.reduceAdd,Nat.reduceMul,Nat.reduceEqDiff,Nat.reduceBEq,Nat.reduceMod,Nat.reduceDiv,↓reduceIte,reduceCtorEq]
  repeat' (refine bO (fun h=>?_) (fun h=>?_) <;> simp only [h,List.length_map,List.getElem?_map,hd,hx,ht,h0,hn,rN,go_sem,Nat.reduceAdd,Nat.reduceMul,Nat.reduceEqDiff,Nat.reduceBEq,Nat.reduceMod,Nat.reduceDiv,↓reduceIte,reduceCtorEq])
  all_goals (rw [QB hx];simp only [decide_eq_true_eq,decide_eq_false_iff_not] at h)
  ·rw [if_pos h];simp
  ·rw [if_neg h,List.map_append,List.length_append];exact ⟨by omega,rfl⟩
 ·have hd:=@end_ _ s.l
  rw [List.take_length]
  simp only [List.length_map,hd,hw2,go_sem,Nat.reduceAdd,Nat.reduceMul,Nat.reduceEqDiff,Nat.reduceBEq,Nat.reduceMod,Nat.reduceDiv,↓reduceIte,reduceCtorEq]
  repeat' (refine bO (fun h=>?_) (fun h=>?_) <;> simp only [h,List.length_map,hd,hw2,hw,go_sem,Nat.reduceAdd,Nat.reduceMul,Nat.reduceEqDiff,Nat.reduceBEq,Nat.reduceMod,Nat.reduceDiv,↓reduceIte,reduceCtorEq])
  all_goals simp only [decide_eq_true_eq,decide_eq_false_iff_not] at *
  ·simp only [pO];rw [if_pos h]
  ·simp only [pO];rw [if_neg h]
end Go.Proofs.Ytdkkgecdhapfhaa.Kn
set_option maxRecDepth 4000
namespace Go.Proofs.Ytdkkgecdhapfhaa.Kn
open Go Ev
variable {ext : Env} {F n:Nat} {θ:Th} {gt:ByteArray → Int → Int → Int × Bool}
def nof (m:List Nt) (now:Int) (k:Qn):Option Nt:=match old m k with
 | some x=>if iM now x.u then some x else none
 | none=>none
def kS (s:Nv) (now:Int) (k:Qn):Nt × Bool:=match nof s.m now k.w with
 | some x=>(x,true)
 | none=>M7 (nof s.m now k)
theorem GN (now:Int) (k:Qn):G ext F (n + 3) 46 [.one .jd,vi now,k.v] = some ([O7.v,vb false],[.one .jd,vi now,k.v]):=by
 refine eH (cf:=c46) rfl ?_
 simp only [c46,go_sem,Nat.reduceAdd,Nat.reduceMul,Nat.reduceEqDiff,Nat.reduceBEq,Nat.reduceMod,Nat.reduceDiv,↓reduceIte,reduceCtorEq]
 rfl
theorem uh (C:qR ext) (s:Nv) (now:Int) (k:Qn) (hF:200000000000001 ≤ F) (hd:∀ x ∈ s.m,x.s.d.length ≤ 1000000):G ext F (n + 3) 46 [s.v,vi now,k.v] = some ([(kS s now k).1.v,vb (kS s now k).2],[s.v,vi now,k.v]):=by
 refine eH (cf:=c46) rfl ?_
 have hw:=fun n=>ET (ext:=ext) (F:=F) (n:=n) k
 simp only [c46,hw,go_sem,Nat.reduceAdd,Nat.reduceMul,Nat.reduceEqDiff,Nat.reduceBEq,Nat.reduceMod,Nat.reduceDiv,↓reduceIte,reduceCtorEq]
 refine lU 2 (fun i=>⟨[(0,PV.c (CV.one (PL.ptr 20201 0))),(1,PV.c (CV.one (PL.f (FV.int IntKind.i64 now)))),(6,PV.c (CV.one (PL.ptr 140000 0))),(18,PV.c (CV.one (PL.own 380000 2))),(19,PV.c (CV.one (PL.f (FV.int IntKind.i64 ((2:Nat):Int))))),(20,PV.c (CV.one (PL.f (FV.int IntKind.i64 (i:Int)))))],[(20201,Ob.lC [PL.f (FV.int IntKind.i64 s.room),PL.mp 20205,PL.f (FV.sl (List.map rQ s.o)),PL.f (FV.int IntKind.i64 s.ch)]),(20205,Ob.map MW (List.map ent s.m)),(140000,Ob.lC [PL.f (FV.str ⟨#[]⟩),PL.f (FV.int IntKind.i64 0),PL.f (FV.int IntKind.i64 0),PL.f (FV.bool false),PL.f (FV.str ⟨#[]⟩),PL.f (FV.int IntKind.i64 0),PL.f (FV.int IntKind.i64 0),PL.fF,PL.f (FV.int IntKind.i64 0),PL.f (FV.int IntKind.i64 0)]),(380000,Ob.row 3 [[FV.str k.q,FV.int IntKind.i64 0,FV.int IntKind.i64 k.c],[FV.str k.q,FV.int IntKind.i64 k.t,FV.int IntKind.i64 k.c]])]⟩) (fun i=>(1 ≤ i → nof s.m now k.w = none) ∧ (2 ≤ i → nof s.m now k = none)) (by omega) rfl ⟨by omega,by omega⟩ (fun i hi hP=>?_) (fun hP=>?_)
 ·rcases (show i = 0 ∨ i = 1 by omega) with rfl | rfl
  ·skip
   have hlt:decide (((0:Nat):Int) < ((2:Nat):Int)) = true:=by decide
   have ht:((0:Nat):Int).toNat = 0:=rfl
   have h0:(0:Int) ≤ ((0:Nat):Int):=by decide
   have hn':IntKind.i64.wrap (((0:Nat):Int) + 1) = ((0 + 1:Nat):Int):=by rw [vL (by omega) (by omega)];rfl
   have hk1:=ER s.m k.w
   simp only [kq] at hk1
   have hcl:=fun n x hx=>nP (F:=F) (n:=n) C x hx
   cases hold:old s.m k.w with
   | none =>
    rw [hold] at hk1
    simp only [hlt,ht,h0,hn',List.getElem?_cons_zero,List.getElem?_cons_succ,hk1,Option.map_none,Option.isSome_none,go_sem,Nat.reduceAdd,Nat.reduceMul,Nat.reduceEqDiff,Nat.reduceBEq,Nat.reduceMod,Nat.reduceDiv,↓reduceIte,reduceCtorEq]
    first | exact ⟨by decide,fun _=>by unfold nof;simp [hold, *],by omega⟩ | exact ⟨by decide,rfl,fun _=>by unfold nof;simp [hold, *],by omega⟩
   | some x =>
    rw [hold] at hk1
    have hcl:=fun n=>nP (F:=F) (n:=n) C x (hd x (xB hold).2)
    cases hv:iM now x.u with
    | false =>
     simp only [hlt,ht,h0,hn',List.getElem?_cons_zero,List.getElem?_cons_succ,hk1,Option.map_some,Option.isSome_some,rN,qA,hv,go_sem,Nat.reduceAdd,Nat.reduceMul,Nat.reduceEqDiff,Nat.reduceBEq,Nat.reduceMod,Nat.reduceDiv,↓reduceIte,reduceCtorEq]
     first | exact ⟨by decide,fun _=>by unfold nof;simp [hold, *],by omega⟩ | exact ⟨by decide,rfl,fun _=>by unfold nof;simp [hold, *],by omega⟩
    | true =>
     simp only [hlt,ht,h0,hn',List.getElem?_cons_zero,List.getElem?_cons_succ,hk1,Option.map_some,Option.isSome_some,rN,qA,hv,hcl,go_sem,Nat.reduceAdd,Nat.reduceMul,Nat.reduceEqDiff,Nat.reduceBEq,Nat.reduceMod,Nat.reduceDiv,↓reduceIte,reduceCtorEq]
     have e:kS s now k = (x,true):=by unfold kS nof;rw [hold];simp [hv]
     rw [e]
     exact ⟨by decide,rfl⟩
  ·have hp:=hP.1 (by decide)
   have hlt:decide (((1:Nat):Int) < ((2:Nat):Int)) = true:=by decide
   have ht:((1:Nat):Int).toNat = 1:=rfl
   have h0:(0:Int) ≤ ((1:Nat):Int):=by decide
   have hn':IntKind.i64.wrap (((1:Nat):Int) + 1) = ((1 + 1:Nat):Int):=by rw [vL (by omega) (by omega)];rfl
   have hk1:=ER s.m k
   simp only [kq] at hk1
   have hcl:=fun n x hx=>nP (F:=F) (n:=n) C x hx
   cases hold:old s.m k with
   | none =>
    rw [hold] at hk1
    simp only [hlt,ht,h0,hn',List.getElem?_cons_zero,List.getElem?_cons_succ,hk1,Option.map_none,Option.isSome_none,go_sem,Nat.reduceAdd,Nat.reduceMul,Nat.reduceEqDiff,Nat.reduceBEq,Nat.reduceMod,Nat.reduceDiv,↓reduceIte,reduceCtorEq]
    first | exact ⟨by decide,fun _=>hp,fun _=>by unfold nof;simp [hold, *]⟩ | exact ⟨by decide,rfl,fun _=>hp,fun _=>by unfold nof;simp [hold, *]⟩
   | some x =>
    rw [hold] at hk1
    have hcl:=fun n=>nP (F:=F) (n:=n) C x (hd x (xB hold).2)
    cases hv:iM now x.u with
    | false =>
     simp only [hlt,ht,h0,hn',List.getElem?_cons_zero,List.getElem?_cons_succ,hk1,Option.map_some,Option.isSome_some,rN,qA,hv,go_sem,Nat.reduceAdd,Nat.reduceMul,Nat.reduceEqDiff,Nat.reduceBEq,Nat.reduceMod,Nat.reduceDiv,↓reduceIte,reduceCtorEq]
     first | exact ⟨by decide,fun _=>hp,fun _=>by unfold nof;simp [hold, *]⟩ | exact ⟨by decide,rfl,fun _=>hp,fun _=>by unfold nof;simp [hold, *]⟩
    | true =>
     simp only [hlt,ht,h0,hn',List.getElem?_cons_zero,List.getElem?_cons_succ,hk1,Option.map_some,Option.isSome_some,rN,qA,hv,hcl,go_sem,Nat.reduceAdd,Nat.reduceMul,Nat.reduceEqDiff,Nat.reduceBEq,Nat.reduceMod,Nat.reduceDiv,↓reduceIte,reduceCtorEq]
     have e:kS s now k = (x,true):=by unfold kS;rw [hp];unfold nof;rw [hold];simp [hv,M7]
     rw [e]
     exact ⟨by decide,rfl⟩
 ·have hp1:=hP.1 (by decide)
  have hp2:=hP.2 (by decide)
  have hlt:decide (((2:Nat):Int) < ((2:Nat):Int)) = false:=by decide
  have e:kS s now k = (O7,false):=by unfold kS;rw [hp1,hp2];rfl
  rw [e]
  simp only [hlt,go_sem,Nat.reduceAdd,Nat.reduceMul,Nat.reduceEqDiff,Nat.reduceBEq,Nat.reduceMod,Nat.reduceDiv,↓reduceIte,reduceCtorEq]
  rfl
def jV (θ:Th) (gt:ByteArray → Int → Int → Int × Bool) (s:Nv) (now:Int) (k:Qn) (nx:Bool) (x:Se):Nv × Int :=
 if (lF θ gt x).2 = false ∨ fu now (lF θ gt x).1 = -1 ∨ θ.ask k = false then (s,1)
 else if iM now (fu now (lF θ gt x).1) = false then (s,14)
 else
  let t:=wB s.o (kn nx k) ++ [kn nx k]
  (⟨s.room,(t.take (t.length - s.room.toNat)).foldl rid (upd s.m ⟨kn nx k,nx,x,fu now (lF θ gt x).1⟩),t.drop (t.length - s.room.toNat),s.ch + 1⟩,0)
theorem Kh (T:θ.Ok ext) (O:zZ gt ext) (now:Int) (k:Qn) (nx:Bool) (x:Se) (hF:200000000000001 ≤ F) (hq:x.q.size ≤ 1000000) (hn:x.d.length ≤ 1000000) (hd:∀ y ∈ x.d,y.size ≤ 1000000):G ext F (n + 6) 44 [.one .jd,vi now,k.v,vb nx,x.v] = some ([vi 1],[.one .jd,vi now,k.v,vb nx,x.v]):=by
 refine eH (cf:=zO) rfl ?_
 have h1:=fun n=>kY (F:=F) (n:=n) T O x hF hq hn hd
 have hu:=fun n t=>EH (ext:=ext) (F:=F) (n:=n) now t
 simp only [zO,h1,hu,go_sem,Nat.reduceAdd,Nat.reduceMul,Nat.reduceEqDiff,Nat.reduceBEq,Nat.reduceMod,Nat.reduceDiv,↓reduceIte,reduceCtorEq]
theorem uj (T:θ.Ok ext) (O:zZ gt ext) (C:qR ext) (s:Nv) (now:Int) (k:Qn) (kC:Bool) (x:Se) (hF:200000000000001 ≤ F) (hr1:0 ≤ s.room ∧ s.room ≤ 1000000) (hc:0 ≤ s.ch ∧ s.ch ≤ 1000000000000) (ho:s.o.length ≤ 100000) (hk:k.q.size ≤ 1000000) (hq:x.q.size ≤ 1000000) (hn:x.d.length ≤ 1000000) (hd:∀ y ∈ x.d,y.size ≤ 1000000):G ext F (n + 6) 44 [s.v,vi now,k.v,vb kC,x.v] = some ([vi (jV θ gt s now k kC x).2],[(jV θ gt s now k kC x).1.v,vi now,k.v,vb kC,x.v]):=by
 refine eH (cf:=zO) rfl ?_
 have h1:=fun n=>kY (F:=F) (n:=n) T O x hF hq hn hd
 have h2:=fun n=>M0 (F:=F) (n:=n) T k hk
 have hu:=fun n t=>EH (ext:=ext) (F:=F) (n:=n) now t
 cases hm2:(lF θ gt x).2 with
 | false =>
  rw [hm2] at h1
  have e:jV θ gt s now k kC x = (s,1):=by unfold jV;exact if_pos (.inl hm2)
  rw [e]
  simp only [zO,h1,hu,go_sem,Nat.reduceAdd,Nat.reduceMul,Nat.reduceEqDiff,Nat.reduceBEq,Nat.reduceMod,Nat.reduceDiv,↓reduceIte,reduceCtorEq]
 | true =>
 rw [hm2] at h1
 by_cases hun:fu now (lF θ gt x).1 = -1
 ·have e:jV θ gt s now k kC x = (s,1):=by unfold jV;exact if_pos (.inr (.inl hun))
  rw [e]
  have hun':decide (fu now (lF θ gt x).1 = -1) = true:=decide_eq_true hun
  simp only [zO,h1,hu,hun',go_sem,Nat.reduceAdd,Nat.reduceMul,Nat.reduceEqDiff,Nat.reduceBEq,Nat.reduceMod,Nat.reduceDiv,↓reduceIte,reduceCtorEq]
 have hun':decide (fu now (lF θ gt x).1 = -1) = false:=decide_eq_false hun
 cases ha:θ.ask k with
 | false =>
  have e:jV θ gt s now k kC x = (s,1):=by unfold jV;exact if_pos (.inr (.inr ha))
  rw [e]
  rw [ha] at h2
  simp only [zO,h1,h2,hu,hun',go_sem,Nat.reduceAdd,Nat.reduceMul,Nat.reduceEqDiff,Nat.reduceBEq,Nat.reduceMod,Nat.reduceDiv,↓reduceIte,reduceCtorEq]
 | true =>
 rw [ha] at h2
 have hno:¬ ((lF θ gt x).2 = false ∨ fu now (lF θ gt x).1 = -1 ∨ θ.ask k = false):=by rw [hm2,ha];simp [hun]
 cases hl:iM now (fu now (lF θ gt x).1) with
 | false =>
  have e:jV θ gt s now k kC x = (s,14):=by unfold jV;rw [if_neg hno,if_pos hl]
  rw [e]
  simp only [zO,h1,h2,hu,hun',qA,hl,go_sem,Nat.reduceAdd,Nat.reduceMul,Nat.reduceEqDiff,Nat.reduceBEq,Nat.reduceMod,Nat.reduceDiv,↓reduceIte,reduceCtorEq]
 | true =>
 have e:jV θ gt s now k kC x = (⟨s.room,((wB s.o (kn kC k) ++ [kn kC k]).take ((wB s.o (kn kC k) ++ [kn kC k]).length - s.room.toNat)).foldl rid (upd s.m ⟨kn kC k,kC,x,fu now (lF θ gt x).1⟩),(wB s.o (kn kC k) ++ [kn kC k]).drop ((wB s.o (kn kC k) ++ [kn kC k]).length - s.room.toNat),s.ch + 1⟩,0):=by
  unfold jV;rw [if_neg hno,if_neg (by rw [hl];decide)]
 rw [e]
 have hu':=fun n=>hu n (lF θ gt x).1
 generalize fu now (lF θ gt x).1 = u at hu' hun' hl ⊢
 have hw:IntKind.i64.wrap (s.ch + 1) = s.ch + 1:=vL (by omega) (by omega)
 have hwh:=fun n=>ET (ext:=ext) (F:=F) (n:=n) k
 have hcl:=fun n=>nP (ext:=ext) (F:=F) (n:=n) C ⟨kn kC k,kC,x,u⟩ hn
 have hqq:=@xA s.o (kn kC k)
 have ht:=fun n=>MV (ext:=ext) (F:=F) (n:=n) C s.o (kn kC k) (by omega) hF
 have hct:=fun n=>V4 (ext:=ext) (F:=F) (n:=n) C (wB s.o (kn kC k) ++ [kn kC k]) s.room (by simp;omega) (by omega) hF
 have hup:=MX s.m ⟨kn kC k,kC,x,u⟩
 simp only [kq,rN] at hup
 generalize hqt:wB s.o (kn kC k) ++ [kn kC k] = t at ht hct ⊢
 generalize t.drop (t.length - s.room.toNat) = td at hct ⊢
 generalize htt:t.take (t.length - s.room.toNat) = tt at hct ⊢
 have htl:tt.length ≤ 1000000:=by rw [← htt,List.length_take,← hqt,List.length_append,List.length_singleton];omega
 generalize hM:upd s.m ⟨kn kC k,kC,x,u⟩ = M at hup ⊢
 cases kC
 all_goals
  simp only [kn,if_true,if_false,Bool.false_eq_true] at hup ht hct hcl
  simp only [zO,h1,h2,hu',hun',qA,hl,hwh,hcl,ht,hct,hup,hw,go_sem,Nat.reduceAdd,Nat.reduceMul,Nat.reduceEqDiff,Nat.reduceBEq,Nat.reduceMod,Nat.reduceDiv,↓reduceIte,reduceCtorEq]
  refine lU tt.length (fun i=>⟨[(0,PV.c (CV.one (PL.ptr 20201 0))),(14,PV.c (CV.one (PL.f (FV.sl (List.map rQ td))))),(75,PV.c (CV.one (PL.f (FV.sl (List.map rQ tt))))),(76,PV.c (CV.one (PL.f (FV.int IntKind.i64 ↑(List.map rQ tt).length)))),(77,PV.c (CV.one (PL.f (FV.int IntKind.i64 i))))],[(20201,Ob.lC [PL.f (FV.int IntKind.i64 s.room),PL.mp 20205,PL.f (FV.sl (List.map rQ s.o)),PL.f (FV.int IntKind.i64 s.ch)]),(20205,Ob.map MW (((tt.take i).foldl rid M).map ent))]⟩) (fun _=>True) (by omega) rfl trivial (fun i hi _=>?_) (fun _=>?_)
  ·obtain ⟨k',hx,hlt,hit,h00⟩:=at_ hi
   have hn':=nx hi (by omega)
   have hdl:=ES ((tt.take i).foldl rid M) k'
   have hfo:(tt.take (i + 1)).foldl rid M = rid ((tt.take i).foldl rid M) k':=by rw [List.take_add_one,hx,List.foldl_append];rfl
   simp only [List.length_map,List.getElem?_map,hlt,hx,hit,h00,hn',rQ,hdl,go_sem,Nat.reduceAdd,Nat.reduceMul,Nat.reduceEqDiff,Nat.reduceBEq,Nat.reduceMod,Nat.reduceDiv,↓reduceIte,reduceCtorEq]
   rw [hfo]
  ·have hd:=@end_ _ tt
   simp only [List.length_map,hd,hw,List.take_length,go_sem,Nat.reduceAdd,Nat.reduceMul,Nat.reduceEqDiff,Nat.reduceBEq,Nat.reduceMod,Nat.reduceDiv,↓reduceIte,reduceCtorEq]
end Go.Proofs.Ytdkkgecdhapfhaa.Kn
namespace Go.Proofs.Ytdkkgecdhapfhaa.Ev
open Go Go.RowKit
def Ym : SV → TV
 | .int k n=>.f (.int k n)
 | .bool b=>.f (.bool b)
 | .str s=>.f (.str s)
def IX (l:List SV):List AV:=l.map fun x=>.one (Ym x)
section
variable {P : Program} {Fz:Nat → Prop} {w:World}
theorem IY {x:SV} {v:Value} {bs:List Nat}:nN Fz w (Ym x) v bs ↔ v = encS x ∧ bs = []:=by
 cases x <;> simp only [Ym,nN,eZ,encS]
theorem E9 : ∀ {l:List SV} {vs:List Value} {bs:List Nat},fT Fz w (IX l) vs bs → vs = l.map encS ∧ bs = []
 | [],[],_,h=>⟨rfl,h⟩
 | [],_ :: _,_,h=>h.elim
 | _ :: _,[],_,h=>h.elim
 | x :: l,v :: vs,_,⟨b1,b2,h1,h2,e⟩=>by
  obtain ⟨e1,e2⟩:=IY.mp h1
  obtain ⟨e3,e4⟩:=E9 (l:=l) h2
  subst e1;subst e2;subst e3;subst e4
  exact ⟨rfl,by rw [e];rfl⟩
theorem yO : ∀ {l:List SV},fT Fz w (IX l) (l.map encS) []
 | []=>rfl
 | x :: l=>⟨[],[],IY.mpr ⟨rfl,rfl⟩,yO (l:=l),rfl⟩
theorem Sat.wM {f:FuncId} {g:List AV → Option (List AV × List AV)} (h:∀ gu r,g gu = some r → ∃ ZZ9 rs:List SV,gu = IX ZZ9 ∧ r = (IX rs,IX ZZ9) ∧
  ∀ w:World,Calls P f (ZZ9.map encS).toArray w fun e w'=>e = .returned (ret (rs.map encS)) ∧ Below w.heap.size w w'):Sat P f g:=by
 intro gu rs rX hg Fz w vals bs ha hnd hap hfz
 obtain ⟨ZZ9,rs',rfl,e,hc⟩:=h gu _ hg
 cases e
 obtain ⟨rfl,rfl⟩:=E9 ha
 refine (hc w).mono fun e w' ⟨h1,hb'⟩=>?_
 exact ⟨Fz,rs'.map encS,[],[],h1,fun _ h=>h,fun b hb=>⟨Nat.lt_of_lt_of_le (hfz b hb) hb'.size,.inl hb⟩,hb'.size,fun b hb _=>hb'.block b hb,⟨hb'.os,hb'.output⟩,yO,yO,by simp,fun b hb=>by simp at hb⟩
def pQ : List (FuncId × (List AV → Option (List AV × List AV))) → Env
 | []=>fun _ _=>none
 | (k,g) :: l=>fun f gu=>if k = f then g gu else pQ l f gu
theorem yP : ∀ {l:List (FuncId × (List AV → Option (List AV × List AV)))},(∀ p ∈ l,Sat P p.1 p.2) → iG P (pQ l)
 | [],_=>fun f gu rs rX h=>by cases h
 | (k,g) :: l,h=>fun f gu rs rX he=>by
  unfold pQ at he
  split at he
  ·rename_i e;subst e;exact h (k,g) (by simp) gu rs rX he
  ·exact yP (fun p hp=>h p (List.mem_cons_of_mem _ hp)) f gu rs rX he
theorem rY : ∀ {l:List (FuncId × (List AV → Option (List AV × List AV)))},(∀ p ∈ l,∃ fn,P.funcs[p.1]? = some fn ∧ (fn.name == "runtime.NumGoroutine") = false ∧ fn.body.isSome = true) → eB P (pQ l)
 | [],_=>fun f gu r h=>by cases h
 | (k,g) :: l,h=>fun f gu r he=>by
  unfold pQ at he
  split at he
  ·rename_i e;subst e;exact h (k,g) (by simp)
  ·exact rY (fun p hp=>h p (List.mem_cons_of_mem _ hp)) f gu r he
end
end Go.Proofs.Ytdkkgecdhapfhaa.Ev
namespace Go.Proofs.Ytdkkgecdhapfhaa.Ev
open Go
open Go.ChangeMaps (setBlock)
def ofS : SV → FV
 | .int k n=>.int k n
 | .bool b=>.bool b
 | .str s=>.str s
def kvC : KV → CV
 | .one x=>.one (.f (ofS x))
 | .agg xs=>.agg (xs.map fun x=>.f (ofS x))
def yQ (step:St → KV → Option St) (σ:St):List KV → Option St
 | []=>some σ
 | k :: l=>(step σ k).bind fun τ=>yQ step τ l
open Classical in
noncomputable def Bd (step:St → KV → Option St) (σ:St) (l:List KV):Option St :=
 if ∃ τ,∀ m:List KV,m.Perm l → yQ step σ m = some τ then yQ step σ l else none
def yR (ks os:List Nat) (σ:St):St:=⟨pick ks σ.tm,pick os σ.ob⟩
def yS (σ:St) (os:List Nat) (s:Nat):Option (List KV):=match get σ.tm s with
 | some (.c (.one (.mp key)))=>if os.contains key then none else match get σ.ob key with
  | some (.map _ ents)=>some (ents.map (·.1))
  | _=>none
 | _=>none
noncomputable def pR (Γ:Env) (F:Nat) (ks os:List Nat) (s:Nat) (g6:List G) (k6:List Nat) (cb:CC) (σ:St) (k:KV):Option St :=
 (wZ Γ false g6 ⟨put σ.tm s (.c (kvC k)),σ.ob⟩).bind fun t=>(ev Γ F cb ⟨pick k6 t.tm,t.ob⟩).bind fun p=>match p.1 with
  | .jk=>some (yR ks os p.2)
  | _=>none
noncomputable def fin (cf:CF) (mX:List CV) (gu:List AV) (σ:St):Option (List AV × List AV):=(lQ σ mX gu).bind fun b=>(slots b.2 cf.res).bind fun l=>(oK cf.ro b.2 l).map fun r=>(r.1,b.1)
noncomputable def Nc (Γ:Env) (F:Nat) (ca:CC) (g4:List G) (sm:Nat) (ks os:List Nat) (s:Nat) (g6:List G) (k6:List Nat) (cb cc:CC) (cf:CF) (gu:List AV):Option (List AV × List AV) :=
 if gu.length ≠ cf.np then none else (enter cf.bo 0 [] ⟨[],[]⟩ gu).bind fun e=>(ev Γ F ca e.2).bind fun p=>match p.1 with
  | .ext _=>none
  | .ret=>fin cf e.1 gu p.2
  | .jk=>(wZ Γ false g4 p.2).bind fun t=>(yS t os sm).bind fun l=>(Bd (pR Γ F ks os s g6 k6 cb) (yR ks os t) l).bind fun t=>(ev Γ F cc t).bind fun q=>match q.1 with
   | .ext _=>none
   | _=>fin cf e.1 gu q.2
theorem um {α:Type} (f:α → Nat):∀ (l:List α) (i:Nat) (hi:i < l.length),(l.map f).Nodup → l.filter (fun x=>!(f x == f l[i])) = l.eraseIdx i
 | [],i,hi,_=>by simp at hi
 | x :: l,0,hi,h=>by
  have hc:=List.nodup_cons.mp h
  rw [List.getElem_cons_zero,List.filter_cons,List.eraseIdx_cons_zero]
  simp only [beq_self_eq_true,Bool.not_true,Bool.false_eq_true,if_false]
  refine List.filter_eq_self.mpr fun y hy=>?_
  have:f y ≠ f x:=fun e=>hc.1 (by rw [← e];exact List.mem_map_of_mem hy)
  simp [this]
 | x :: l,i + 1,hi,h=>by
  have hc:=List.nodup_cons.mp h
  have hi':i < l.length:=by simpa using hi
  rw [List.getElem_cons_succ,List.filter_cons,List.eraseIdx_cons_succ,um f l i hi' hc.2]
  have:f x ≠ f l[i]:=fun e=>hc.1 (by rw [e];exact List.mem_map_of_mem (List.getElem_mem hi'))
  simp [this]
theorem yT {α:Type}:∀ (l:List α) (i:Nat) (h:i < l.length),(l[i] :: l.eraseIdx i).Perm l
 | [],i,h=>by simp at h
 | x :: l,0,h=>List.Perm.refl _
 | x :: l,i + 1,h=>by
  have:=yT l i (by simpa using h)
  rw [List.getElem_cons_succ,List.eraseIdx_cons_succ]
  exact (List.Perm.swap _ _ _).trans (this.cons x)
theorem Ki (es:Array MapEntry) (seen:Array Nat) (b:Nat):(leftOf es (seen.push b)).toList = (leftOf es seen).toList.filter (fun e=>!(e.born == b)):=by
 unfold leftOf
 rw [Array.toList_filter,Array.toList_filter,List.filter_filter]
 refine List.filter_congr fun e _=>?_
 rw [Array.contains_push]
 cases hb:e.born == b <;> cases hs:seen.contains e.born <;> simp_all
section
variable {P : Program} {Γ:Env} {bH Fz bK:Nat → Prop} {w0 w w':World} {bG bs:List Nat} {N N':Fr} {F:Nat} {κ fq jO:Nat → Value} {σ fM σ':St} {a a':Act} {X:Hx}
theorem V9 (k:KV):gy Fz κ w (kvC k) (mF k):=by
 have hl:∀ x:SV,eu Fz κ w (.f (ofS x)) (encS x):=fun x=>by cases x <;> simp only [eu,ofS,eZ,encS]
 cases k with
 | one x=>exact hl x
 | agg xs =>
  refine ⟨_,rfl,?_⟩
  show bA Fz κ w (xs.map fun x=>.f (ofS x)) (xs.map encS)
  induction xs with
  | nil=>trivial
  | cons x xs ih=>exact ⟨hl x,ih⟩
def blks (κ:Nat → Value) (ob:List (Nat × Ob)):List Nat:=ob.filterMap fun p=>blk (κ p.1)
theorem nQ {b:Nat} {ob:List (Nat × Ob)}:b ∈ blks κ ob ↔ ∃ p ∈ ob,blk (κ p.1) = some b:=List.mem_filterMap
theorem Rel.base (h:Rel bH w0 bG N Fz κ σ a w):Rel Fz w (blks κ σ.ob) N Fz κ σ a w :=
 ⟨h.tm,h.sz,h.ko,h.fs,h.ob,h.tu,fun p hp b hb=>⟨(h.pos p hp b hb).1,(h.pos p hp b hb).2.1,.inl (nQ.mpr ⟨p,hp,hb⟩)⟩,fun b hb=>⟨(h.fz b hb).1,.inl hb⟩,fun _ h=>h,Nat.le_refl _,fun _ _ _=>rfl,⟨rfl,rfl⟩⟩
theorem Rel.old (h:Rel bH w0 bG N Fz κ σ a w) {b:Nat} (hb:b ∈ blks κ σ.ob):¬ Fz b ∧ b < w.heap.size ∧ (b ∈ bG ∨ w0.heap.size ≤ b):=by
 obtain ⟨p,hp,hb⟩:=nQ.mp hb
 exact h.pos p hp b hb
theorem Rel.Wd (h:Rel bH w0 bG N Fz κ σ a w) (k:Rel Fz w (blks κ σ.ob) N' bK fq σ' a' w'):Rel bH w0 bG N' bK fq σ' a' w' :=
 ⟨k.tm,k.sz,k.ko,k.fs,k.ob,k.tu,fun p hp b hb=>by
  obtain ⟨g1,g2,g3⟩:=k.pos p hp b hb
  refine ⟨g1,g2,?_⟩
  rcases g3 with g | g
  ·exact (h.old g).2.2
  ·exact .inr (Nat.le_trans h.big g),
 fun b hb=>⟨(k.fz b hb).1,by
  rcases (k.fz b hb).2 with g | g | g
  ·exact (h.fz b g).2
  ·exact .inr (h.old g).2.2
  ·exact .inr (.inr (Nat.le_trans h.big g))⟩,
 fun b hb=>k.xg b (h.xg b hb),Nat.le_trans h.big k.big,fun b h1 h2=>by
  refine (k.ext b (Nat.lt_of_lt_of_le h1 h.big) fun hm=>?_).trans (h.ext b h1 h2)
  rcases (h.old hm).2.2 with g | g
  ·exact h2 g
  ·exact Nat.not_lt.mpr g h1,h.kp.trans k.kp⟩
theorem Rel.aside (h:Rel bH w0 bG N Fz κ σ a w) {r:Nat} (hs:w'.heap.size = w.heap.size) (hb:∀ b,b ≠ r → w'.heap[b]? = w.heap[b]?) (h0:w0.heap.size ≤ r) (hF:¬ Fz r) (hO:r ∉ blks κ σ.ob) (hkp:Kp w w'):Rel bH w0 bG N Fz κ σ a w':=by
 have hf:∀ b,Fz b → w'.heap[b]? = w.heap[b]?:=fun b hb'=>hb b fun e=>hF (e ▸ hb')
 exact ⟨fun p hp=>jl.mono (fun _ h=>h) hf (fun _ _=>rfl) (h.tm p hp),h.sz,h.ko,h.fs,
  fun p hp=>iE.mono (fun _ h=>h) hf (fun _ _=>rfl) (fun b hb'=>hb b fun e=>hO (nQ.mpr ⟨p,hp,e ▸ hb'⟩)) (h.ob p hp),h.tu,
  fun p hp b hb'=>⟨(h.pos p hp b hb').1,by rw [hs];exact (h.pos p hp b hb').2.1,(h.pos p hp b hb').2.2⟩,fun b hb'=>⟨by rw [hs];exact (h.fz b hb').1,(h.fz b hb').2⟩,h.xg,by rw [hs];exact h.big,
  fun b h1 h2=>(hb b (by omega)).trans (h.ext b h1 h2),h.kp.trans hkp⟩
theorem Rel.Kj (h:Rel bH w0 bG N Fz κ σ a w) {d:Nat} (hd:N.ok d = true) (hn:∀ p ∈ σ.tm,p.1 ≠ d) (v:Value):Rel bH w0 bG N Fz κ σ (a.put (some d) v) w:=by
 have h1:=h.put hd (pv:=.c (.one .any)) (v:=v) trivial
 refine ⟨fun p hp=>?_,h1.sz,h1.ko,h1.fs,h1.ob,h1.tu,h1.pos,h1.fz,h1.xg,h1.big,h1.ext,h1.kp⟩
 have:=h.tm p hp
 have hne:=hn p hp
 simp only [Act.put,Array.getD_eq_getD_getElem?,Array.getElem?_setIfInBounds] at this ⊢
 rw [if_neg (fun e=>hne e.symm)]
 exact this
theorem uo {α:Type} {ks:List Nat} {l:List (Nat × α)} {p:Nat × α} (h:p ∈ pick ks l):p.1 ∈ ks:=by
 obtain ⟨i,h1,h2⟩:=List.mem_filterMap.mp h
 obtain ⟨v,h3,h4⟩:=zmm h2
 subst h4
 exact h1
theorem nR (h:a.tmps.size = N.n) {d:Nat} (hd:d < N.n) (v:Value) (e:Nat):(a.put (some d) v).tmps.getD e undef = if e = d then v else a.tmps.getD e undef:=by
 simp only [Act.put,Array.getD_eq_getD_getElem?,Array.getElem?_setIfInBounds]
 by_cases he:e = d
 ·subst he;rw [if_pos rfl,if_pos (by omega),if_pos rfl];rfl
 ·rw [if_neg (fun x=>he x.symm),if_neg he]
theorem IZ (heq:∀ t ∈ X.eqs,lD P t) (kQ:iG P Γ) (hC:eB P Γ) {ops:Array Oper} {Q:Exit → Act → World → Prop} {rest:List Oper}:∀ {l:List Oper} {gs:List G} {σ:St} {a:Act} {w:World},jH P X ops N.ok l = some gs → Ok bH w0 bG N jO σ a w → wZ Γ false gs σ = some σ' → (∀ a' w',Ok bH w0 bG N jO σ' a' w' → wpList P ops Q rest a' w') → wpList P ops Q (l ++ rest) a w
 | [],gs,σ,a,w,hc,h,hE,hQ=>by cases hc;cases hE;exact hQ a w h
 | o :: l,gs,σ,a,w,hc,h,hE,hQ=>by
  obtain ⟨g,h1,h2⟩:=zbm hc
  obtain ⟨r,h3,rfl⟩:=zmm h2
  obtain ⟨s,h4,h5⟩:=zbm hE
  exact yu heq kQ hC h1 h h4 (fun a' w' h'=>IZ heq kQ hC h3 h' h5 hQ)
structure Rg (bH:Nat → Prop) (w0:World) (bG:List Nat) (N:Fr) (jO:Nat → Value) (r bm:Nat) (es:Array MapEntry) (clock:Nat) (seen:Array Nat) (lk:List KV) (σ:St) (a:Act) (w:World):Prop where
 ok:∃ Fz κ,Rel bH w0 bG N Fz κ σ a w ∧ (∀ k,k % 2 = 1 → κ k = jO k) ∧ ¬ Fz r ∧ r ∉ blks κ σ.ob ∧ bm ∉ blks κ σ.ob
 it:w.heap[r]? = some (.mapIter (some bm) clock seen clock)
 mp:w.heap[bm]? = some (.map es clock)
 lf:(leftOf es seen).toList.map (·.key) = lk.map mF
 r0:w0.heap.size ≤ r
 ne:bm ≠ r
theorem QC {w1:World} (h:w1 = w ∨ w1 = w.drew) (r:Nat) (o:Obj):Kp w (setBlock w1 r o) ∧ (setBlock w1 r o).heap.size = w.heap.size ∧ (∀ b,b ≠ r → (setBlock w1 r o).heap[b]? = w.heap[b]?) ∧ (r < w.heap.size → (setBlock w1 r o).heap[r]? = some o):=by
 have e:w1.heap = w.heap ∧ w1.os = w.os ∧ w1.output = w.output:=by rcases h with rfl | rfl <;> exact ⟨rfl,rfl,rfl⟩
 obtain ⟨e1,e2,e3⟩:=e
 refine ⟨⟨e2,e3⟩,by simp [setBlock,e1],fun b hb=>?_,fun hr=>by simp [setBlock,Array.getElem?_setIfInBounds,e1,hr]⟩
 simp only [setBlock,Array.getElem?_setIfInBounds,e1]
 rw [if_neg (fun e=>hb e.symm)]
def Bf (d s ty:Nat) (pos:String) (GQ:Array Edge):Oper:={ dst:=some d,op:=.next (.tmp s) false,type:=ty,pos:=pos,after:=GQ,guard:=none }
def Fa (d s i ty:Nat) (pos:String) (GQ:Array Edge):Oper:={ dst:=some d,op:=.extract (.tmp s) i,type:=ty,pos:=pos,after:=GQ,guard:=none }
def CY (d s ty:Nat) (pos:String) (GQ:Array Edge):Oper:={ dst:=some d,op:=.entry (.tmp s),type:=ty,pos:=pos,after:=GQ,guard:=none }
def CZ (d s mt ty:Nat) (pos:String) (GQ:Array Edge):Oper:={ dst:=some d,op:=.range mt (.tmp s),type:=ty,pos:=pos,after:=GQ,guard:=none }
theorem rZ {o:Oper} {v:Value} {ops:Array Oper} {rest:List Oper} {Q:Exit → Act → World → Prop} (hg:o.guard = none) (hr:(execOp a.eval o).run P w = .ok (.value v) w') (h:wpList P ops Q rest (a.put o.dst v) w'):wpList P ops Q (o :: rest) a w:=by
 unfold wpList
 rw [if_pos (show Region.wanted o _ = true by unfold Region.wanted;rw [hg])]
 left
 unfold Oper.wp
 rw [hr]
 exact h
theorem Fb {d s ty:Nat} {pos:String} {GQ:Array Edge} {v:Value} {r:Nat} (hs:a.tmps.getD s undef = .pointer (some ⟨r,0,none⟩)) (h:(Instr.next (.pointer (some ⟨r,0,none⟩)) false ty).run P w = .ok v w'):(execOp a.eval (Bf d s ty pos GQ)).run P w = .ok (.value v) w':=by
 unfold execOp Bf
 simp [Act.eval,hs,h]
theorem Kk {d s ty:Nat} {pos:String} {GQ:Array Edge} {v:Value} {r:Nat} (hs:a.tmps.getD s undef = .pointer (some ⟨r,0,none⟩)) (h:(Instr.entry (.pointer (some ⟨r,0,none⟩))).run P w = .ok v w'):(execOp a.eval (CY d s ty pos GQ)).run P w = .ok (.value v) w':=by
 unfold execOp CY
 simp [Act.eval,hs,h]
theorem Kl {d s mt ty b:Nat} {pos:String} {GQ:Array Edge} {v:Value} (hs:a.tmps.getD s undef = .map (some b)) (h:(Instr.range mt (.map (some b))).run P w = .ok v w'):(execOp a.eval (CZ d s mt ty pos GQ)).run P w = .ok (.value v) w':=by
 unfold execOp CZ
 simp [Act.eval,hs,h]
theorem C8 {d s i ty:Nat} {pos:String} {GQ:Array Edge} {v:Value} {vs:Array Value} (hs:a.tmps.getD s undef = .tuple vs) (h:vs[i]? = some v):(execOp a.eval (Fa d s i ty pos GQ)).run P w = .ok (.value v) w:=by
 unfold execOp Fa
 simp [Act.eval,hs,Instr.extract,h]
theorem wC {ty r bm clock:Nat} {seen:Array Nat} {es:Array MapEntry} (hr:w.heap[r]? = some (.mapIter (some bm) clock seen clock)) (hb:w.heap[bm]? = some (.map es clock)) (hB:Mq.Bn es clock) :
  ((leftOf es seen).size = 0 ∧ (Instr.next (.pointer (some ⟨r,0,none⟩)) false ty).run P w = .ok (.tuple #[.bool false]) w) ∨
  ∃ e ∈ (leftOf es seen).toList,∃ w1:World,(w1 = w ∨ w1 = w.drew) ∧ (Instr.next (.pointer (some ⟨r,0,none⟩)) false ty).run P w = .ok (.tuple #[.bool true,e.key,e.val]) (setBlock w1 r (.mapIter (some bm) clock (seen.push e.born) clock)) :=
 run_next_at w ty r bm clock clock seen es clock hr hb hB.2 (Nat.le_refl _)
theorem Km (hm:P.follows .mixedOrders = true) (heq:∀ t ∈ X.eqs,lD P t) (kQ:iG P Γ) (hC:eB P Γ) {b:Code} {i5 i6 b0 b1 sit sn sb se sk t1 t2 t3 t4:Nat} {p1 p2 p3 p4:String} {f1 f2 f3 f4:Array Edge} {GR:Array Oper} {l6:List Oper} {g6:List G} {k6 ks os:List Nat} {cb:CC} {hb rb:List Hi}
  (h6:GR.toList = CY se sit t3 p3 f3 :: Fa sk se 0 t4 p4 f4 :: l6) (hc6:jH P X GR N.ok l6 = some g6) (hcb:comp P X N.ok b hb = some (cb,rb))
  (hok:N.ok sn = true ∧ N.ok sb = true ∧ N.ok se = true ∧ N.ok sk = true) (hd1:sn ≠ sb ∧ se ≠ sk) (hks:sn ∉ ks ∧ sb ∉ ks ∧ se ∉ ks) (hos:True)
  {r bm clock:Nat} {es:Array MapEntry} (hB:Mq.Bn es clock) (hit:N.ok sit = false ∧ N.vs sit = .pointer (some ⟨r,0,none⟩)) {τ:St} {Q:Exit → Act → World → Prop} (hQ:∀ a' w',Ok bH w0 bG N jO τ a' w' → Q (.exit b0) a' w') :
  ∀ (n:Nat) (lk:List KV) (seen:Array Nat) (σ:St) (a:Act) (w:World),lk.length = n → Rg bH w0 bG N jO r bm es clock seen lk σ a w → (∀ p ∈ σ.tm,p.1 ∈ ks) → (∀ m:List KV,m.Perm lk → yQ (pR Γ F ks os sk g6 k6 cb) σ m = some τ) →
   Code.rounds P (.seq (.region i5 #[Bf sn sit t1 p1 f1,Fa sb sn 0 t2 p2 f2] false) (.seq (.cond (.tmp sb) .skip (.exit b0)) (.block b1 (.seq (.region i6 GR false) b)))) Q (n + 1) a w:=by
 intro n
 induction n with
 | zero =>
  intro lk seen σ a w hn hR hσ hf
  obtain ⟨Fz,κ,hr,hk,g1,g2,g3⟩:=hR.ok
  have hits:a.tmps.getD sit undef = .pointer (some ⟨r,0,none⟩):=(hr.fs sit hit.1).trans hit.2
  have hlk:lk = []:=List.length_eq_zero_iff.mp hn
  subst hlk
  have hz:(leftOf es seen).toList = []:=by have:=hR.lf;simpa using this
  rw [rounds_succ]
  refine wp_seq (wp_region_list ?_)
  show wpList P _ _ [Bf sn sit t1 p1 f1,Fa sb sn 0 t2 p2 f2] a w
  rcases wC (P:=P) (ty:=t1) hR.it hR.mp hB with ⟨-,hrun⟩ | ⟨e,he,_⟩
  ·refine rZ rfl (Fb hits hrun) (rZ rfl (C8 (i:=0) (v:=.bool false) (vs:=#[.bool false]) ?_ rfl) ?_)
   ·exact (nR hr.sz (N.lt _ hok.1) _ _).trans (if_pos rfl)
   ·have h1:=(hr.Kj hok.1 (fun p hp e=>hks.1 (e ▸ hσ p hp)) (.tuple #[.bool false]))
    have h2:=h1.Kj hok.2.1 (fun p hp e=>hks.2.1 (e ▸ hσ p hp)) (.bool false)
    refine wp_seq (wp_cond_false (show _ = _ from (nR h1.sz (N.lt _ hok.2.1) _ _).trans (if_pos rfl)) (wp_exit ?_))
    have:=hf [] (List.Perm.refl _)
    cases this
    exact hQ _ _ ⟨Fz,κ,h2,hk⟩
  ·rw [hz] at he;cases he
 | succ n ih =>
  intro lk seen σ a w hn hR hσ hf
  obtain ⟨Fz,κ,hr,hk,g1,g2,g3⟩:=hR.ok
  have hits:a.tmps.getD sit undef = .pointer (some ⟨r,0,none⟩):=(hr.fs sit hit.1).trans hit.2
  have hlen:(leftOf es seen).toList.length = lk.length:=by have:=congrArg List.length hR.lf;simpa using this
  rw [rounds_succ]
  refine wp_seq (wp_region_list ?_)
  show wpList P _ _ [Bf sn sit t1 p1 f1,Fa sb sn 0 t2 p2 f2] a w
  rcases wC (P:=P) (ty:=t1) hR.it hR.mp hB with ⟨hz, -⟩ | ⟨e,he,w1,hw1,hrun⟩
  ·rw [Array.length_toList] at hlen;omega
  obtain ⟨i,hi,rfl⟩:=List.getElem_of_mem he
  generalize he':(leftOf es seen).toList[i] = e at hrun he
  have hil:i < lk.length:=by omega
  obtain ⟨k,hkk⟩:∃ k,k = lk[i]:=⟨_,rfl⟩
  have hkey:e.key = mF k:=by
   have:=congrArg (fun l:List Value=>l[i]?) hR.lf
   simp only [List.getElem?_map,List.getElem?_eq_getElem hi,List.getElem?_eq_getElem hil,Option.map_some,Option.some.injEq] at this
   rw [hkk,← he'];exact this
  have hmem:e ∈ es.toList:=by
   exact (mem_left he).1
  have afI:r < w.heap.size:=(Array.getElem?_eq_some_iff.mp hR.it).1
  have hblt:bm < w.heap.size:=(Array.getElem?_eq_some_iff.mp hR.mp).1
  obtain ⟨d1,d2,d3,d4⟩:=QC hw1 r (.mapIter (some bm) clock (seen.push e.born) clock)
  generalize setBlock w1 r (.mapIter (some bm) clock (seen.push e.born) clock) = u at hrun d1 d2 d3 d4
  have hur:=d4 afI
  have hub:u.heap[bm]? = some (.map es clock):=(d3 bm hR.ne).trans hR.mp
  have hperm:(k :: lk.eraseIdx i).Perm lk:=by rw [hkk];exact yT lk i hil
  obtain ⟨σ',hst,hf'⟩:∃ σ',pR Γ F ks os sk g6 k6 cb σ k = some σ' ∧ ∀ m:List KV,m.Perm (lk.eraseIdx i) → yQ (pR Γ F ks os sk g6 k6 cb) σ' m = some τ:=by
   have h0:=hf _ hperm
   obtain ⟨σ',h1,_⟩:=zbm h0
   refine ⟨σ',h1,fun m hm'=>?_⟩
   have h2:=hf (k :: m) ((hm'.cons k).trans hperm)
   obtain ⟨aiq,h3,h4⟩:=zbm h2
   rw [h1] at h3
   cases h3
   exact h4
  obtain ⟨t,TU,hst⟩:=zbm hst
  obtain ⟨p,hEb,hst⟩:=zbm hst
  cases hp:p.1 with
  | ext j=>rw [hp] at hst;cases hst
  | ret=>rw [hp] at hst;cases hst
  | jk =>
  rw [hp] at hst
  cases hst
  refine rZ rfl (Fb hits hrun) (rZ rfl (C8 (i:=0) (v:=.bool true) (vs:=#[.bool true,e.key,e.val]) ?_ rfl) ?_)
  ·exact (nR hr.sz (N.lt _ hok.1) _ _).trans (if_pos rfl)
  have h0:=hr.aside d2 d3 hR.r0 g1 g2 d1
  have h1:=(h0.Kj hok.1 (fun p hp e=>hks.1 (e ▸ hσ p hp)) (.tuple #[.bool true,e.key,e.val]))
  have h2:=h1.Kj hok.2.1 (fun p hp e=>hks.2.1 (e ▸ hσ p hp)) (.bool true)
  refine wp_seq (wp_cond_true (show _ = _ from (nR h1.sz (N.lt _ hok.2.1) _ _).trans (if_pos rfl)) (wp_skip ?_))
  refine wp_block (wp_seq (wp_region_list ?_))
  rw [h6]
  have aaq:=(h2.fs sit hit.1).trans hit.2
  refine rZ rfl (Kk aaq (run_entry_at u r bm clock seen es clock e hur hub hmem hB.1)) (rZ rfl (C8 (i:=0) (v:=e.key) (vs:=#[e.key,e.val]) ?_ rfl) ?_)
  ·exact (nR h2.sz (N.lt _ hok.2.2.1) _ _).trans (if_pos rfl)
  have h3:=h2.Kj hok.2.2.1 (fun p hp e=>hks.2.2 (e ▸ hσ p hp)) (.tuple #[e.key,e.val])
  have h4:=h3.put hok.2.2.2 (pv:=.c (kvC k)) (v:=e.key) (by rw [hkey];exact V9 k)
  refine Gx heq kQ hC hc6 ⟨Fz,κ,h4.base,hk⟩ TU fun a5 u5 k5=>?_
  show b.wp P _ a5 u5
  refine AO hm heq kQ hC b hcb (k5.keep k6) hEb fun a6 u6 k7=>?_
  rw [hp]
  show Code.rounds P _ Q (n + 1) a6 u6
  obtain ⟨F6,κ6,hr6,hk6⟩:=k7
  have hrb:r ∉ blks κ σ.ob:=g2
  have hbb:bm ∉ blks κ σ.ob:=g3
  have hru:r < u.heap.size:=by omega
  have hbu:bm < u.heap.size:=by omega
  have nob:∀ x,x < u.heap.size → x ∉ blks κ σ.ob → x ∉ blks κ6 (pick os p.2.ob):=fun x hx hnx hmx=>by
   obtain ⟨q,hq,hqb⟩:=nQ.mp hmx
   rcases (hr6.pos q (iB hq) x hqb).2.2 with g | g
   ·exact hnx g
   ·omega
  refine ih (lk.eraseIdx i) (seen.push e.born) _ a6 u6 ?_ ⟨⟨F6,κ6,(h4.Wd hr6).res ks os,hk6,fun hx=>?_,nob r hru hrb,nob bm hbu hbb⟩,?_,?_,?_,hR.r0,hR.ne⟩ (fun q hq=>uo hq) hf'
  ·rw [List.length_eraseIdx,if_pos hil];omega
  ·rcases (hr6.fz r hx).2 with g | g | g
   ·exact g1 g
   ·exact hrb g
   ·omega
  ·exact (hr6.ext r hru hrb).trans hur
  ·exact (hr6.ext bm hbu hbb).trans hub
  ·rw [Ki,← he',um (fun x:MapEntry=>x.born) _ i hi ?_,Mq.kW,Mq.kW,hR.lf]
   have:(leftOf es seen).toList.Sublist es.toList:=by unfold leftOf;rw [Array.toList_filter];exact List.filter_sublist
   exact (this.map _).nodup hB.1
theorem Rel.narrow (h:Rel bH w0 bG N Fz κ σ a w) (hn:N.ds = []) (s:Nat):Rel bH w0 bG ⟨N.n,[],fun d=>N.ok d && !(d == s),fun d hd=>N.lt d (by rw [Bool.and_eq_true] at hd;exact hd.1),fun d=>a.tmps.getD d undef⟩ Fz κ σ a w :=
 ⟨h.tm,h.sz,h.ko.trans hn,fun _ _=>rfl,h.ob,h.tu,h.pos,h.fz,h.xg,h.big,h.ext,h.kp⟩
theorem GU (hm:P.follows .mixedOrders = true) (heq:∀ t ∈ X.eqs,lD P t) (kQ:iG P Γ) (hC:eB P Γ) {f:FuncId} {fn:Func} {a1 a2 a3 b c:Code} {i4 i5 i6 b0 b1 sit sn sb se sk sm mt kt et t0 t1 t2 t3 t4:Nat} {p0 p1 p2 p3 p4:String} {f0 f1 f2 f3 f4:Array Edge} {Ko GR:Array Oper} {l6:List Oper} {g4 g6:List G} {k6 ks os:List Nat} {cf:CF} {ca cb cc:CC} {ha hb hc ra rb rc:List Hi}
  (hf:P.funcs[f]? = some fn)
  (hbd:fn.body = some (.seq a1 (.seq a2 (.seq a3 (.seq (.seq (.region i4 Ko false) (.block b0 (.loop (.seq (.region i5 #[Bf sn sit t1 p1 f1,Fa sb sn 0 t2 p2 f2] false) (.seq (.cond (.tmp sb) .skip (.exit b0)) (.block b1 (.seq (.region i6 GR false) b))))))) c)))))
  (h4:Ko.toList.getLast? = some (CZ sit sm mt t0 p0 f0)) (h6:GR.toList = CY se sit t3 p3 f3 :: Fa sk se 0 t4 p4 f4 :: l6) (hmt:P.underlying mt = some (.map kt et))
  (hca:comp P X (JQ fn.ntmps) (.seq a1 (.seq a2 a3)) ha = some (ca,ra)) (hc4:jH P X Ko (JQ fn.ntmps) Ko.toList.dropLast = some g4) (hc6:jH P X GR (fun d=>JQ fn.ntmps d && !(d == sit)) l6 = some g6)
  (hcb:comp P X (fun d=>JQ fn.ntmps d && !(d == sit)) b hb = some (cb,rb)) (hcc:comp P X (fun d=>JQ fn.ntmps d && !(d == sit)) c hc = some (cc,rc)) (hr:ni P fn.results.toList = some cf.res) (hnp:cf.np ≤ fn.ntmps)
  (hlt:sit < fn.ntmps ∧ sn < fn.ntmps ∧ sb < fn.ntmps ∧ se < fn.ntmps ∧ sk < fn.ntmps) (hd0:sn ≠ sit ∧ sb ≠ sit ∧ se ≠ sit ∧ sk ≠ sit) (hd1:sn ≠ sb ∧ se ≠ sk) (afJ:sit ∉ ks) (hks:sn ∉ ks ∧ sb ∉ ks ∧ se ∉ ks)
  (F:Nat):Sat P f (Nc Γ F ca g4 sm ks os sk g6 k6 cb cc cf):=by
 intro gu rs rX hE Fz w vals bs Xw hnd hap hfz
 unfold Nc at hE
 split at hE
 ·cases hE
 rename_i hlen
 have hlen':gu.length = cf.np:=Decidable.not_not.mp hlen
 have hvl:vals.length = gu.length:=Xw.len
 obtain ⟨e,h1,hE0⟩:=zbm hE
 clear hE
 obtain ⟨p,h2,hE1⟩:=zbm hE0
 clear hE0
 refine calls_of_wp hf hbd ?_
 have hsz:(vals.toArray ++ Array.replicate (fn.ntmps - vals.toArray.size) undef).size = fn.ntmps:=by simp;omega
 obtain ⟨jO,hok,g2⟩:=entered (bo:=cf.bo) Xw hnd hap hfz hsz h1
 have done:∀ (N:Fr) (σ:St) a' w',N.ds = [] → Ok Fz w bs N jO σ a' w' → fin cf e.1 gu σ = some (rs,rX) → a'.defers = [] ∧ ∃ v,(results fn a'.tmps).run P w' = .ok v w' ∧ ∃ bK vI b1 b2,Ending.returned v = .returned (ret vI) ∧ Post Fz w vals bs rs rX bK w' vI b1 b2:=by
  intro N σ a' w' hN hO hF
  obtain ⟨k1,k2⟩:=ME hr Xw hap hfz g2 a' w' hO hF
  exact ⟨k1.trans hN,k2⟩
 obtain ⟨x1,hx1,hx2⟩:=zbm hca
 obtain ⟨x2,hx3,hx4⟩:=zmm hx2
 cases hx4
 obtain ⟨z1,hz1,hz2⟩:=zbm hx3
 obtain ⟨z2,hz3,hz4⟩:=zmm hz2
 cases hz4
 obtain ⟨y1,hy1,hy2⟩:=zbm h2
 refine wp_seq (AO hm heq kQ hC a1 hx1 hok hy1 fun b1 u1 k1=>?_)
 cases hy:y1.1 with
 | ext j=>rw [hy] at hy2;cases hy2;cases hE1
 | ret=>rw [hy] at hy2;cases hy2;exact done _ _ _ _ rfl k1 hE1
 | jk =>
 rw [hy] at hy2
 obtain ⟨y2,hy3,hy4⟩:=zbm hy2
 refine wp_seq (AO hm heq kQ hC a2 hz1 k1 hy3 fun b2 u2 k2=>?_)
 cases hyy:y2.1 with
 | ext j=>rw [hyy] at hy4;cases hy4;cases hE1
 | ret=>rw [hyy] at hy4;cases hy4;exact done _ _ _ _ rfl k2 hE1
 | jk =>
 rw [hyy] at hy4
 refine wp_seq (AO hm heq kQ hC a3 hz3 k2 hy4 fun b3 u3 k3=>?_)
 cases hp:p.1 with
 | ext j=>rw [hp] at hE1;cases hE1
 | ret=>rw [hp] at hE1;exact done _ _ _ _ rfl k3 hE1
 | jk =>
 rw [hp] at hE1
 obtain ⟨t,hE4,hE2⟩:=zbm hE1
 obtain ⟨l,hl,hE3⟩:=zbm hE2
 obtain ⟨τ,hτ,hE5⟩:=zbm hE3
 obtain ⟨q,hEc,TU⟩:=zbm hE5
 clear hE1 hE2 hE3 hE5
 show (Code.seq _ c).wp P _ b3 u3
 refine wp_seq (wp_seq (wp_region_list ?_))
 have h4':Ko.toList = Ko.toList.dropLast ++ [CZ sit sm mt t0 p0 f0]:=by
  obtain ⟨ys,hy⟩:=List.getLast?_eq_some_iff.mp h4
  rw [hy,List.dropLast_concat]
 rw [h4']
 refine IZ heq kQ hC hc4 k3 hE4 fun b4 u4 k4=>?_
 obtain ⟨F4,κ4,hr4,hk4⟩:=k4
 unfold yS at hl
 split at hl
 case h_2=>cases hl
 rename_i key hkey
 split at hl
 ·cases hl
 rename_i afK
 split at hl
 case h_2=>cases hl
 rename_i sh ents gq
 cases hl
 obtain ⟨bm,hb1,m,hAt,hRE, -⟩:=hr4.obj gq
 obtain ⟨es,clock,m0,m1,m2,hB⟩:=hAt.ex
 have hv:b4.tmps.getD sm undef = .map (some bm):=by
  have:jl F4 κ4 u4 (.c (.one (.mp key))) (b4.tmps.getD sm undef):=hr4.val hkey
  exact this.1.trans hb1
 have hpos:=hr4.pos _ (get_mem gq) bm (by rw [hb1];rfl)
 have hgr:∀ x,x < u4.heap.size → (u4.alloc (.mapIter (some bm) clock #[] clock)).heap[x]? = u4.heap[x]?:=fun x hx=>(jY u4 _).2.1 x hx
 have hnew:=(jY u4 (.mapIter (some bm) clock #[] clock)).1
 have air:=(jY u4 (.mapIter (some bm) clock #[] clock)).2.2
 refine rZ rfl (Kl hv (run_range_map u4 mt kt et bm es clock hmt m0)) ?_
 have h5:=hr4.grow (w':=u4.alloc (.mapIter (some bm) clock #[] clock)) (by omega) hgr ⟨rfl,rfl⟩
 have h6':=(h5.less (σ':=yR ks os t) (fun p hp=>iB hp) (fun p hp=>iB hp)).Kj (show (Fr.of fn.ntmps).ok sit = true by simpa [Fr.of,JQ] using hlt.1) (fun p hp e=>afJ (e ▸ uo hp)) (.pointer (some ⟨u4.heap.size,0,none⟩))
 have afL:(b4.put (some sit) (.pointer (some ⟨u4.heap.size,0,none⟩))).tmps.getD sit undef = .pointer (some ⟨u4.heap.size,0,none⟩):=(nR h5.sz hlt.1 _ sit).trans (if_pos rfl)
 have h7:=h6'.narrow rfl sit
 unfold Bd at hτ
 split at hτ
 case isFalse=>cases hτ
 rename_i hall
 obtain ⟨τ',hall⟩:=hall
 rw [hall _ (List.Perm.refl _)] at hτ
 cases hτ
 have sl:∀ d,d < fn.ntmps → d ≠ sit → (JQ fn.ntmps d && !(d == sit)) = true:=fun d h1 h2=>by simp [JQ,h1,h2]
 show (Code.block b0 _).wp P _ _ _
 have hbm:bm < u4.heap.size:=hpos.2.1
 refine wp_block (wp_loop_rounds ((ents.map (·.1)).length + 1) (Km (τ:=τ) hm heq kQ hC h6 hc6 hcb ⟨sl _ hlt.2.1 hd0.1,sl _ hlt.2.2.1 hd0.2.1,sl _ hlt.2.2.2.1 hd0.2.2.1,sl _ hlt.2.2.2.2 hd0.2.2.2⟩ hd1 hks trivial hB ⟨by simp,afL⟩ (fun a' w' hO=>?_) _ (ents.map (·.1)) #[] (yR ks os t) _ _ rfl
  ⟨⟨F4,κ4,h7,hk4,fun hx=>?_,fun hx=>?_,fun hx=>?_⟩,hnew,(hgr bm hbm).trans m0,?_,hr4.big,Nat.ne_of_lt hbm⟩ (fun p hp=>uo hp) hall))
 ·show if b0 = b0 then _ else _
  rw [if_pos rfl]
  show c.wp P _ a' w'
  refine AO hm heq kQ hC c hcc hO hEc fun a8 w8 k8=>?_
  cases hq:q.1 with
  | ext j=>rw [hq] at TU;cases TU
  | jk=>rw [hq] at TU;exact done _ _ _ _ rfl k8 TU
  | ret=>rw [hq] at TU;exact done _ _ _ _ rfl k8 TU
 ·have:=(hr4.fz _ hx).1;omega
 ·obtain ⟨z,hz,hzb⟩:=nQ.mp hx
  have:=(hr4.pos z (iB hz) _ hzb).2.1;omega
 ·obtain ⟨z,hz,hzb⟩:=nQ.mp hx
  have hne:z.1 ≠ key:=fun e=>by
   have:=uo hz
   rw [e] at this
   exact afK (List.elem_iff.mpr this)
  exact hr4.tu z (iB hz) _ (get_mem gq) bm hne hzb (by rw [hb1];rfl)
 ·have he:(leftOf es #[]).toList = es.toList:=by
   unfold leftOf
   rw [Array.toList_filter]
   exact List.filter_eq_self.mpr fun e _=>by simp
  rw [he,m1,hRE.keys,List.map_map]
  rfl
end
end Go.Proofs.Ytdkkgecdhapfhaa.Ev
set_option maxRecDepth 4000
namespace Go.Proofs.Ytdkkgecdhapfhaa.Ev
open Go
section
variable {Γ : Env} {F s sm:Nat} {ks os k6:List Nat} {g4 g6:List G} {ca cb cc:CC} {cf:CF} {gu:List AV} {mX:List CV} {σ:St} {kk:KV}
def Yn : Out → (Unit → Prop) → (Unit → Prop) → Prop
 | .ret,A,_=>A ()
 | .jk,_,B=>B ()
 | .ext _,_,_=>False
@[go_sem] theorem ada {A B:Unit → Prop}:Yn .ret A B ↔ A ():=Iff.rfl
@[go_sem] theorem adb {A B:Unit → Prop}:Yn .jk A B ↔ B ():=Iff.rfl
def kB : Option Ob → Option (List KV)
 | some (.map _ ents)=>some (ents.map (·.1))
 | _=>none
def kA (os:List Nat) (ob:List (Nat × Ob)):Option PV → Option (List KV)
 | some (.c (.one (.mp key)))=>if os.contains key then none else kB (get ob key)
 | _=>none
@[go_sem] theorem afM {sh:KS} {ents:List (KV × FC)}:kB (some (.map sh ents)) = some (ents.map (·.1)):=rfl
@[go_sem] theorem Yo : yS σ os s = kA os σ.ob (get σ.tm s):=rfl
@[go_sem] theorem aar : yR ks os σ = ⟨pick ks σ.tm,pick os σ.ob⟩:=rfl
@[go_sem ↓] theorem ahc {k:List AV × List AV → Prop} {u:Tok k}:W k u (fin cf mX gu σ) ↔ W (fun b=>W (fun l=>W (fun r=>k (r.1,b.1)) ⟨⟩ (oK cf.ro b.2 l)) ⟨⟩ (slots b.2 cf.res)) ⟨⟩ (lQ σ mX gu):=by
 simp only [fin,dX,bB,cu]
@[go_sem ↓] theorem ade {k:St → Prop} {u:Tok k}:W k u (pR Γ F ks os s g6 k6 cb σ kk) ↔ W (fun t=>W (fun p=>p.1 = .jk ∧ k (yR ks os p.2)) ⟨⟩ (ev Γ F cb ⟨pick k6 t.tm,t.ob⟩)) ⟨⟩ (wZ Γ false g6 ⟨put σ.tm s (.c (kvC kk)),σ.ob⟩):=by
 simp only [pR,dX,bB]
 refine dA fun t=>dA fun p=>?_
 obtain ⟨o,σ'⟩:=p
 cases o <;> simp [mI,bJ]
@[go_sem ↓] theorem afN {k:List AV × List AV → Prop} {u:Tok k}:W k u (Nc Γ F ca g4 sm ks os s g6 k6 cb cc cf gu) ↔ gu.length = cf.np ∧ W (fun e=>W (fun p=>Yn p.1 (fun _=>W k ⟨⟩ (fin cf e.1 gu p.2)) (fun _=>W (fun t=>W (fun l=>W (fun t=>W (fun q=>(∀ id,q.1 ≠ .ext id) ∧ W k ⟨⟩ (fin cf e.1 gu q.2)) ⟨⟩ (ev Γ F cc t)) ⟨⟩ (Bd (pR Γ F ks os s g6 k6 cb) (yR ks os t) l)) ⟨⟩ (yS t os sm)) ⟨⟩ (wZ Γ false g4 p.2))) ⟨⟩ (ev Γ F ca e.2)) ⟨⟩ (enter cf.bo 0 [] ⟨[],[]⟩ gu):=by
 simp only [Nc,dX,dI,bB,ne_eq,Decidable.not_not]
 refine and_congr Iff.rfl (dA fun e=>dA fun p=>?_)
 obtain ⟨o,σ'⟩:=p
 cases o with
 | ext i=>simp [mI,Yn]
 | ret=>simp only [Yn]
 | jk =>
  simp only [Yn,bB]
  refine dA fun t=>dA fun l=>dA fun t'=>dA fun q=>?_
  obtain ⟨o,σ'⟩:=q
  cases o <;> simp [mI]
theorem Nf {step:St → KV → Option St} {σ τ:St} {l:List KV} (h:∀ m:List KV,m.Perm l → yQ step σ m = some τ):Bd step σ l = some τ:=by
 unfold Bd
 rw [if_pos ⟨τ,h⟩]
 exact h l (List.Perm.refl _)
end
end Go.Proofs.Ytdkkgecdhapfhaa.Ev
namespace Go.Proofs.Ytdkkgecdhapfhaa.Kn
open Go Ev
variable {ext : Env} {F n:Nat} {θ:Th} {gt:ByteArray → Int → Int → Int × Bool}
def rA : CC:=(.seq (.reg [⟨(some 4),none,(.mv (.k (.one (.f (.int .i64 0)))))⟩] [0,1]) (.seq (.seq (.reg [⟨(some 8),none,(.mv (.t 0))⟩,⟨(some 9),none,(.oM false (.t 8))⟩] [0,1,9]) (.cond (.t 9) (.seq (.reg [⟨(some 4),none,(.mv (.k (.one (.f (.int .i64 0)))))⟩] [4]) .ret) .skip)) (.reg [⟨(some 10),none,(.mv (.t 0))⟩,⟨(some 11),none,(.lY (.t 10))⟩,⟨(some 12),none,(.fa 1 (.t 11))⟩,⟨(some 13),none,(.load 1 false (.t 12))⟩,⟨(some 14),none,(.DY (.t 13))⟩,⟨(some 5),none,(.mv (.t 14))⟩] [0,1,5])))
def rG4 : List Ev.G:=[⟨(some 15),none,(.mv (.t 0))⟩,⟨(some 16),none,(.lY (.t 15))⟩,⟨(some 17),none,(.fa 1 (.t 16))⟩,⟨(some 18),none,(.load 1 false (.t 17))⟩,⟨(some 19),none,(.call false 82 [(.t 18)])⟩]
def Wh : List Ev.G:=[⟨(some 6),none,(.alloc 32 [(.f (.str ⟨#[]⟩)),(.f (.int .i64 0)),(.f (.int .i64 0))])⟩,⟨none,none,(.store 3 (.t 6) (.t 24))⟩]
def rB : CC:=(.seq (.reg [⟨(some 25),none,(.fa 0 (.t 6))⟩,⟨(some 26),none,(.load 1 false (.t 25))⟩,⟨(some 27),none,(.mv (.t 1))⟩,⟨(some 28),none,(.nY (.one .str) false (.t 26) (.t 27))⟩] [0,1,5,6,20,28]) (.cond (.t 28) (.seq (.sI [⟨⟨(some 29),none,(.mv (.t 0))⟩,[]⟩,⟨⟨(some 30),none,(.lY (.t 29))⟩,[]⟩,⟨⟨(some 31),none,(.fa 1 (.t 30))⟩,[]⟩,⟨⟨(some 32),none,(.load 1 false (.t 31))⟩,[]⟩,⟨⟨(some 33),none,(.load 3 true (.t 6))⟩,[]⟩] [] [] [⟨none,none,(.del (.agg [.str,(.int .i64),(.int .i64)]) (.t 32) (.t 33))⟩] [0,1,5,6,20]) (.sI [⟨⟨(some 34),none,(.mv (.t 0))⟩,[]⟩,⟨⟨(some 35),none,(.mv (.t 0))⟩,[]⟩,⟨⟨(some 36),none,(.lY (.t 35))⟩,[]⟩,⟨⟨(some 37),none,(.fa 2 (.t 36))⟩,[]⟩,⟨⟨(some 38),none,(.load 1 false (.t 37))⟩,[]⟩,⟨⟨(some 39),none,(.load 3 true (.t 6))⟩,[]⟩,⟨⟨(some 40),none,(.call false 69 [(.t 38),(.t 39)])⟩,[]⟩] [] [] [⟨(some 41),none,(.lY (.t 34))⟩,⟨(some 42),none,(.fa 2 (.t 41))⟩,⟨none,none,(.store 1 (.t 42) (.t 40))⟩] [0,1,5,20])) .skip))
def rC : CC:=(.seq (.reg [⟨(some 43),none,(.mv (.t 5))⟩,⟨(some 44),none,(.mv (.t 0))⟩,⟨(some 45),none,(.lY (.t 44))⟩,⟨(some 46),none,(.fa 1 (.t 45))⟩,⟨(some 47),none,(.load 1 false (.t 46))⟩,⟨(some 48),none,(.DY (.t 47))⟩,⟨(some 49),none,(.ar .sub (.t 43) (.t 48))⟩,⟨(some 7),none,(.mv (.t 49))⟩] [0,7]) (.seq (.seq (.reg [⟨(some 50),none,(.mv (.t 7))⟩,⟨(some 51),none,(.cmp .gt (.t 50) (.k (.one (.f (.int .i64 0)))))⟩] [0,7,51]) (.cond (.t 51) (.reg [⟨(some 52),none,(.mv (.t 0))⟩,⟨(some 53),none,(.lY (.t 52))⟩,⟨(some 54),none,(.fa 3 (.t 53))⟩,⟨(some 55),none,(.load 1 false (.t 54))⟩,⟨(some 56),none,(.ar .add (.t 55) (.k (.one (.f (.int .i64 1)))))⟩,⟨(some 57),none,(.lY (.t 52))⟩,⟨(some 58),none,(.fa 3 (.t 57))⟩,⟨none,none,(.store 1 (.t 58) (.t 56))⟩] [7]) .skip)) (.seq (.reg [⟨(some 59),none,(.mv (.t 7))⟩,⟨(some 4),none,(.mv (.t 59))⟩] [4]) .ret)))
def cDr : CF:=⟨2,[(.t 4)],[],[],.skip⟩
noncomputable abbrev Wi (ext:Env) (F n:Nat):List AV → Option (List AV × List AV):=Nc (G ext F n) F rA rG4 19 [0,1,5] [20201,20205,20208,820200] 24 Wh [0,1,5,6] rB rC cDr
structure Wj (ext:Env):Prop where
 mc:∀ m:List Nt,ext 82 [.one (.mp MW (m.map ent))] = some ([.one (.mp MW (m.map ent))],[.one (.mp MW (m.map ent))])
theorem aas (M:Wj ext) (m:List Nt):G ext F (n + 1) 82 [.one (.mp MW (m.map ent))] = some ([.one (.mp MW (m.map ent))],[.one (.mp MW (m.map ent))]):=(congrFun (jU rfl) _).trans (M.mc m)
def dS (s:Nv) (was:Int) (q:ByteArray):St:=⟨[(0,PV.c (CV.one (PL.ptr 20201 0))),(1,PV.c (CV.one (PL.f (FV.str q)))),(5,PV.c (CV.one (PL.f (FV.int IntKind.i64 was))))],[(20201,Ob.lC [PL.f (FV.int IntKind.i64 s.room),PL.mp 20205,PL.f (FV.sl (List.map rQ s.o)),PL.f (FV.int IntKind.i64 s.ch)]),(20205,Ob.map MW (s.m.map ent))]⟩
def rF (q:ByteArray) (s:Nv) (k:Qn):Nv:=if k.q = q then ⟨s.room,rid s.m k,wB s.o k,s.ch⟩ else s
theorem C9 (k:Qn):kvC (kq k) = .agg [.f (.str k.q),.f (.int .i64 k.t),.f (.int .i64 k.c)]:=rfl
theorem Ng (C:qR ext) (hF:200000000000001 ≤ F) (s:Nv) (was:Int) (q:ByteArray) (k:Qn) (ho:s.o.length ≤ 1000000):pR (G ext F (n + 4)) F [0,1,5] [20201,20205,20208,820200] 24 Wh [0,1,5,6] rB (dS s was q) (kq k) = some (dS (rF q s k) was q):=by
 refine J5 ?_
 have h1:=fun n=>EP (ext:=ext) (F:=F) (n:=n) C s.o k ho hF
 have hdl:=ES s.m k
 by_cases h:k.q = q
 ·have e:rF q s k = ⟨s.room,rid s.m k,wB s.o k,s.ch⟩:=if_pos h
  have h':decide (k.q = q) = true:=decide_eq_true h
  rw [e]
  simp only [dS,C9]
  simp only [Wh,rB,C9,h',h1,hdl,dS,go_sem,Nat.reduceAdd,Nat.reduceMul,Nat.reduceEqDiff,Nat.reduceBEq,Nat.reduceMod,Nat.reduceDiv,↓reduceIte,reduceCtorEq]
 ·have e:rF q s k = s:=if_neg h
  have h':decide (k.q = q) = false:=decide_eq_false h
  rw [e]
  simp only [dS,C9]
  simp only [Wh,rB,C9,h',dS,go_sem,Nat.reduceAdd,Nat.reduceMul,Nat.reduceEqDiff,Nat.reduceBEq,Nat.reduceMod,Nat.reduceDiv,↓reduceIte,reduceCtorEq]
theorem Fe (C:qR ext) (hF:200000000000001 ≤ F) (was:Int) (q:ByteArray):∀ (l:List Qn) (s:Nv),s.o.length ≤ 1000000 → yQ (pR (G ext F (n + 4)) F [0,1,5] [20201,20205,20208,820200] 24 Wh [0,1,5,6] rB) (dS s was q) (l.map kq) = some (dS (l.foldl (rF q) s) was q)
 | [],s,_=>rfl
 | k :: l,s,ho=>by
  show (pR _ _ _ _ _ _ _ _ _ _).bind _ = _
  rw [Ng C hF s was q k ho]
  refine Fe C hF was q l (rF q s k) ?_
  unfold rF
  split
  ·exact Nat.le_trans xA ho
  ·exact ho
theorem yU {l:List Nt} {a:Qn} (h:(ks l).Nodup):rid l a = l.filter fun x=>decide (x.k ≠ a):=by
 induction l with
 | nil=>rfl
 | cons x l ih =>
  have hc:=List.nodup_cons.mp h
  rw [yK,List.filter_cons]
  by_cases hx:x.k = a
  ·rw [if_pos hx,if_neg (by simp [hx])]
   exact (List.filter_eq_self.mpr fun y hy=>by
    simp only [decide_eq_true_eq];rintro e;exact hc.1 (by rw [hx,← e];exact List.mem_map_of_mem hy)).symm
  ·rw [if_neg hx,if_pos (by simpa using hx),ih hc.2]
theorem yV (q:ByteArray):∀ (l:List Qn) (s:Nv),(ks s.m).Nodup → l.foldl (rF q) s = ⟨s.room,s.m.filter (fun x=>decide (¬ (x.k ∈ l ∧ x.k.q = q))),s.o.filter (fun x=>decide (¬ (x ∈ l ∧ x.q = q))),s.ch⟩
 | [],s,_=>by
  have e1:s.m.filter (fun x=>decide (¬ (x.k ∈ ([]:List Qn) ∧ x.k.q = q))) = s.m:=List.filter_eq_self.mpr fun _ _=>by simp
  have e2:s.o.filter (fun x=>decide (¬ (x ∈ ([]:List Qn) ∧ x.q = q))) = s.o:=List.filter_eq_self.mpr fun _ _=>by simp
  rw [e1,e2];rfl
 | k :: l,s,h=>by
  rw [List.foldl_cons]
  by_cases hk:k.q = q
  ·have e:rF q s k = ⟨s.room,rid s.m k,wB s.o k,s.ch⟩:=if_pos hk
   rw [e,yV q l _ (qB h),yU h]
   unfold wB
   simp only [List.filter_filter]
   congr 1
   ·refine List.filter_congr fun x _=>?_
    by_cases h1:x.k = k <;> simp [h1,hk]
   ·refine List.filter_congr fun x _=>?_
    by_cases h1:x = k <;> simp [h1,hk]
  ·have e:rF q s k = s:=if_neg hk
   rw [e,yV q l _ h]
   congr 1
   ·refine List.filter_congr fun x _=>?_
    by_cases h1:x.k = k <;> simp [h1,hk]
   ·refine List.filter_congr fun x _=>?_
    by_cases h1:x = k <;> simp [h1,hk]
def vN (s:Nv) (q:ByteArray):Nv:=⟨s.room,s.m.filter (fun x=>decide (x.k.q ≠ q)),s.o.filter (fun x=>decide (¬ (x ∈ ks s.m ∧ x.q = q))),s.ch⟩
theorem GV {q:ByteArray} {l:List Qn} {s:Nv} (h:(ks s.m).Nodup) (hl:l.Perm (ks s.m)):l.foldl (rF q) s = vN s q:=by
 rw [yV q l s h]
 unfold vN
 congr 1
 ·refine List.filter_congr fun x hx=>?_
  have:x.k ∈ l:=hl.mem_iff.mpr (List.mem_map_of_mem hx)
  simp [this]
 ·refine List.filter_congr fun x hx=>?_
  simp only [hl.mem_iff]
def Nh : KV → Qn
 | .agg [.str q,.int _ t,.int _ c]=>⟨q,t,c⟩
 | _=>⟨#[]⟩ |> fun b=>⟨b,0,0⟩
theorem QD (k:Qn):Nh (kq k) = k:=rfl
theorem QE {m:List KV} {l:List Qn} (h:m.Perm (l.map kq)):∃ m':List Qn,m = m'.map kq ∧ m'.Perm l:=by
 refine ⟨m.map Nh,?_,?_⟩
 ·rw [List.map_map]
  have:∀ x ∈ m,(kq ∘ Nh) x = id x:=fun x hx=>by
   obtain ⟨k,_,rfl⟩:=List.mem_map.mp (h.mem_iff.mp hx)
   rfl
  exact ((List.map_congr_left this).trans (List.map_id m)).symm
 ·have:=h.map Nh
  rw [List.map_map,show (Nh ∘ kq) = id from funext QD,List.map_id] at this
  exact this
def mJ (s:Nv) (q:ByteArray):Nv × Int :=
 (⟨s.room,(vN s q).m,(vN s q).o,if 0 < (s.m.length:Int) - (vN s q).m.length then s.ch + 1 else s.ch⟩,(s.m.length:Int) - (vN s q).m.length)
theorem Ni (m:List Nt):(m.map ent).map (fun p=>p.1) = (ks m).map kq:=by
 rw [List.map_map,List.map_map];rfl
theorem Nj (q:ByteArray):Wi ext F (n + 4) [.one .jd,vs q] = some ([vi 0],[.one .jd,vs q]):=by
 refine J5 ?_
 simp only [Wi,rA,cDr,go_sem,Nat.reduceAdd,Nat.reduceMul,Nat.reduceEqDiff,Nat.reduceBEq,Nat.reduceMod,Nat.reduceDiv,↓reduceIte,reduceCtorEq]
theorem Nk (C:qR ext) (M:Wj ext) (hF:200000000000001 ≤ F) (s:Nv) (q:ByteArray) (h:(ks s.m).Nodup) (ho:s.o.length ≤ 1000000) (hm:s.m.length ≤ 1000000) (hc:0 ≤ s.ch ∧ s.ch ≤ 1000000000000):Wi ext F (n + 4) [s.v,vs q] = some ([vi (mJ s q).2],[(mJ s q).1.v,vs q]):=by
 refine J5 ?_
 have hmc:=fun n=>aas (F:=F) (n:=n) M s.m
 have hw:IntKind.i64.wrap (s.ch + 1) = s.ch + 1:=vL (by omega) (by omega)
 have hle:(vN s q).m.length ≤ s.m.length:=List.length_filter_le ..
 have hw2:IntKind.i64.wrap ((s.m.length:Int) - (vN s q).m.length) = (s.m.length:Int) - (vN s q).m.length:=vL (by omega) (by omega)
 have hfo:Bd (pR (G ext F (n + 4)) F [0,1,5] [20201,20205,20208,820200] 24 Wh [0,1,5,6] rB) (dS s s.m.length q) ((s.m.map ent).map (fun p=>p.1)) = some (dS (vN s q) s.m.length q):=by
  refine Nf fun m hp=>?_
  rw [Ni] at hp
  obtain ⟨m',rfl,hp'⟩:=QE hp
  rw [Fe C hF _ q m' s ho,GV h hp']
 have hka:∀ ob,kA [20201,20205,20208,820200] ob (some (.c (.one (.mp 400200)))) = kB (get ob 400200):=fun _=>rfl
 simp only [dS] at hfo
 simp only [Wi,rA,rG4,rC,cDr,hmc,hka,List.length_map,hfo,hw2,hw,go_sem,Nat.reduceAdd,Nat.reduceMul,Nat.reduceEqDiff,Nat.reduceBEq,Nat.reduceMod,Nat.reduceDiv,↓reduceIte,reduceCtorEq]
 repeat' (refine bO (fun h=>?_) (fun h=>?_) <;> simp only [h,hw2,hw,go_sem,Nat.reduceAdd,Nat.reduceMul,Nat.reduceEqDiff,Nat.reduceBEq,Nat.reduceMod,Nat.reduceDiv,↓reduceIte,reduceCtorEq])
 all_goals simp only [decide_eq_true_eq,decide_eq_false_iff_not] at *
 ·simp only [mJ];rw [if_pos h,← hw];rfl
 ·simp only [mJ];rw [if_neg h];rfl
end Go.Proofs.Ytdkkgecdhapfhaa.Kn
namespace Go.Proofs.Ytdkkgecdhapfhaa.Kn
open Go Ev
variable {θ : Th} {gt:ByteArray → Int → Int → Int × Bool}
structure Rl (s:Nv) (k:Rn):Prop where
 room:s.room = k.room
 ch:s.ch = k.ch
 ord:s.o = ks k.l
 ko:(ks k.l).Nodup
 Nl:(ks s.m).Nodup
 old:∀ b,old s.m b = old k.l b
 len:(k.l.length:Int) ≤ k.room
theorem I4 {l:List Nt} {now:Int} {b:Qn} (h:(ks l).Nodup):M5 l now b = nof l now b:=by
 unfold M5 nof
 induction l with
 | nil=>rfl
 | cons x l ih =>
  have hc:=List.nodup_cons.mp h
  rw [List.find?_cons,pJ]
  by_cases hx:x.k = b
  ·rw [if_pos hx]
   cases hv:iM now x.u with
   | true=>simp [hx,hv]
   | false =>
    have hno:b ∉ ks l:=by rw [← hx];exact hc.1
    simp only [hx,hv,decide_true,Bool.and_false,Bool.false_eq_true,if_false]
    refine List.find?_eq_none.mpr fun y hy=>?_
    have:y.k ≠ b:=fun e=>hno (by rw [← e];exact List.mem_map_of_mem hy)
    simp [this]
  ·rw [if_neg hx,← ih hc.2]
   simp [hx]
theorem Nn {s:Nv} {k:Rn} (h:Rl s k) (now:Int) (b:Qn):nof s.m now b = nof k.l now b:=by
 unfold nof;rw [h.old b]
theorem Np {s:Nv} {k:Rn} (h:Rl s k) (now:Int) (b:Qn):kS s now b = uf k now b:=by
 unfold kS uf
 rw [I4 h.ko,I4 h.ko,Nn h,Nn h]
 all_goals (cases nof k.l now b.w <;> rfl)
theorem QF {l:List Nt} {a:Qn} (h:(ks l).Nodup):IV l a = rid l a:=(yU h).symm
theorem Bg {now ttl:Int}:fu now ttl < 0 ↔ AY now = false ∨ ttl < 0:=by
 unfold fu AY
 split
 ·rename_i h
  simp only [decide_eq_true_eq] at h
  simp only [decide_eq_false_iff_not]
  constructor
  ·intro h1;split at h1 <;> omega
  ·rintro (h1 | h1) <;> omega
 ·rename_i h
  simp only [decide_eq_true_eq] at h
  simp only [decide_eq_false_iff_not]
  constructor
  ·intro _;omega
  ·intro _;decide
theorem Nq {now ttl:Int}:fu now ttl = -1 ↔ fu now ttl < 0:=by
 constructor
 ·intro h;omega
 ·intro h
  have:=Bg.mp h
  refine yI ?_
  rintro ⟨h1,h2⟩
  rcases this with h3 | h3
  ·unfold AY at h3;rw [decide_eq_false_iff_not] at h3;exact h3 h1
  ·omega
theorem Wm (hg:∀ s a z,0 ≤ (gt s a z).1) (x:Se) (h:(lF θ gt x).2 = true):0 ≤ (lF θ gt x).1:=by
 unfold lF at h ⊢
 split
 ·rename_i h1
  have:=h1.1
  unfold Th.set at this
  rw [decide_eq_true_eq] at this
  have h2:=hg (x.d.headD ⟨#[]⟩) ((x.d.headD ⟨#[]⟩).size - 4) 4
  dsimp only
  split
  ·exact this.2.2.1.1
  ·exact h2
 ·rename_i h1
  rw [if_neg h1] at h;cases h
theorem Fg {s:Nv} {k:Rn} (hg:∀ s a z,0 ≤ (gt s a z).1) (hr:1 ≤ k.room) {now:Int} {b:Qn} {x:Se}:((lF θ gt x).2 = false ∨ fu now (lF θ gt x).1 = -1 ∨ θ.ask b = false) ↔ θ.narg gt k now b x:=by
 unfold Th.narg Th.ask
 rw [Nq,Bg]
 have hb:(θ.key b.q b.t b.c && !decide (b.t = 0)) = false ↔ θ.key b.q b.t b.c = false ∨ b.t = 0:=by
  cases θ.key b.q b.t b.c <;> simp
 rw [hb]
 constructor
 ·rintro (h | (h | h) | h | h)
  ·exact .inr (.inr (.inl h))
  ·exact .inr (.inl h)
  ·cases hm:(lF θ gt x).2 with
   | false=>exact .inr (.inr (.inl rfl))
   | true=>have:=Wm (θ:=θ) hg x hm;omega
  ·exact .inr (.inr (.inr (.inl h)))
  ·exact .inr (.inr (.inr (.inr h)))
 ·rintro (h | h | h | h | h)
  ·omega
  ·exact .inr (.inl (.inl h))
  ·exact .inl h
  ·exact .inr (.inr (.inl h))
  ·exact .inr (.inr (.inr h))
theorem QG {s:Nv} {k:Rn} (hg:∀ s a z,0 ≤ (gt s a z).1) (h:Rl s k) (hr:1 ≤ k.room) (now:Int) (b:Qn) (kC:Bool) (x:Se):(jV θ gt s now b kC x).2 = (nA θ gt k now b kC x).2 ∧ Rl (jV θ gt s now b kC x).1 (nA θ gt k now b kC x).1:=by
 by_cases ha:θ.narg gt k now b x
 ·have e:jV θ gt s now b kC x = (s,1):=by unfold jV;exact if_pos ((Fg (s:=s) hg hr).mpr ha)
  rw [e,CX ha];exact ⟨rfl,h⟩
 have ha':=fun e=>ha ((Fg (θ:=θ) (s:=s) hg hr).mp e)
 cases hl:iM now (fu now (lF θ gt x).1) with
 | false =>
  have e:jV θ gt s now b kC x = (s,14):=by unfold jV;rw [if_neg ha',if_pos hl]
  rw [e,E5 ha hl];exact ⟨rfl,h⟩
 | true =>
 rw [ug ha hl rfl]
 have hs:jV θ gt s now b kC x = (⟨s.room,((wB s.o (kn kC b) ++ [kn kC b]).take ((wB s.o (kn kC b) ++ [kn kC b]).length - s.room.toNat)).foldl rid (upd s.m ⟨kn kC b,kC,x,fu now (lF θ gt x).1⟩),(wB s.o (kn kC b) ++ [kn kC b]).drop ((wB s.o (kn kC b) ++ [kn kC b]).length - s.room.toNat),s.ch + 1⟩,0):=by
  unfold jV;rw [if_neg ha',if_neg (by rw [hl];decide)]
 rw [hs]
 refine ⟨rfl,?_⟩
 generalize hit:(⟨kn kC b,kC,x,fu now (lF θ gt x).1⟩:Nt) = it
 have hkx:it.k = kn kC b:=by rw [← hit]
 generalize kn kC b = a at hkx ⊢
 have ht:wB s.o a ++ [a] = ks (rid k.l a ++ [it]):=by rw [h.ord,← V6 h.ko];simp [ks,hkx]
 rw [ht,QF h.ko]
 have hnd:(ks (rid k.l a ++ [it])).Nodup:=Ke (qB h.ko) (by rw [hkx];exact Ba h.ko)
 have hm1:∀ c,old (upd s.m it) c = old (rid k.l a ++ [it]) c:=fun c=>by
  rw [Qx,IL (by rw [hkx];exact Ba h.ko),hkx,CQ h.ko,h.old c]
  by_cases hc:c = a <;> simp [hc]
 have hlen:=h.len
 have hl2:=@Qy k.l a
 generalize hL:rid k.l a ++ [it] = L at ht hnd hm1 ⊢
 have hLl:L.length = (rid k.l a).length + 1:=by rw [← hL];simp
 have hkl:(ks L).length = L.length:=by simp [ks]
 rw [hkl,h.room]
 by_cases hc:k.room < (L.length:Int)
 ·have h1:L.length - k.room.toNat = 1:=by omega
  rw [h1]
  have hcut:z8 k.room L = L.drop 1:=by unfold z8;exact if_pos hc
  rw [hcut]
  cases L with
  | nil=>simp at hLl
  | cons y L =>
   have hn:=List.nodup_cons.mp hnd
   refine ⟨h.room ▸ rfl,by show s.ch + 1 = k.ch + 1;rw [h.ch],rfl,hn.2,qB (qC h.Nl),fun c=>?_,?_⟩
   ·show old (rid (upd s.m it) y.k) c = old L c
    rw [CQ (qC h.Nl),hm1 c,pJ]
    by_cases hy:c = y.k
    ·subst hy;rw [if_pos rfl,CO hn.1]
    ·rw [if_neg hy,if_neg (fun e=>hy e.symm)]
   ·simp only [List.length_cons] at hLl
    show ((L.length:Nat):Int) ≤ k.room
    omega
 ·have h1:L.length - k.room.toNat = 0:=by omega
  rw [h1]
  have hcut:z8 k.room L = L:=by unfold z8;exact if_neg hc
  rw [hcut]
  refine ⟨h.room ▸ rfl,by show s.ch + 1 = k.ch + 1;rw [h.ch],rfl,hnd,qC h.Nl,hm1,by show (L.length:Int) ≤ k.room;omega⟩
theorem l8 {l:List Nt} {b:Qn}:b ∈ ks l ↔ (old l b).isSome = true:=by
 constructor
 ·intro hb
  cases ho:old l b with
  | some _=>rfl
  | none =>
   obtain ⟨y,hy,hk⟩:=List.mem_map.mp hb
   have:=List.find?_eq_none.mp ho y hy
   simp [hk] at this
 ·intro hb
  obtain ⟨y,hy⟩:=Option.isSome_iff_exists.mp hb
  have:=xB hy
  rw [← this.1];exact List.mem_map_of_mem this.2
theorem Nr {s:Nv} {k:Rn} (h:Rl s k) (b:Qn):b ∈ ks s.m ↔ b ∈ ks k.l:=by rw [l8,l8,h.old]
theorem yX {l:List Nt} {q:ByteArray} {b:Qn}:old (l.filter fun x=>decide (x.k.q ≠ q)) b = if b.q = q then none else old l b:=by
 unfold old
 rw [List.find?_filter]
 by_cases hb:b.q = q
 ·rw [if_pos hb]
  refine List.find?_eq_none.mpr fun x _=>?_
  simp only [Bool.and_eq_true,decide_eq_true_eq,not_and]
  rintro h1 rfl;exact h1 hb
 ·rw [if_neg hb]
  congr 1
  funext x
  by_cases hx:x.k = b
  ·simp [hx,hb]
  ·simp [hx]
theorem GX {s:Nv} {k:Rn} (h:Rl s k):s.m.length = k.l.length:=by
 have hp:(ks s.m).Perm (ks k.l):=(List.perm_ext_iff_of_nodup h.Nl h.ko).mpr fun b=>Nr h b
 have:=hp.length_eq
 simpa [ks] using this
theorem Ns {s:Nv} {k:Rn} (h:Rl s k) (q:ByteArray):(mJ s q).2 = (pO k q).2 ∧ Rl (mJ s q).1 (pO k q).1:=by
 have h1:=GX h
 have hnm:(ks (s.m.filter fun x=>decide (x.k.q ≠ q))).Nodup:=(List.filter_sublist.map _).nodup h.Nl
 have hnl:(ks (k.l.filter fun x=>decide (x.k.q ≠ q))).Nodup:=(List.filter_sublist.map _).nodup h.ko
 have hold:∀ b,old (s.m.filter fun x=>decide (x.k.q ≠ q)) b = old (k.l.filter fun x=>decide (x.k.q ≠ q)) b:=fun b=>by rw [yX,yX,h.old b]
 have h2:(s.m.filter fun x=>decide (x.k.q ≠ q)).length = (k.l.filter fun x=>decide (x.k.q ≠ q)).length:=by
  have hp:(ks (s.m.filter fun x=>decide (x.k.q ≠ q))).Perm (ks (k.l.filter fun x=>decide (x.k.q ≠ q))):=(List.perm_ext_iff_of_nodup hnm hnl).mpr fun b=>by rw [l8,l8,hold]
  have:=hp.length_eq
  simpa [ks] using this
 refine ⟨?_,h.room,?_,?_,hnl,hnm,hold,?_⟩
 ·show (s.m.length:Int) - (s.m.filter fun x=>decide (x.k.q ≠ q)).length = (k.l.length:Int) - (k.l.filter fun x=>decide (x.k.q ≠ q)).length
  rw [h1,h2]
 ·show (if 0 < (s.m.length:Int) - (s.m.filter fun x=>decide (x.k.q ≠ q)).length then s.ch + 1 else s.ch) = (if 0 < (k.l.length:Int) - (k.l.filter fun x=>decide (x.k.q ≠ q)).length then k.ch + 1 else k.ch)
  rw [h1,h2,h.ch]
 ·show s.o.filter (fun x=>decide (¬ (x ∈ ks s.m ∧ x.q = q))) = ks (k.l.filter fun x=>decide (x.k.q ≠ q))
  rw [h.ord]
  unfold ks
  rw [List.filter_map]
  congr 1
  refine List.filter_congr fun x hx=>?_
  have:x.k ∈ ks s.m:=(Nr h _).mpr (List.mem_map_of_mem hx)
  show decide (¬ (x.k ∈ ks s.m ∧ x.k.q = q)) = decide (x.k.q ≠ q)
  exact decide_eq_decide.mpr ⟨fun h1 h2=>h1 ⟨this,h2⟩,fun h1 h2=>h1 h2.2⟩
 ·show ((k.l.filter fun x=>decide (x.k.q ≠ q)).length:Int) ≤ k.room
  have:=h.len
  have:=List.length_filter_le (fun x:Nt=>decide (x.k.q ≠ q)) k.l
  omega
end Go.Proofs.Ytdkkgecdhapfhaa.Kn
set_option maxRecDepth 4000
namespace Go.Proofs.Ytdkkgecdhapfhaa.Kn
open Go Ev
variable {ext : Env} {F n:Nat} {θ:Th} {gt:ByteArray → Int → Int → Int × Bool}
structure Nu (ext:Env):Prop where
 d0:∀ q,ext 50 [.one .jd,vs q] = some ([vi 0],[.one .jd,vs q])
 d1:∀ (s:Nv) (q:ByteArray),(ks s.m).Nodup → s.o.length ≤ 1000000 → s.m.length ≤ 1000000 → 0 ≤ s.ch ∧ s.ch ≤ 1000000000000 → ext 50 [s.v,vs q] = some ([vi (mJ s q).2],[(mJ s q).1.v,vs q])
theorem Kq (D:Nu ext) (q:ByteArray):G ext F (n + 1) 50 [.one .jd,vs q] = some ([vi 0],[.one .jd,vs q]):=(congrFun (jU rfl) _).trans (D.d0 q)
theorem Fh (D:Nu ext) (s:Nv) (q:ByteArray) (h:(ks s.m).Nodup) (ho:s.o.length ≤ 1000000) (hm:s.m.length ≤ 1000000) (hc:0 ≤ s.ch ∧ s.ch ≤ 1000000000000):G ext F (n + 1) 50 [s.v,vs q] = some ([vi (mJ s q).2],[(mJ s q).1.v,vs q]):=(congrFun (jU rfl) _).trans (D.d1 s q h ho hm hc)
abbrev dz : ByteArray:=⟨#[0,0,48,49,50,51,52,53,54,55,56,57,97,98,99,100,101,102,0,0,0,9]⟩
abbrev rt : ByteArray:=⟨#[0]⟩
abbrev na : ByteArray:=⟨#[1,97,0]⟩
abbrev r9 (ttl:Int):Se:=⟨rt,6,1,[dz],ttl⟩
theorem Wn (t:Int):G ext F (n + 1) 72 [vi t] = some ([(r9 t).v],[vi t]):=by
 refine eH (cf:=c72) rfl ?_
 simp only [c72,go_sem,Nat.reduceAdd,Nat.reduceMul,Nat.reduceEqDiff,Nat.reduceBEq,Nat.reduceMod,Nat.reduceDiv,↓reduceIte,reduceCtorEq]
 rfl
structure Th.pU (θ:Th) (gt:ByteArray → Int → Int → Int × Bool):Prop where
 r1:θ.jG rt = true
 r2:θ.low rt = rt
 a1:θ.jG na = true
 a2:θ.low na = na
 e1:θ.wQ 6 dz = true
 e2:θ.lw 6 dz = dz
 g:gt dz 18 4 = (9,true)
abbrev ka : Qn:=⟨na,1,1⟩
abbrev kb : Qn:=⟨na,2,1⟩
abbrev i1 : Nt:=⟨ka,false,r9 7,12⟩
abbrev i2 : Nt:=⟨ka.w,true,r9 20,14⟩
abbrev t0 : Nv:=⟨2,[],[],0⟩
abbrev t1 : Nv:=⟨2,[i1],[ka],1⟩
abbrev t2 : Nv:=⟨2,[i1,i2],[ka,ka.w],2⟩
abbrev t3 : Nv:=⟨2,[],[],3⟩
theorem QH (L:θ.pU gt) (ttl:Int) (h:0 ≤ ttl ∧ ttl < 2147483648):θ.set rt 6 1 [dz] ttl = true:=by simp [Th.set,Th.key,Th.dat,L.r1,L.r2,L.e1,L.e2,h]
theorem uq (L:θ.pU gt) (ttl:Int) (h:0 ≤ ttl ∧ ttl < 2147483648):lF θ gt (r9 ttl) = (if ttl < 9 then ttl else 9,true):=by
 unfold lF
 rw [if_pos ⟨QH L ttl h,rfl⟩]
 have:(((r9 ttl).d.headD ⟨#[]⟩).size:Int) - 4 = 18:=by show ((dz.size:Nat):Int) - 4 = 18;decide
 rw [this]
 show (if ttl < (gt dz 18 4).1 then ttl else (gt dz 18 4).1,true) = _
 rw [L.g]
theorem aat (L:θ.pU gt):lF θ gt (r9 20) = (9,true):=by rw [uq L 20 (by decide)];rfl
theorem Nw (L:θ.pU gt):θ.ask ka = true:=by simp [Th.ask,Th.key,L.a1,L.a2]
theorem lv1 (L:θ.pU gt):jV θ gt t0 5 ka false (r9 7) = (t1,0):=by simp [jV,uq L 7 (by decide),Nw L,fu,AY,iM,upd,wB,kn]
theorem lv2 : kS t1 11 ka = (i1,true):=by simp [kS,nof,old,iM,AY,M7]
theorem lv3 : kS t1 12 ka = (O7,false):=by simp [kS,nof,old,iM,AY,M7]
theorem lv4 (L:θ.pU gt):jV θ gt t1 5 ka true (r9 20) = (t2,0):=by simp [jV,uq L 20 (by decide),Nw L,fu,AY,iM,upd,wB,kn,List.findIdx?_cons]
theorem lv5 : kS t2 13 kb = (i2,true):=by simp [kS,nof,old,iM,AY,M7]
theorem lv6 : mJ t2 na = (t3,2):=by simp [mJ,vN,ks]
theorem lv7 (L:θ.pU gt):jV θ gt t3 5 ka true (r9 0) = (t3,14):=by simp [jV,uq L 0 (by decide),Nw L,fu,AY,iM]
theorem lv8 (L:θ.pU gt):jV θ gt t3 (-1) ka true (r9 1) = (t3,1):=by simp [jV,uq L 1 (by decide),fu,AY]
set_option maxRecDepth 100000 in
set_option maxHeartbeats 16000000 in
theorem Kr (T:θ.Ok ext) (O:zZ gt ext) (C:qR ext) (D:Nu ext) (L:θ.pU gt) (hF:200000000000001 ≤ F):G ext F (n + 7) 38 [] = some ([vb true],[]):=by
 refine eH (cf:=EF) rfl ?_
 have n2:∀ n,G ext F (n + 1) 39 [vi 2] = some ([t0.v],[vi 2]):=fun n=>CU 2
 have n0:∀ n,G ext F (n + 1) 39 [vi 0] = some ([.one .jd],[vi 0]):=fun n=>CU 0
 have s:=fun n t=>Wn (ext:=ext) (F:=F) (n:=n) t
 have m1:=fun n=>kY (F:=F) (n:=n) T O (r9 20) hF (by decide) (by decide) (by decide)
 have m2:=fun n=>kY (F:=F) (n:=n) T O ⟨⟨#[]⟩,0,0,[],0⟩ hF (by decide) (by decide) (by decide)
 have hm2:lF θ gt ⟨⟨#[]⟩,0,0,[],0⟩ = (0,false):=by unfold lF;rw [if_neg (by rintro ⟨-,h⟩;cases h)]
 have p1:=fun n=>uj (F:=F) (n:=n) T O C t0 5 ka false (r9 7) hF (by decide) (by decide) (by decide) (by decide) (by decide) (by decide) (by decide)
 have p2:=fun n=>uh (F:=F) (n:=n) C t1 11 ka hF (by decide)
 have p3:=fun n=>uh (F:=F) (n:=n) C t1 12 ka hF (by decide)
 have p4:=fun n=>uj (F:=F) (n:=n) T O C t1 5 ka true (r9 20) hF (by decide) (by decide) (by decide) (by decide) (by decide) (by decide) (by decide)
 have p5:=fun n=>uh (F:=F) (n:=n) C t2 13 kb hF (by decide)
 have p6:=fun n=>Fh (F:=F) (n:=n) D t2 na (by decide) (by decide) (by decide) (by decide)
 have p7:=fun n=>uj (F:=F) (n:=n) T O C t3 5 ka true (r9 0) hF (by decide) (by decide) (by decide) (by decide) (by decide) (by decide) (by decide)
 have p8:=fun n=>uj (F:=F) (n:=n) T O C t3 (-1) ka true (r9 1) hF (by decide) (by decide) (by decide) (by decide) (by decide) (by decide) (by decide)
 have c2:=fun n=>ny (ext:=ext) (F:=F) (n:=n) (some t2)
 have c3:=fun n=>ny (ext:=ext) (F:=F) (n:=n) (some t3)
 have k2:=fun n=>yM (ext:=ext) (F:=F) (n:=n) C (some t2) (by rintro s ⟨⟩;decide)
 rw [aat L] at m1
 rw [hm2] at m2
 rw [lv1 L] at p1
 rw [lv2] at p2
 rw [lv3] at p3
 rw [lv4 L] at p4
 rw [lv5] at p5
 rw [lv6] at p6
 rw [lv7 L] at p7
 rw [lv8 L] at p8
 simp only [tY,List.map_cons,List.map_nil,fO,ent,rN,rQ,Nv.v,Nt.v,Se.v,tV,Qn.v,Qn.w,vq,kq,O7] at n2 s m1 m2 p1 p2 p3 p4 p5 p6 p7 p8 c2 c3 k2
 simp only [EF,n2,n0,s,m1,m2,p1,p2,p3,p4,p5,p6,p7,p8,c2,c3,k2,show ((2:Nat):Int) = 2 from rfl,go_sem,Nat.reduceAdd,Nat.reduceMul,Nat.reduceEqDiff,Nat.reduceBEq,Nat.reduceMod,Nat.reduceDiv,↓reduceIte,reduceCtorEq]
end Go.Proofs.Ytdkkgecdhapfhaa.Kn
set_option maxRecDepth 4000
namespace Go.Proofs.Ytdkkgecdhapfhaa.Kn
open Go Ev
variable {ext : Env} {F n:Nat} {θ:Th} {gt:ByteArray → Int → Int → Int × Bool}
theorem I5 {l:List On} {x:On} (h:yN l = true) (hx:x ∈ l):x.k.q.size ≤ 1000000 ∧ x.s.q.size ≤ 1000000 ∧ x.s.d.length ≤ 1000000 ∧ ∀ y ∈ x.s.d,y.size ≤ 1000000:=by
 have h1:=List.all_eq_true.mp h x hx
 unfold oz EL at h1
 rw [Bool.and_eq_true,Bool.and_eq_true,List.all_eq_true,decide_eq_true_eq,decide_eq_true_eq] at h1
 refine ⟨by omega,by omega,?_,fun y hy=>?_⟩
 ·cases hd:x.s.d with
  | nil=>simp
  | cons y d =>
   have:=h1.1.1 y (by rw [hd];simp)
   simp only [Bool.and_eq_true,decide_eq_true_eq] at this
   rw [hd] at this;omega
 ·have:=h1.1.1 y hy
  simp only [Bool.and_eq_true,decide_eq_true_eq] at this
  omega
end Go.Proofs.Ytdkkgecdhapfhaa.Kn
set_option maxRecDepth 4000
namespace Go.Proofs.Ytdkkgecdhapfhaa.Kn
open Go Ev
variable {ext : Env} {F n:Nat} {θ:Th} {gt:ByteArray → Int → Int → Int × Bool}
structure Sz (i:Nat) (s:Nv):Prop where
 r:0 ≤ s.room ∧ s.room ≤ 1000000
 c:0 ≤ s.ch ∧ s.ch ≤ i
 o:s.o.length ≤ i
 m:s.m.length ≤ i
 d:∀ x ∈ s.m,x.s.d.length ≤ 1000000
 ko:(ks s.m).Nodup
theorem yY : ∀ {g:List Qn} {l:List Nt},(ks l).Nodup → (ks (g.foldl rid l)).Nodup
 | [],l,h=>h
 | a :: g,l,h=>yY (g:=g) (qB h)
theorem Sz.put {i:Nat} {s:Nv} (h:Sz i s) (now:Int) (k:Qn) (kC:Bool) (x:Se) (hx:x.d.length ≤ 1000000):Sz (i + 1) (jV θ gt s now k kC x).1:=by
 have hc:=h.c
 have hq:=@xA s.o (kn kC k)
 have ho:=h.o
 have hm:=h.m
 have up:Sz (i + 1) s:=⟨h.r,by omega,by omega,by omega,h.d,h.ko⟩
 unfold jV
 split
 ·exact up
 split
 ·exact up
 have hu:=@Qz s.m ⟨kn kC k,kC,x,fu now (lF θ gt x).1⟩
 refine ⟨h.r,by show 0 ≤ s.ch + 1 ∧ s.ch + 1 ≤ _;omega,?_,?_,fun y hy=>?_,yY (qC h.ko)⟩
 ·show (List.drop _ _).length ≤ _
  rw [List.length_drop,List.length_append,List.length_singleton];omega
 ·exact Nat.le_trans yL.length_le (by omega)
 ·rcases QA (yL.subset hy) with rfl | h1
  ·exact hx
  ·exact h.d y h1
theorem Sz.up {i:Nat} {s:Nv} (h:Sz i s):Sz (i + 1) s:=⟨h.r,by have:=h.c;omega,by have:=h.o;omega,by have:=h.m;omega,h.d,h.ko⟩
theorem Sz.drop {i:Nat} {s:Nv} (h:Sz i s) (q:ByteArray):Sz (i + 1) (mJ s q).1:=by
 have hc:=h.c
 have ho:=h.o
 have hm:=h.m
 refine ⟨h.r,?_,?_,?_,fun x hx=>h.d x ((List.mem_filter.mp hx).1),(List.filter_sublist.map _).nodup h.ko⟩
 ·have e:(mJ s q).1.ch = if 0 < (s.m.length:Int) - (vN s q).m.length then s.ch + 1 else s.ch:=rfl
  rw [e]
  by_cases hh:0 < (s.m.length:Int) - (vN s q).m.length
  ·rw [if_pos hh];omega
  ·rw [if_neg hh];omega
 ·exact Nat.le_trans (List.length_filter_le ..) (by omega)
 ·exact Nat.le_trans (List.length_filter_le ..) (by omega)
set_option maxHeartbeats 16000000 in
theorem Aa (T:θ.Ok ext) (O:zZ gt ext) (C:qR ext) (D:Nu ext) (L:θ.pU gt) (hF:200000000000001 ≤ F) (room:Int) (l:List On) (hl:l.length ≤ 200000000000000) (hd:∀ x ∈ l,x.s.d.length ≤ 200000000000000):G ext F (n + 8) 9 [vi room,vl (l.map A9)] = some ([vb true],[vi room,vl (l.map A9)]):=by
 refine eH (cf:=c9) rfl ?_
 have hs:=fun n=>GL (ext:=ext) (F:=F) (n:=n) l 60 hl hd hF
 have hv:=fun n=>Kr (F:=F) (n:=n) T O C D L hF
 have hn:=fun n=>CU (ext:=ext) (F:=F) (n:=n) room
 have hrn:=fun n=>MZ (ext:=ext) (F:=F) (n:=n) room
 cases hf:yN l && decide ((l.length:Int) ≤ 60) with
 | false =>
  rw [hf] at hs
  simp only [c9,hs,hv,go_sem,Nat.reduceAdd,Nat.reduceMul,Nat.reduceEqDiff,Nat.reduceBEq,Nat.reduceMod,Nat.reduceDiv,↓reduceIte,reduceCtorEq]
 | true =>
  rw [hf] at hs
  have aau:yN l = true ∧ l.length ≤ 60:=by
   rw [Bool.and_eq_true,decide_eq_true_eq] at hf
   exact ⟨hf.1,by omega⟩
  have bb:∀ b:Bool,decide (b = b) = true:=fun b=>decide_eq_true rfl
  have bi:∀ b:Int,decide (b = b) = true:=fun b=>decide_eq_true rfl
  by_cases hr:room < 1 ∨ 1000 < room
  ·rw [if_pos hr,tZ] at hn
   rw [if_pos hr] at hrn
   simp only [c9,hs,hv,hn,hrn,go_sem,Nat.reduceAdd,Nat.reduceMul,Nat.reduceEqDiff,Nat.reduceBEq,Nat.reduceMod,Nat.reduceDiv,↓reduceIte,reduceCtorEq]
   refine MS l.length (fun x:Nat=>⟨[(1,PV.c (CV.one (PL.f (FV.sl (List.map A9 l))))),(5,PV.c (CV.one PL.jd)),(6,PV.c (CV.one (PL.ptr 140000 0))),(7,PV.c (CV.one (PL.f (FV.int IntKind.i64 x))))],[(140000,Ob.lC [PL.f (FV.int IntKind.i64 0),PL.f (FV.sl []),PL.f (FV.int IntKind.i64 0)])]⟩) (fun i x=>x = i) (by omega) 0 rfl rfl (fun i x hi hP=>?_) (fun x hP=>?_)
   ·subst hP
    obtain ⟨x,hx,hlt,ht,h0⟩:=at_ hi
    have hn':=nx hi (Nat.le_trans hl (by decide))
    obtain ⟨z0,z1,z2,z3⟩:=I5 aau.1 (List.mem_of_getElem? hx)
    have m1:=fun n=>kY (F:=F) (n:=n) T O x.s hF z1 z2 z3
    have m2:=fun n=>pK (F:=F) (n:=n) T O x.s hF z1 z2 z3
    have k1:=fun n=>yM (ext:=ext) (F:=F) (n:=n) C none (by rintro s ⟨⟩)
    have k2:=fun n=>ny (ext:=ext) (F:=F) (n:=n) none
    have k3:=fun n=>EZ (ext:=ext) (F:=F) (n:=n) ⟨0,[],0⟩ (by decide) hF
    have k4:=fun n=>EM (ext:=ext) (F:=F) (n:=n) [] [] (by decide) hF
    have p1:=fun n=>Kh (F:=F) (n:=n) T O x.now x.k x.nx x.s hF z1 z2 z3
    have p2:=fun n=>E8 (F:=F) (n:=n) T O ⟨0,[],0⟩ x.now x.k x.nx x.s (by decide) hF (by decide) z0 z1 z2 z3
    have g1:=fun n=>GN (ext:=ext) (F:=F) (n:=n) x.now x.k
    have g2:=fun n=>EY (ext:=ext) (F:=F) (n:=n) ⟨0,[],0⟩ x.now x.k (by decide) hF
    have d1:=fun n=>Kq (F:=F) (n:=n) D x.k.q
    have d2:=fun n=>Bc (ext:=ext) (F:=F) (n:=n) ⟨0,[],0⟩ x.k.q (by decide) hF (by decide)
    have t1:=fun n=>EU (ext:=ext) (F:=F) (n:=n) O7
    have t2:=fun n=>IQ (ext:=ext) (F:=F) (n:=n) O7 O7 (by decide) hF
    rw [CX (show θ.narg gt ⟨0,[],0⟩ x.now x.k x.s from .inl rfl)] at p2
    rw [show uf ⟨0,[],0⟩ x.now x.k = (O7,false) from rfl] at g2
    rw [show pO ⟨0,[],0⟩ x.k.q = (⟨0,[],0⟩,0) from rfl] at d2
    rw [tZ] at k1 k2
    simp only [List.map_nil,decide_true,Rn.v] at k1 k3 k4 p2 g2 d2 t2
    by_cases c0:x.o = 0
    ·have c0':decide (x.o = 0) = true:=decide_eq_true c0
     simp only [List.length_map,List.getElem?_map,hlt,hx,ht,h0,hn',A9,m1,m2,bb,bi,k1,k2,k3,k4,p1,p2,c0',go_sem,Nat.reduceAdd,Nat.reduceMul,Nat.reduceEqDiff,Nat.reduceBEq,Nat.reduceMod,Nat.reduceDiv,↓reduceIte,reduceCtorEq]
     exact ⟨_,rfl,rfl⟩
    by_cases c1:x.o = 1
    ·have c0':decide (x.o = 0) = false:=decide_eq_false c0
     have c1':decide (x.o = 1) = true:=decide_eq_true c1
     simp only [List.length_map,List.getElem?_map,hlt,hx,ht,h0,hn',A9,m1,m2,bb,bi,k1,k2,k3,k4,g1,g2,t1,t2,c0',c1',go_sem,Nat.reduceAdd,Nat.reduceMul,Nat.reduceEqDiff,Nat.reduceBEq,Nat.reduceMod,Nat.reduceDiv,↓reduceIte,reduceCtorEq]
     exact ⟨_,rfl,rfl⟩
    by_cases c2:x.o = 2
    ·have c0':decide (x.o = 0) = false:=decide_eq_false c0
     have c1':decide (x.o = 1) = false:=decide_eq_false c1
     have c2':decide (x.o = 2) = true:=decide_eq_true c2
     simp only [List.length_map,List.getElem?_map,hlt,hx,ht,h0,hn',A9,m1,m2,bb,bi,k1,k2,k3,k4,d1,d2,c0',c1',c2',go_sem,Nat.reduceAdd,Nat.reduceMul,Nat.reduceEqDiff,Nat.reduceBEq,Nat.reduceMod,Nat.reduceDiv,↓reduceIte,reduceCtorEq]
     exact ⟨_,rfl,rfl⟩
    ·have c0':decide (x.o = 0) = false:=decide_eq_false c0
     have c1':decide (x.o = 1) = false:=decide_eq_false c1
     have c2':decide (x.o = 2) = false:=decide_eq_false c2
     simp only [List.length_map,List.getElem?_map,hlt,hx,ht,h0,hn',A9,m1,m2,bb,bi,k1,k2,k3,k4,c0',c1',c2',go_sem,Nat.reduceAdd,Nat.reduceMul,Nat.reduceEqDiff,Nat.reduceBEq,Nat.reduceMod,Nat.reduceDiv,↓reduceIte,reduceCtorEq]
     exact ⟨_,rfl,rfl⟩
   ·subst hP
    have hd':=@end_ _ l
    simp only [List.length_map,hd',hv,go_sem,Nat.reduceAdd,Nat.reduceMul,Nat.reduceEqDiff,Nat.reduceBEq,Nat.reduceMod,Nat.reduceDiv,↓reduceIte,reduceCtorEq]
  ·rw [if_neg hr,tY] at hn
   rw [if_neg hr] at hrn
   have h0:decide (room = 0) = false:=by simp;omega
   simp only [c9,hs,hv,hn,hrn,h0,go_sem,Nat.reduceAdd,Nat.reduceMul,Nat.reduceEqDiff,Nat.reduceBEq,Nat.reduceMod,Nat.reduceDiv,↓reduceIte,reduceCtorEq]
   refine MS l.length (fun x:Nat × Nv × Rn=>⟨[(1,PV.c (CV.one (PL.f (FV.sl (List.map A9 l))))),(5,PV.c (CV.one (PL.ptr 540200 0))),(6,PV.c (CV.one (PL.ptr 140000 0))),(7,PV.c (CV.one (PL.f (FV.int IntKind.i64 x.1))))],[(140000,Ob.lC [PL.f (FV.int IntKind.i64 x.2.2.room),PL.f (FV.sl (x.2.2.l.map rN)),PL.f (FV.int IntKind.i64 x.2.2.ch)]),(540200,Ob.lC [PL.f (FV.int IntKind.i64 x.2.1.room),PL.mp 540204,PL.f (FV.sl (x.2.1.o.map rQ)),PL.f (FV.int IntKind.i64 x.2.1.ch)]),(540204,Ob.map MW (x.2.1.m.map ent))]⟩) (fun i x=>x.1 = i ∧ Sz i x.2.1 ∧ Rl x.2.1 x.2.2 ∧ 1 ≤ x.2.2.room) (by omega) (0,⟨room,[],[],0⟩,⟨room,[],0⟩) rfl ⟨rfl,⟨by show 0 ≤ room ∧ room ≤ _;omega,⟨Int.le_refl _,Int.le_refl _⟩,Nat.le_refl _,Nat.le_refl _,by simp,List.nodup_nil⟩,⟨rfl,rfl,rfl,List.nodup_nil,List.nodup_nil,fun _=>rfl,by simp;omega⟩,by show 1 ≤ room;omega⟩ (fun i x hi hP=>?_) (fun x hP=>?_)
   ·obtain ⟨i',s,k⟩:=x
    obtain ⟨rfl,hsz,hrl,hk1⟩:=hP
    obtain ⟨x,hx,hlt,ht,h0⟩:=at_ hi
    have hn':=nx hi (Nat.le_trans hl (by decide))
    obtain ⟨z0,z1,z2,z3⟩:=I5 aau.1 (List.mem_of_getElem? hx)
    have hc:=hsz.c
    have ho:=hsz.o
    have hm:=hsz.m
    simp only at hsz hrl hk1 hc ho hm hi hlt ht h0 hn' ⊢
    have lk:∀ {s' k'},Rl s' k' → k'.l.length = s'.o.length:=fun h=>by rw [h.ord];simp [ks]
    have hkl:=lk hrl
    have hkc:0 ≤ k.ch ∧ k.ch ≤ 1000000000000:=by rw [← hrl.ch];omega
    have m1:=fun n=>kY (F:=F) (n:=n) T O x.s hF z1 z2 z3
    have m2:=fun n=>pK (F:=F) (n:=n) T O x.s hF z1 z2 z3
    have after:∀ s' k',Sz (i' + 1) s' → Rl s' k' → (∀ n,G ext F (n + 2) 51 [s'.v] = some ([vl (s'.o.map rQ)],[s'.v])) ∧ (∀ n,G ext F (n + 1) 53 [s'.v] = some ([vi k'.ch],[s'.v])) ∧ (∀ n,G ext F (n + 1) 52 [k'.v] = some ([vl (s'.o.map rQ)],[k'.v])) ∧ (∀ n,G ext F (n + 1) 28 [vl (s'.o.map rQ),vl (s'.o.map rQ)] = some ([vb true],[vl (s'.o.map rQ),vl (s'.o.map rQ)])):=by
     intro s' k' h1 h2
     have h4:=h1.o
     refine ⟨fun n=>yM C (some s') (by rintro _ ⟨⟩;omega),fun n=>?_,fun n=>?_,fun n=>?_⟩
     ·have:=ny (ext:=ext) (F:=F) (n:=n) (some s')
      rw [← h2.ch];exact this
     ·have:=EZ (ext:=ext) (F:=F) (n:=n) k' (by have:=lk h2;omega) hF
      rw [h2.ord];exact this
     ·have:=EM (ext:=ext) (F:=F) (n:=n) s'.o s'.o (by omega) hF
      rwa [decide_eq_true rfl] at this
    have cc:∀ c:Int,x.o ≠ c → decide (x.o = c) = false:=fun c h=>decide_eq_false h
    by_cases c0:x.o = 0
    ·have c0':decide (x.o = 0) = true:=decide_eq_true c0
     obtain ⟨e1,e2⟩:=QG (θ:=θ) O.nn hrl hk1 x.now x.k x.nx x.s
     have hz:=hsz.put (θ:=θ) (gt:=gt) x.now x.k x.nx x.s z2
     obtain ⟨k1,k2,k3,k4⟩:=after _ _ hz e2
     have p1:=fun n=>uj (F:=F) (n:=n) T O C s x.now x.k x.nx x.s hF hsz.r (by omega) (by omega) z0 z1 z2 z3
     have p2:=fun n=>E8 (F:=F) (n:=n) T O k x.now x.k x.nx x.s (by omega) hF hkc z0 z1 z2 z3
     rw [e1] at p1
     have hr2:1 ≤ (nA θ gt k x.now x.k x.nx x.s).1.room:=by unfold nA;split;exact hk1;split <;> exact hk1
     have hch:=e2.ch
     simp only [Nv.v,Rn.v,hch] at p1 p2 k1 k2 k3
     simp only [List.length_map,List.getElem?_map,hlt,hx,ht,h0,hn',A9,m1,m2,bb,bi,k1,k2,k3,k4,p1,p2,c0',go_sem,Nat.reduceAdd,Nat.reduceMul,Nat.reduceEqDiff,Nat.reduceBEq,Nat.reduceMod,Nat.reduceDiv,↓reduceIte,reduceCtorEq]
     exact ⟨(i' + 1,(jV θ gt s x.now x.k x.nx x.s).1,(nA θ gt k x.now x.k x.nx x.s).1),by simp [hch],rfl,hz,e2,hr2⟩
    by_cases c1:x.o = 1
    ·have c0':=cc 0 c0
     have c1':decide (x.o = 1) = true:=decide_eq_true c1
     have e1:=Np hrl x.now x.k
     have hz:=hsz.up
     obtain ⟨k1,k2,k3,k4⟩:=after _ _ hz hrl
     have g1:=fun n=>uh (F:=F) (n:=n) C s x.now x.k hF hsz.d
     have g2:=fun n=>EY (ext:=ext) (F:=F) (n:=n) k x.now x.k (by omega) hF
     have hit:(kS s x.now x.k).1.s.d.length ≤ 1000000:=by
      have h9:∀ b y,nof s.m x.now b = some y → y.s.d.length ≤ 1000000:=fun b y hy=>by
       unfold nof at hy
       split at hy
       ·rename_i y' ho'
        split at hy
        ·cases hy;exact hsz.d _ (xB ho').2
        ·cases hy
       ·cases hy
      unfold kS
      split
      ·rename_i y hy;exact h9 _ _ hy
      ·unfold M7
       split
       ·rename_i y hy;exact h9 _ _ hy
       ·show (0:Nat) ≤ _;omega
     rw [e1] at g1 hit
     have t1:=fun n=>EU (ext:=ext) (F:=F) (n:=n) (uf k x.now x.k).1
     have t2:=fun n=>IQ (ext:=ext) (F:=F) (n:=n) (uf k x.now x.k).1 (uf k x.now x.k).1 (by omega) hF
     simp only [decide_true] at t2
     have hch:=hrl.ch
     simp only [Nv.v,Rn.v,hch] at g1 g2 k1 k2 k3
     simp only [List.length_map,List.getElem?_map,hlt,hx,ht,h0,hn',A9,m1,m2,bb,bi,k1,k2,k3,k4,g1,g2,t1,t2,c0',c1',hch,go_sem,Nat.reduceAdd,Nat.reduceMul,Nat.reduceEqDiff,Nat.reduceBEq,Nat.reduceMod,Nat.reduceDiv,↓reduceIte,reduceCtorEq]
     exact ⟨(i' + 1,s,k),by simp [hch],rfl,hz,hrl,hk1⟩
    by_cases c2:x.o = 2
    ·have c0':=cc 0 c0
     have c1':=cc 1 c1
     have c2':decide (x.o = 2) = true:=decide_eq_true c2
     obtain ⟨e1,e2⟩:=Ns hrl x.k.q
     have hz:=hsz.drop x.k.q
     obtain ⟨k1,k2,k3,k4⟩:=after _ _ hz e2
     have g1:=fun n=>Fh (F:=F) (n:=n) D s x.k.q hsz.ko (by omega) (by omega) (by omega)
     have g2:=fun n=>Bc (ext:=ext) (F:=F) (n:=n) k x.k.q (by omega) hF hkc
     rw [e1] at g1
     have hch:=e2.ch
     simp only [Nv.v,Rn.v,hch] at g1 g2 k1 k2 k3
     simp only [List.length_map,List.getElem?_map,hlt,hx,ht,h0,hn',A9,m1,m2,bb,bi,k1,k2,k3,k4,g1,g2,c0',c1',c2',go_sem,Nat.reduceAdd,Nat.reduceMul,Nat.reduceEqDiff,Nat.reduceBEq,Nat.reduceMod,Nat.reduceDiv,↓reduceIte,reduceCtorEq]
     exact ⟨(i' + 1,(mJ s x.k.q).1,(pO k x.k.q).1),by simp [hch],rfl,hz,e2,hk1⟩
    ·have c0':=cc 0 c0
     have c1':=cc 1 c1
     have c2':=cc 2 c2
     have hz:=hsz.up
     obtain ⟨k1,k2,k3,k4⟩:=after _ _ hz hrl
     have hch:=hrl.ch
     simp only [Nv.v,Rn.v,hch] at k1 k2 k3
     simp only [List.length_map,List.getElem?_map,hlt,hx,ht,h0,hn',A9,m1,m2,bb,bi,k1,k2,k3,k4,c0',c1',c2',hch,go_sem,Nat.reduceAdd,Nat.reduceMul,Nat.reduceEqDiff,Nat.reduceBEq,Nat.reduceMod,Nat.reduceDiv,↓reduceIte,reduceCtorEq]
     exact ⟨(i' + 1,s,k),by simp [hch],rfl,hz,hrl,hk1⟩
   ·obtain ⟨i',s,k⟩:=x
    obtain ⟨rfl,hsz,hrl,hk1⟩:=hP
    have hd':=@end_ _ l
    simp only [List.length_map,hd',hv,go_sem,Nat.reduceAdd,Nat.reduceMul,Nat.reduceEqDiff,Nat.reduceBEq,Nat.reduceMod,Nat.reduceDiv,↓reduceIte,reduceCtorEq]
end Go.Proofs.Ytdkkgecdhapfhaa.Kn
namespace Go.Proofs.Ytdkkgecdhapfhaa.Ev
open Go
def GY (P:Program):List Field → Nat → Bool
 | [],_=>true
 | f :: fs,i=>(f.name != "_") && (f.offset == i) && (Gd P f.type).isSome && GY P fs (i + 1)
def okT (P:Program) (t:TypeId):Bool:=!P.eqGuardType P.depth t && match P.underlying t with
 | some (.struct fs)=>!P.stoodInHeld t && GY P fs.toList 0
 | some (.int _)=>true
 | some .string=>true
 | some .bool=>true
 | _=>false
section
variable {P : Program} {t:TypeId} {w:World}
theorem vO {k:SK} (h:Gd P t = some k):(∃ i,P.underlying t = some (.int i) ∧ k = .int i) ∨ (P.underlying t = some .bool ∧ k = .bool) ∨ (P.underlying t = some .string ∧ k = .str):=by
 unfold Gd at h
 split at h <;> simp_all
theorem TW {d:Nat} {k:SK} (h:Gd P t = some k) {a b:SV} (ha:a.sk = k) (hb:b.sk = k):(Op.equalIn (d + 1) t (encS a) (encS b)).run P w = .ok (decide (a = b)) w:=by
 rcases vO h with ⟨i,hu,rfl⟩ | ⟨hu,rfl⟩ | ⟨hu,rfl⟩
 ·cases a <;> cases b <;> simp_all [SV.sk,encS,Op.equalIn,run_underlying hu]
  rw [Bool.eq_iff_iff];simp
 ·cases a <;> cases b <;> simp_all [SV.sk,encS,Op.equalIn,run_underlying hu]
  rw [Bool.eq_iff_iff];simp
 ·cases a <;> cases b <;> simp_all [SV.sk,encS,Op.equalIn,run_underlying hu]
  exact Mq.vB _ _
theorem Da {k:SK} (h:Gd P t = some k) {xs:Array Value} {o:Nat} {v:Value} (hx:xs[o]? = some v):(part t xs o).run P w = .ok v w:=by
 rcases vO h with ⟨i,hu,rfl⟩ | ⟨hu,rfl⟩ | ⟨hu,rfl⟩ <;> simp [part,isAgg,run_underlying hu,hx]
theorem Bh {d:Nat} {xs ys:Array Value}:∀ {fs:List Field} {i:Nat} {ks:List SK} {ZZ9 bs:List SV},GY P fs i = true → JU P fs = some ks → ZZ9.map SV.sk = ks → bs.map SV.sk = ks → (∀ j:Nat,xs[i + j]? = ZZ9[j]?.map encS) → (∀ j:Nat,ys[i + j]? = bs[j]?.map encS) →
  (Op.eqFields (d + 1) xs ys fs).run P w = .ok (decide (ZZ9 = bs)) w
 | [],i,ks,ZZ9,bs,_,hk,ha,hb,_,_=>by
  cases hk
  simp only [List.map_eq_nil_iff] at ha hb
  subst ha;subst hb
  simp [Op.eqFields]
 | f :: fs,i,ks,ZZ9,bs,hf,hk,ha,hb,hx,hy=>by
  obtain ⟨k,h1,h2⟩:=zbm hk
  obtain ⟨l,h3,rfl⟩:=zmm h2
  unfold GY at hf
  simp only [Bool.and_eq_true,bne_iff_ne,ne_eq,beq_iff_eq] at hf
  obtain ⟨⟨⟨f1,f2⟩,f3⟩,f4⟩:=hf
  cases ZZ9 with
  | nil=>simp at ha
  | cons a ZZ9 =>
  cases bs with
  | nil=>simp at hb
  | cons b bs =>
  simp only [List.map_cons,List.cons.injEq] at ha hb
  have ex:xs[f.offset]? = some (encS a):=by rw [f2];simpa using hx 0
  have ey:ys[f.offset]? = some (encS b):=by rw [f2];simpa using hy 0
  have ih:=Bh (d:=d) f4 h3 ha.2 hb.2 (fun j=>by have:=hx (j + 1);rw [show i + 1 + j = i + (j + 1) from by omega];simpa using this) (fun j=>by have:=hy (j + 1);rw [show i + 1 + j = i + (j + 1) from by omega];simpa using this)
  unfold Op.eqFields
  rw [if_pos f1]
  simp only [Sem.run_bind,Da h1 ex,Da h1 ey,Result.andThen_ok,TW h1 ha.1 hb.1,List.cons.injEq]
  by_cases hab:a = b
  ·subst hab;simp [ih]
  ·simp [hab]
theorem QI {e:Bool} {n:Nat} {k:SK} (h:Gd P t = some k) {a:SV} (ha:a.sk = k):(Instr.checkKey e (n + 1) t (encS a)).run P w = .ok () w:=by
 rcases vO h with ⟨i,hu,rfl⟩ | ⟨hu,rfl⟩ | ⟨hu,rfl⟩ <;> cases a <;> simp_all [SV.sk,encS,Instr.checkKey,run_underlying hu]
theorem Fj {e:Bool} {n:Nat} {cs:Array Value}:∀ {fs:List Field} {i:Nat} {ks:List SK} {ZZ9:List SV},GY P fs i = true → JU P fs = some ks → ZZ9.map SV.sk = ks → (∀ j:Nat,cs[i + j]? = ZZ9[j]?.map encS) →
  (forIn fs PUnit.unit (fun (f:Field) (_:PUnit)=>(do
   if f.name ≠ "_" then Instr.checkKey e (n + 1) f.type (← part f.type cs f.offset)
   pure (ForInStep.yield PUnit.unit):Sem (ForInStep PUnit)))).run P w = .ok PUnit.unit w
 | [],i,ks,ZZ9,_,_,_,_=>by simp
 | f :: fs,i,ks,ZZ9,hf,hk,ha,hx=>by
  obtain ⟨k,h1,h2⟩:=zbm hk
  obtain ⟨l,h3,rfl⟩:=zmm h2
  unfold GY at hf
  simp only [Bool.and_eq_true,bne_iff_ne,ne_eq,beq_iff_eq] at hf
  obtain ⟨⟨⟨f1,f2⟩,f3⟩,f4⟩:=hf
  cases ZZ9 with
  | nil=>simp at ha
  | cons a ZZ9 =>
  simp only [List.map_cons,List.cons.injEq] at ha
  have ex:cs[f.offset]? = some (encS a):=by rw [f2];simpa using hx 0
  have ih:=Fj (e:=e) (n:=n) f4 h3 ha.2 (fun j=>by have:=hx (j + 1);rw [show i + 1 + j = i + (j + 1) from by omega];simpa using this)
  rw [List.forIn_cons]
  simp only [if_pos f1,Sem.run_bind,Da h1 ex,Result.andThen_ok,QI h1 ha.1,Sem.run_pure]
  exact ih
theorem QJ {e:Bool} {n:Nat} {fs:Array Field} {ks:List SK} {ZZ9:List SV} (hu:P.underlying t = some (.struct fs)) (hf:GY P fs.toList 0 = true) (hk:JU P fs.toList = some ks) (ha:ZZ9.map SV.sk = ks):(Instr.checkKey e (n + 2) t (.agg (ZZ9.map encS).toArray)).run P w = .ok () w:=by
 have:=Fj (w:=w) (e:=e) (n:=n) hf hk ha (cs:=(ZZ9.map encS).toArray) (fun j=>by simp)
 unfold Instr.checkKey
 simp only [Sem.run_bind,run_underlying hu,Result.andThen_ok]
 rw [← Array.forIn_toList]
 simp only [ne_eq,ite_not] at this ⊢
 simp at this ⊢
 rw [this]
 rfl
theorem QK {n:Nat} {ZZ9:List SV} (hs:∀ (n:Nat) (a:SV),Instr.sameBits n (encS a) (encS a) = true):Instr.sameBits (n + 1) (.agg (ZZ9.map encS).toArray) (.agg (ZZ9.map encS).toArray) = true:=by
 unfold Instr.sameBits
 simp only [beq_self_eq_true,Bool.true_and,List.all_eq_true]
 intro p hp
 have:∀ (l:List Value) (p:Value × Value),p ∈ l.zip l → p.1 = p.2 ∧ p.1 ∈ l:=by
  intro l
  induction l with
  | nil=>intro p hp;simp at hp
  | cons x l ih =>
   intro p hp
   rcases List.mem_cons.mp hp with rfl | hp
   ·exact ⟨rfl,by simp⟩
   ·exact ⟨(ih p hp).1,List.mem_cons_of_mem _ (ih p hp).2⟩
 obtain ⟨h1,h2⟩:=this _ _ hp
 obtain ⟨x,y⟩:=p
 simp only at h1 h2
 subst h1
 simp only [List.mem_map] at h2
 obtain ⟨s,_,rfl⟩:=h2
 exact hs _ s
theorem I6 {n:Nat} (a:SV):Instr.sameBits n (encS a) (encS a) = true:=by
 cases a <;> simp [encS,Instr.sameBits]
 rw [Mq.vB];simp
theorem Fp {ks:List SK} {a:KV} (h:a.ks = .agg ks):∃ ZZ9,a = .agg ZZ9 ∧ ZZ9.map SV.sk = ks:=by
 cases a with
 | one x=>cases h
 | agg ZZ9=>exact ⟨ZZ9,rfl,by simpa [KV.ks] using h⟩
theorem Bj {k:SK} {a:KV} (h:a.ks = .one k):∃ x,a = .one x ∧ x.sk = k:=by
 cases a with
 | one x=>exact ⟨x,rfl,by simpa [KV.ks] using h⟩
 | agg ZZ9=>cases h
theorem QL {n:Nat} {d:TypeDesc} (hu:P.underlying t = some d) (hd:∀ ms,d ≠ .interface ms):(Op.eqGuardIn (n + 1) t .nilIface .nilIface).run P w = .ok false w:=by
 unfold Op.eqGuardIn
 simp only [Sem.run_bind,run_underlying hu,Result.andThen_ok]
 cases d <;> first | rfl | exact absurd rfl (hd _)
theorem Db {d:TypeDesc} (hu:P.underlying t = some d) (hd:∀ ms,d ≠ .interface ms) (w:World):(Op.eqGuardIn Op.maxDepth t .nilIface .nilIface).run P w = .ok false w:=by
 unfold Op.maxDepth
 exact QL hu hd
set_option maxHeartbeats 2000000 in
theorem Wo (h:okT P t = true):lD P t:=by
 unfold okT at h
 rw [Bool.and_eq_true] at h
 obtain ⟨hg,h⟩:=h
 have hg':P.eqGuardType P.depth t = false:=by simpa using hg
 have gd:(∀ w,(Op.eqGuardIn Op.maxDepth t .nilIface .nilIface).run P w = .ok false w) → ∀ op x y,∀ (a b:Value) (w:World),(eqGuard op t x y a b).run P w = .ok () w:=by
  intro hn op x y a b w
  have key:(Sem.run P (match a,b with
   | .nilIface,.nilIface=>do
    if (x matches .const _) || (y matches .const _) then return
    if ← Op.eqGuardIn Op.maxDepth t a b then unsupported (.noEntry "binop/eql: two nil values of an interface type with methods, neither of them the literal nil")
   | .agg _,.agg _=>do
    if !(← program).eqGuardType (← program).depth t then return
    if ← Op.eqGuardIn Op.maxDepth t a b then unsupported (.noEntry "binop/eql: two nil values of an interface type with methods, in a part of a struct or an array")
   | _,_=>pure ()) w) = .ok () w:=by
   cases a <;> cases b <;> first | rfl | (simp only [Sem.run_bind,run_program,Result.andThen_ok,hg'];rfl) | skip
   cases x <;> cases y <;> first | rfl | simp [hn]
  unfold eqGuard
  split
  ·exact key
  ·exact key
  ·rfl
 cases hu:P.underlying t with
 | none=>rw [hu] at h;cases h
 | some d =>
  rw [hu] at h
  have sc:∀ k,Gd P t = some k → xW P t = some (.one k) → (∀ w,(Op.eqGuardIn Op.maxDepth t .nilIface .nilIface).run P w = .ok false w) → (∀ a:SV,a.sk = k → MapKept.IsKey d (encS a)) → (∀ a b:SV,a.sk = k → b.sk = k → Instr.sameNow d (encS a) (encS b) = some (decide (a = b))) → lD P t:=by
   intro k hk hks hn h1 h2
   have hcase:∀ {sh},xW P t = some sh → sh = .one k:=fun e=>by rw [hks] at e;cases e;rfl
   refine ⟨fun sh e=>?_,fun sh e a b w ha hb=>?_,gd hn⟩
   ·obtain rfl:=hcase e
    refine Mq.Key.Pm hu (fun a ha=>?_) (fun a b ha hb=>?_) (fun a ha=>?_)
    ·obtain ⟨x,rfl,hx⟩:=Bj ha;exact h1 x hx
    ·obtain ⟨x,rfl,hx⟩:=Bj ha
     obtain ⟨y,rfl,hy⟩:=Bj hb
     simp only [mF,KV.one.injEq]
     exact h2 x y hx hy
    ·obtain ⟨x,rfl,hx⟩:=Bj ha;exact I6 x
   ·obtain rfl:=hcase e
    obtain ⟨x,rfl,hx⟩:=Bj ha
    obtain ⟨y,rfl,hy⟩:=Bj hb
    simp only [mF,KV.one.injEq]
    unfold Op.equal Op.maxDepth
    exact TW hk hx hy
  cases d with
  | int i =>
   refine sc (.int i) (by simp [Gd,hu]) (by simp [xW,Gd,hu]) (Db hu (fun _ h=>by cases h)) (fun a ha=>?_) (fun a b ha hb=>?_)
   ·cases a <;> simp_all [SV.sk,encS,MapKept.IsKey]
   ·cases a <;> cases b <;> simp_all [SV.sk,encS,Instr.sameNow]
    rw [Bool.eq_iff_iff];simp
  | bool =>
   refine sc .bool (by simp [Gd,hu]) (by simp [xW,Gd,hu]) (Db hu (fun _ h=>by cases h)) (fun a ha=>?_) (fun a b ha hb=>?_)
   ·cases a <;> simp_all [SV.sk,encS,MapKept.IsKey]
   ·cases a <;> cases b <;> simp_all [SV.sk,encS,Instr.sameNow]
    rw [Bool.eq_iff_iff];simp
  | string =>
   refine sc .str (by simp [Gd,hu]) (by simp [xW,Gd,hu]) (Db hu (fun _ h=>by cases h)) (fun a ha=>?_) (fun a b ha hb=>?_)
   ·cases a <;> simp_all [SV.sk,encS,MapKept.IsKey]
   ·cases a <;> cases b <;> simp_all [SV.sk,encS,Instr.sameNow]
    exact Mq.vB _ _
  | struct fs =>
   simp only [Bool.and_eq_true,Bool.not_eq_true'] at h
   have hcase:∀ {sh},xW P t = some sh → ∃ ks,JU P fs.toList = some ks ∧ sh = .agg ks:=fun e=>by
    unfold xW at e
    rw [hu] at e
    obtain ⟨ks,h1,h2⟩:=zmm e
    exact ⟨ks,h1,h2.symm⟩
   have idx:∀ (ZZ9:List SV) (j:Nat),((ZZ9.map encS).toArray)[0 + j]? = ZZ9[j]?.map encS:=fun ZZ9 j=>by simp
   have heq:∀ sh,xW P t = some sh → ∀ (a b:KV) (w:World),a.ks = sh → b.ks = sh → (Op.equal t (mF a) (mF b)).run P w = .ok (decide (a = b)) w:=by
    intro sh e a b w ha hb
    obtain ⟨ks,hks,rfl⟩:=hcase e
    obtain ⟨ZZ9,rfl,ha1⟩:=Fp ha
    obtain ⟨bs,rfl,hb1⟩:=Fp hb
    have hf:P.fieldsOf t = fs:=by simp [Program.fieldsOf,hu]
    unfold Op.equal Op.maxDepth
    simp only [mF,KV.agg.injEq]
    rw [run_equalIn_struct (P:=P) w _ t _ _ (by rw [hf];exact hu) h.1,hf]
    exact Bh h.2 hks ha1 hb1 (idx ZZ9) (idx bs)
   refine ⟨fun sh e=>?_,heq,gd (Db hu (fun _ h=>by cases h))⟩
   ·obtain ⟨ks,hks,rfl⟩:=hcase e
    refine Mq.Key.Lx hu (fun e' a w ha=>?_) (fun a b w ha hb=>heq _ e a b w ha hb) (fun a ha=>?_) (fun a ha=>?_)
    ·obtain ⟨ZZ9,rfl,ha1⟩:=Fp ha
     exact QJ (n:=9998) hu h.2 hks ha1
    ·obtain ⟨ZZ9,rfl,ha1⟩:=Fp ha
     exact QK (n:=9999) (fun n a=>I6 a)
    ·obtain ⟨ZZ9,rfl,ha1⟩:=Fp ha
     exact ⟨_,rfl⟩
  | _=>simp at h
end
end Go.Proofs.Ytdkkgecdhapfhaa.Ev

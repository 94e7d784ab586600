/- A part of the proof of NegCovers: cut, joined and given short names by a program of this session (wip/tools/pack.py); Lean checks it. No condition. -/
import Derived.Test.YtdkkgecdhapfhaaPNCrsg
import Derived.Test.YtdkkgecdhapfhaaPNCrsf
import Derived.Below
import Derived.Defers
import Derived.Maps.RangeRun
import Derived.Test.YtdkkgecdhapfhaaPNCrsd
import Derived.Laws.StructEq
import Derived.Test.YtdkkgecdhapfhaaProg
import Derived.WalkKit
import Derived.Shelf.SlMaps.Clone
set_option linter.unusedSectionVars false
set_option linter.unusedSimpArgs false
set_option linter.unusedVariables false
set_option maxRecDepth 4000
namespace Go.Proofs.Ytdkkgecdhapfhaa.Kn
open Go Ev
variable {ext : Env} {F n:Nat}
theorem SC {α:Type} {body:St → Option (Out × St)} {rs:St → St} {k:Out × St → Prop} {u:Tok k} {F:Nat} {σ:St} (N:Nat) (T:α → St) (P:Nat → α → Prop) (hF:N < F) (x:α) (hs:rs σ = T x) (h0:P 0 x)
    (step:∀ i x,i < N → P i x → W (fun p=>match p.1 with
      | .jk=>∃ y,rs p.2 = T y ∧ P (i + 1) y
      | o=>k (o,p.2)) ⟨⟩ (body (T x)))
    (last:∀ x,P N x → W (fun p=>match p.1 with
      | .jk=>False
      | o=>k (o,p.2)) ⟨⟩ (body (T x))):W k u (iter body rs F σ):=by
  refine Cg (fun m σ=>∃ i x,i ≤ N ∧ m = N - i ∧ rs σ = T x ∧ P i x) ?_ F N σ hF ⟨0,x,Nat.zero_le _,rfl,hs,h0⟩
  rintro m σ ⟨i,x,hi,rfl,hr,hP⟩
  rw [hr]
  by_cases hlt:i < N
  · refine vB (step i x hlt hP) fun p hp=>?_
    obtain ⟨o,s⟩:=p
    cases o with
    | jk =>
      obtain ⟨y,h1,h2⟩:=hp
      exact ⟨N - (i + 1),by omega,i + 1,y,by omega,rfl,h1,h2⟩
    | ext j=>exact hp
    | ret=>exact hp
  · have:i = N:=by omega
    subst this
    refine vB (last x hP) fun p hp=>?_
    obtain ⟨o,s⟩:=p
    cases o with
    | jk=>exact hp.elim
    | ext j=>exact hp
    | ret=>exact hp
abbrev Qn.f (k:Qn):List FV:=[.str k.q,.int .i64 k.t,.int .i64 k.c]
abbrev fnQ (k:Qn):AV:=.one (.fn 90 [k.f])
theorem L9 (x k:Qn):G ext F (n + 1) 90 [vq x.q x.t x.c,.one (.fp k.f)] = some ([vb (decide (x = k))],[vq x.q x.t x.c,.one (.fp k.f)]):=by
  refine iC (cf:=c90) rfl ?_
  simp only [c90,go_sem,Nat.reduceAdd,Nat.reduceMul,Nat.reduceEqDiff,Nat.reduceBEq,Nat.reduceMod,Nat.reduceDiv,↓reduceIte,reduceCtorEq]
  cases x;cases k;simp
def SE (l:List Qn) (k:Qn):Int:=match l.findIdx? fun x=>decide (x = k) with | some i=>i | none=>-1
theorem Vb {l:List Qn} {k:Qn} (h:∀ x ∈ l,x ≠ k):SE l k = -1:=by
  have:l.findIdx? (fun x=>decide (x = k)) = none:=List.findIdx?_eq_none_iff.mpr fun x hx=>by simpa using h x hx
  simp [SE,this]
theorem Vd {l:List Qn} {k:Qn} {i:Nat} {x:Qn} (h:∀ x ∈ l.take i,x ≠ k) (hx:l[i]? = some x) (hk:x = k):SE l k = i:=by
  have hi:=(List.getElem?_eq_some_iff.mp hx)
  have:l.findIdx? (fun x=>decide (x = k)) = some i:=by
    refine List.findIdx?_eq_some_iff_getElem.mpr ⟨hi.1,by simp [hi.2,hk],fun j hj=>?_⟩
    have:=h (l[j]'(by have:=hi.1;omega)) (by rw [List.mem_take_iff_getElem];exact ⟨j,by have:=hi.1;omega,rfl⟩)
    simpa using this
  simp [SE,this]
theorem Ve (l:List Qn) (k:Qn):(SE l k = -1 ∧ ∀ x ∈ l,x ≠ k) ∨ ∃ (i:Nat),SE l k = (i:Int) ∧ ∃ h:i < l.length,(∀ x ∈ l.take i,x ≠ k) ∧ l[i] = k:=by
  have hp:SE l k = match l.findIdx? fun x=>decide (x = k) with | some i=>(i:Int) | none=>-1:=rfl
  cases h:l.findIdx? fun x=>decide (x = k) with
  | none =>
    rw [h] at hp
    exact .inl ⟨hp,fun x hx=>by simpa using List.findIdx?_eq_none_iff.mp h x hx⟩
  | some i =>
    rw [h] at hp
    obtain ⟨hi,hx,hb⟩:=List.findIdx?_eq_some_iff_getElem.mp h
    refine .inr ⟨i,hp,hi,fun x hx=>?_,by simpa using hx⟩
    obtain ⟨j,hj,rfl⟩:=List.mem_take_iff_getElem.mp hx
    have:=hb j (by omega)
    simpa using this
theorem Ci (l:List Qn) (k:Qn) (hl:l.length ≤ 1000000000000) (hF:200000000000001 ≤ F):G ext F (n + 2) 108 [vl (l.map rQ),fnQ k] = some ([vi (SE l k)],[vl (l.map rQ),fnQ k]):=by
  refine iC (cf:=Pg) rfl ?_
  simp only [Pg,go_sem,Nat.reduceAdd,Nat.reduceMul,Nat.reduceEqDiff,Nat.reduceBEq,Nat.reduceMod,Nat.reduceDiv,↓reduceIte,reduceCtorEq]
  refine pz l.length (fun i=>⟨[(0,PV.c (CV.one (PL.f (FV.sl (l.map rQ))))),(1,PV.c (CV.one (PL.fn 90 [k.f]))),(7,PV.c (CV.one (PL.f (FV.int .i64 (l.map rQ).length)))),(8,PV.c (CV.one (PL.f (FV.int .i64 i))))],[]⟩) (fun i=>∀ x ∈ l.take i,x ≠ k) (by omega) rfl (by simp) (fun i hi hP=>?_) (fun hP=>?_)
  · obtain ⟨x,hx,hd,ht,h0⟩:=at_ hi
    have hn:=nx hi (Nat.le_trans hl (by decide))
    have hq:=fun n=>L9 (ext:=ext) (F:=F) (n:=n) x k
    simp only [List.length_map,List.getElem?_map,hd,hx,ht,h0,rQ,hq,go_sem,Nat.reduceAdd,Nat.reduceMul,Nat.reduceEqDiff,Nat.reduceBEq,Nat.reduceMod,Nat.reduceDiv,↓reduceIte,reduceCtorEq]
    repeat' (refine eD (fun h=>?_) (fun h=>?_) <;> simp only [h,List.length_map,List.getElem?_map,hd,hx,ht,h0,hn,rQ,hq,go_sem,Nat.reduceAdd,Nat.reduceMul,Nat.reduceEqDiff,Nat.reduceBEq,Nat.reduceMod,Nat.reduceDiv,↓reduceIte,reduceCtorEq])
    · rw [Vd hP hx (by simpa using h)]
    · exact all_succ hP hx (by simpa using h)
  · have hd:=@end_ _ l
    simp only [List.length_map,hd,go_sem,Nat.reduceAdd,Nat.reduceMul,Nat.reduceEqDiff,Nat.reduceBEq,Nat.reduceMod,Nat.reduceDiv,↓reduceIte,reduceCtorEq]
    repeat' (refine eD (fun h=>?_) (fun h=>?_) <;> simp only [h,List.length_map,hd,go_sem,Nat.reduceAdd,Nat.reduceMul,Nat.reduceEqDiff,Nat.reduceBEq,Nat.reduceMod,Nat.reduceDiv,↓reduceIte,reduceCtorEq])
    rw [List.take_length] at hP
    rw [Vb hP]
theorem Pn {l:List Qn} {k x:Qn} {i:Nat} (h:l[i]? = some x):(l.take (i + 1)).filter (fun y=>decide (y ≠ k)) = (l.take i).filter (fun y=>decide (y ≠ k)) ++ if x = k then [] else [x]:=by
  rw [List.take_add_one,List.filter_append,h]
  by_cases hx:x = k <;> simp [hx]
theorem zO (l:List Qn) (k:Qn) (hl:l.length ≤ 1000000000000) (hF:200000000000001 ≤ F):G ext F (n + 3) 89 [.one (.own 3 (l.map rQ)),fnQ k] = some ([.one (.own 3 ((l.filter fun x=>decide (x ≠ k)).map rQ))],[.one .any,fnQ k]):=by
  refine iC (cf:=c89) rfl ?_
  have h1:=fun n=>Ci (ext:=ext) (F:=F) (n:=n) l k hl hF
  simp only [c89,h1,go_sem,Nat.reduceAdd,Nat.reduceMul,Nat.reduceEqDiff,Nat.reduceBEq,Nat.reduceMod,Nat.reduceDiv,↓reduceIte,reduceCtorEq]
  rcases Ve l k with ⟨hp,hno⟩ | ⟨i0,hp,hi0,hpre,hat⟩
  · rw [hp]
    simp only [show decide ((-1:Int) = -1) = true from rfl,go_sem,Nat.reduceAdd,Nat.reduceMul,Nat.reduceEqDiff,Nat.reduceBEq,Nat.reduceMod,Nat.reduceDiv,↓reduceIte,reduceCtorEq]
    rw [List.filter_eq_self.mpr (fun x hx=>by simpa using hno x hx)]
  · rw [hp]
    have hne:decide ((i0:Int) = -1) = false:=by simp
    simp only [hne,nx hi0 (Nat.le_trans hl (by decide)),List.length_map,go_sem,Nat.reduceAdd,Nat.reduceMul,Nat.reduceEqDiff,Nat.reduceBEq,Nat.reduceMod,Nat.reduceDiv,↓reduceIte,reduceCtorEq]
    refine SC (l.length - (i0 + 1)) (fun x:List Qn × Nat × Nat=>⟨[(0,PV.c (CV.one (PL.own 20202 x.1.length))),(1,PV.c (CV.one (PL.fn 90 [k.f]))),(5,PV.c (CV.one (PL.f (FV.int IntKind.i64 x.2.1)))),(6,PV.c (CV.one (PL.f (FV.int IntKind.i64 x.2.2))))],[(20202,Ob.row 3 (x.1.map rQ))]⟩) (fun r x=>x.2.2 = i0 + 1 + r ∧ x.2.1 < x.2.2 ∧ x.1.length = l.length ∧ x.1.take x.2.1 = (l.take x.2.2).filter (fun y=>decide (y ≠ k)) ∧ x.1.drop x.2.2 = l.drop x.2.2) (by omega) (l,i0,i0 + 1) rfl ⟨rfl,Nat.lt_succ_self _,rfl,?_,rfl⟩ (fun r x hr hP=>?_) (fun x hP=>?_)
    · rw [List.take_add_one,List.filter_append,List.filter_eq_self.mpr (fun x hx=>by simpa using hpre x hx),List.getElem?_eq_getElem hi0]
      simp [hat]
    · obtain ⟨R,c,j⟩:=x
      obtain ⟨rfl,hc,hlen,htk,hdr⟩:=hP
      simp only at hc hlen htk hdr ⊢
      have hj:i0 + 1 + r < R.length:=by omega
      obtain ⟨x,hx,hd,ht,h0⟩:=at_ hj
      have hn:=nx hj (by omega)
      have hq:=fun n=>L9 (ext:=ext) (F:=F) (n:=n) x k
      have hlt:((i0 + 1 + r:Nat):Int) < (R.length:Int):=by omega
      have hcR:c < R.length:=by omega
      obtain ⟨y,hy,hcd,hct,hc0⟩:=at_ hcR
      have hcl:(c:Int) < (R.length:Int):=by omega
      have hcn:=nx hcR (by omega)
      simp only [List.length_map,List.getElem?_map,hd,hx,ht,h0,rQ,hq,hlt,go_sem,Nat.reduceAdd,Nat.reduceMul,Nat.reduceEqDiff,Nat.reduceBEq,Nat.reduceMod,Nat.reduceDiv,↓reduceIte,reduceCtorEq]
      repeat' (refine eD (fun h=>?_) (fun h=>?_) <;> simp only [h,List.length_map,List.getElem?_map,hd,hx,ht,h0,hn,rQ,hq,hlt,hy,hct,hc0,hcl,hcn,go_sem,Nat.reduceAdd,Nat.reduceMul,Nat.reduceEqDiff,Nat.reduceBEq,Nat.reduceMod,Nat.reduceDiv,↓reduceIte,reduceCtorEq])
      all_goals
        have hxl:l[i0 + 1 + r]? = some x:=by
          have:=congrArg (fun z:List Qn=>z[0]?) hdr
          simp only [List.getElem?_drop,Nat.add_zero,hx] at this
          exact this.symm
        have hdr':List.drop (i0 + 1 + r + 1) R = List.drop (i0 + 1 + r + 1) l:=by
          have:=congrArg (List.drop 1) hdr
          simpa only [List.drop_drop] using this
        have hft:=Pn (k:=k) hxl
      · simp only [decide_eq_true_eq] at h
        rw [if_pos h,List.append_nil] at hft
        exact ⟨(R,c,i0 + 1 + r + 1),rfl,rfl,by show c < i0 + 1 + r + 1;omega,hlen,by rw [hft];exact htk,hdr'⟩
      · simp only [decide_eq_false_iff_not] at h
        rw [if_neg h] at hft
        refine ⟨(R.set c x,c + 1,i0 + 1 + r + 1),?_,rfl,by show c + 1 < i0 + 1 + r + 1;omega,by simp [hlen],?_,?_⟩
        · simp [List.map_set,rQ]
        · show List.take (c + 1) (R.set c x) = _
          rw [hft,List.take_add_one,List.take_set,List.set_eq_of_length_le (by simp;omega),htk,List.getElem?_set_self hcR]
          rfl
        · show List.drop _ (R.set c x) = _
          rw [List.drop_set_of_lt (show c < i0 + 1 + r + 1 by omega)]
          exact hdr'
    · obtain ⟨R,c,j⟩:=x
      obtain ⟨rfl,hc,hlen,htk,hdr⟩:=hP
      simp only at hc hlen htk hdr ⊢
      have hj:i0 + 1 + (l.length - (i0 + 1)) = R.length:=by omega
      rw [hj]
      rw [hj,List.take_of_length_le (l:=l) (i:=R.length) (by omega)] at htk
      have hd:=@end_ _ R
      have hct:(c:Int).toNat = c:=by simp
      have htt:List.take c (List.take c (List.map rQ R) ++ List.replicate (R.length - c) [FV.str ⟨#[]⟩,FV.int IntKind.i64 0,FV.int IntKind.i64 0]) = (l.filter fun y=>decide (y ≠ k)).map rQ:=by
        rw [List.take_append_of_le_length (by simp;omega),List.take_take,Nat.min_self,← List.map_take,htk]
      simp only [List.length_map,hd,go_sem,Nat.reduceAdd,Nat.reduceMul,Nat.reduceEqDiff,Nat.reduceBEq,Nat.reduceMod,Nat.reduceDiv,↓reduceIte,reduceCtorEq]
      repeat' (refine eD (fun h=>?_) (fun h=>?_) <;> simp only [h,List.length_map,hd,go_sem,Nat.reduceAdd,Nat.reduceMul,Nat.reduceEqDiff,Nat.reduceBEq,Nat.reduceMod,Nat.reduceDiv,↓reduceIte,reduceCtorEq])
      rw [hct]
      exact ⟨by omega,by omega,⟨by omega,by simp;omega⟩,by rw [htt]⟩
structure qM (ext:Env):Prop where
  cq:∀ l:List Qn,l.length ≤ 1000000 → ext 70 [vl (l.map rQ)] = some ([.one (.own 3 (l.map rQ))],[vl (l.map rQ)])
  cs:∀ l:List ByteArray,l.length ≤ 1000000 → ext 88 [vl (l.map iB)] = some ([vl (l.map iB)],[vl (l.map iB)])
theorem H7 (C:qM ext) (l:List Qn) (h:l.length ≤ 1000000):G ext F (n + 1) 70 [vl (l.map rQ)] = some ([.one (.own 3 (l.map rQ))],[vl (l.map rQ)]):=(congrFun (nV rfl) _).trans (C.cq l h)
theorem Zr (C:qM ext) (l:List ByteArray) (h:l.length ≤ 1000000):G ext F (n + 1) 88 [vl (l.map iB)] = some ([vl (l.map iB)],[vl (l.map iB)]):=(congrFun (nV rfl) _).trans (C.cs l h)
def vV (l:List Qn) (k:Qn):List Qn:=l.filter fun x=>decide (x ≠ k)
theorem wX {l:List Qn} {k:Qn}:(vV l k).length ≤ l.length:=List.length_filter_le ..
theorem Em (C:qM ext) (l:List Qn) (k:Qn) (hl:l.length ≤ 1000000) (hF:200000000000001 ≤ F):G ext F (n + 4) 69 [vl (l.map rQ),vq k.q k.t k.c] = some ([.one (.own 3 ((vV l k).map rQ))],[vl (l.map rQ),vq k.q k.t k.c]):=by
  refine iC (cf:=c69) rfl ?_
  have h1:=fun n=>H7 (F:=F) (n:=n) C l hl
  have h2:=fun n=>zO (ext:=ext) (F:=F) (n:=n) l k (by omega) hF
  simp only [c69,h1,h2,go_sem,Nat.reduceAdd,Nat.reduceMul,Nat.reduceEqDiff,Nat.reduceBEq,Nat.reduceMod,Nat.reduceDiv,↓reduceIte,reduceCtorEq]
  rfl
theorem Ma (C:qM ext) (l:List Qn) (k:Qn) (hl:l.length ≤ 1000000) (hF:200000000000001 ≤ F):G ext F (n + 5) 67 [vl (l.map rQ),vq k.q k.t k.c] = some ([vl ((vV l k ++ [k]).map rQ)],[vl (l.map rQ),vq k.q k.t k.c]):=by
  refine iC (cf:=c67) rfl ?_
  have h1:=fun n=>Em (ext:=ext) (F:=F) (n:=n) C l k hl hF
  have hl2:=@wX l k
  simp only [c67,h1,List.length_map,go_sem,Nat.reduceAdd,Nat.reduceMul,Nat.reduceEqDiff,Nat.reduceBEq,Nat.reduceMod,Nat.reduceDiv,↓reduceIte,reduceCtorEq]
  have hsz:((vV l k).length + 1) * 32 ≤ 140737488355328:=by omega
  simp [rQ,hsz]
theorem Zt (l:List Qn):((l.map rQ).all fun r=>r.length == 3) = true:=by
  rw [List.all_eq_true]
  intro r hr
  obtain ⟨x, -,rfl⟩:=List.mem_map.mp hr
  rfl
theorem Vf (C:qM ext) (l:List Qn) (most:Int) (hl:l.length ≤ 1000000) (hm:0 ≤ most ∧ most ≤ 1000000000000) (hF:200000000000001 ≤ F):G ext F (n + 2) 66 [vl (l.map rQ),vi most] = some ([vl ((l.drop (l.length - most.toNat)).map rQ),vl ((l.take (l.length - most.toNat)).map rQ)],[vl (l.map rQ),vi most]):=by
  refine iC (cf:=c66) rfl ?_
  have h1:=fun n=>H7 (F:=F) (n:=n) C (l.drop (l.length - most.toNat)) (by simp;omega)
  have h2:=fun n=>H7 (F:=F) (n:=n) C (l.take (l.length - most.toNat)) (by simp;omega)
  obtain ⟨a,ha⟩:∃ a,a = l.length - most.toNat:=⟨_,rfl⟩
  rw [← ha] at h1 h2 ⊢
  have hc:IntKind.i64.wrap ((l.length:Int) - if (if (l.length:Int) < most then (l.length:Int) else most) < 0 then 0 else if (l.length:Int) < most then (l.length:Int) else most) = (a:Int):=by
    rw [zN (by split <;> split <;> omega) (by split <;> split <;> omega)]
    split <;> split <;> omega
  have hat:(a:Int).toNat = a:=by simp
  have hc1:(0:Int) ≤ a ∧ (a:Int) ≤ (l.length:Int):=by omega
  have hk1:List.take (l.length - a) (List.drop a (l.map rQ)) = (l.drop a).map rQ:=by rw [List.take_of_length_le (by simp),List.map_drop]
  have hk2:List.take a (l.map rQ) = (l.take a).map rQ:=List.map_take.symm
  simp only [c66,List.length_map,hc,hat,hc1,hk1,hk2,h1,h2,Zt l,List.drop_zero,Nat.sub_zero,go_sem,Nat.reduceAdd,Nat.reduceMul,Nat.reduceEqDiff,Nat.reduceBEq,Nat.reduceMod,Nat.reduceDiv,↓reduceIte,reduceCtorEq]
end Go.Proofs.Ytdkkgecdhapfhaa.Kn
set_option maxRecDepth 4000
namespace Go.Proofs.Ytdkkgecdhapfhaa.Kn
open Go Ev
variable {ext : Env} {F n:Nat} {θ:Th}
structure Nt where
  k:Qn
  nx:Bool
  s:Se
  u:Int
  deriving DecidableEq
def rN (x:Nt):List FV:=[.str x.k.q,.int .i64 x.k.t,.int .i64 x.k.c,.bool x.nx,.str x.s.q,.int .i64 x.s.t,.int .i64 x.s.c,.sl (x.s.d.map iB),.int .i64 x.s.ttl,.int .i64 x.u]
abbrev Nt.v (x:Nt):AV:=.agg [.f (.str x.k.q),.f (.int .i64 x.k.t),.f (.int .i64 x.k.c),.f (.bool x.nx),.f (.str x.s.q),.f (.int .i64 x.s.t),.f (.int .i64 x.s.c),.f (.sl (x.s.d.map iB)),.f (.int .i64 x.s.ttl),.f (.int .i64 x.u)]
abbrev Qn.v (k:Qn):AV:=vq k.q k.t k.c
def nt0 : Nt:=⟨⟨⟨#[]⟩,0,0⟩,false,⟨⟨#[]⟩,0,0,[],0⟩,0⟩
structure On where
  o:Int
  now:Int
  k:Qn
  nx:Bool
  s:Se
def Fy (x:On):List FV:=[.int .i64 x.o,.int .i64 x.now,.str x.k.q,.int .i64 x.k.t,.int .i64 x.k.c,.bool x.nx,.str x.s.q,.int .i64 x.s.t,.int .i64 x.s.c,.sl (x.s.d.map iB),.int .i64 x.s.ttl]
abbrev On.v (x:On):AV:=.agg [.f (.int .i64 x.o),.f (.int .i64 x.now),.f (.str x.k.q),.f (.int .i64 x.k.t),.f (.int .i64 x.k.c),.f (.bool x.nx),.f (.str x.s.q),.f (.int .i64 x.s.t),.f (.int .i64 x.s.c),.f (.sl (x.s.d.map iB)),.f (.int .i64 x.s.ttl)]
structure Nv where
  room:Int
  m:List Nt
  o:List Qn
  ch:Int
structure Rn where
  room:Int
  l:List Nt
  ch:Int
abbrev Mc : KS:=.agg [.str,.int .i64,.int .i64]
abbrev kq (k:Qn):KV:=.agg [.str k.q,.int .i64 k.t,.int .i64 k.c]
theorem Vg {a b:Qn}:kq a = kq b ↔ a = b:=by
  constructor
  · intro h;simp only [kq,KV.agg.injEq,List.cons.injEq,SV.str.injEq,SV.int.injEq] at h
    cases a;cases b;simp_all
  · rintro rfl;rfl
def old (l:List Nt) (k:Qn):Option Nt:=l.find? fun x=>decide (x.k = k)
def rid (l:List Nt) (k:Qn):List Nt:=l.eraseP fun x=>decide (x.k = k)
def ent (x:Nt):KV × FC:=(kq x.k,.agg (rN x))
theorem yB (l:List Nt) (k:Qn):FE (l.map ent) (kq k) = l.findIdx? fun x=>decide (x.k = k):=by
  unfold FE
  rw [List.map_map,List.findIdx?_map]
  refine congrArg (fun p=>List.findIdx? p l) (funext fun x=>?_)
  simp only [Function.comp,ent]
  by_cases h:x.k = k
  · simp [h]
  · have:¬ kq x.k = kq k:=fun e=>h (Vg.mp e)
    simp only [this,h,decide_false]
theorem En (l:List Nt) (k:Qn):Dv (l.map ent) (kq k) = (old l k).map fun x=>.agg (rN x):=by
  have hf:old l k = (l.findIdx? fun x=>decide (x.k = k)).bind fun i=>l[i]?:=List.find?_eq_bind_findIdx?_getElem? ..
  unfold Dv
  rw [yB,hf]
  cases l.findIdx? fun x=>decide (x.k = k) with
  | none=>rfl
  | some i=>simp only [Option.bind_some,List.getElem?_map];cases l[i]? <;> rfl
theorem Eo (l:List Nt) (k:Qn):FI (l.map ent) (kq k) = (rid l k).map ent:=by
  unfold FI rid
  rw [yB,List.eraseP_eq_eraseIdx]
  cases l.findIdx? fun x=>decide (x.k = k) with
  | none=>rfl
  | some i=>simp [List.eraseIdx_eq_take_drop_succ,List.map_take,List.map_drop]
def upd (l:List Nt) (x:Nt):List Nt:=match l.findIdx? fun y=>decide (y.k = x.k) with
  | some i=>l.set i x
  | none=>l ++ [x]
theorem Md (l:List Nt) (x:Nt):FH (l.map ent) (kq x.k) (.agg (rN x)) = (upd l x).map ent:=by
  unfold FH upd
  rw [yB]
  cases l.findIdx? fun y=>decide (y.k = x.k) with
  | none=>simp [ent]
  | some i=>simp [List.map_set,ent]
abbrev ks (l:List Nt):List Qn:=l.map Nt.k
theorem Po {b:Qn}:old [] b = none:=rfl
theorem tN {x:Nt} {l:List Nt} {b:Qn}:old (x :: l) b = if x.k = b then some x else old l b:=by
  unfold old;rw [List.find?_cons];by_cases h:x.k = b <;> simp [h]
theorem Cj {l:List Nt} {b:Qn} (h:b ∉ ks l):old l b = none:=by
  unfold old;rw [List.find?_eq_none]
  intro x hx;simp only [decide_eq_true_eq];rintro rfl;exact h (List.mem_map_of_mem hx)
theorem wY {l:List Nt} {b:Qn} {x:Nt} (h:old l b = some x):x.k = b ∧ x ∈ l:=⟨by simpa using List.find?_some h,List.mem_of_find?_eq_some h⟩
theorem yC {x:Nt} {l:List Nt} {a:Qn}:rid (x :: l) a = if x.k = a then l else x :: rid l a:=by
  unfold rid;rw [List.eraseP_cons];by_cases h:x.k = a <;> simp [h]
theorem Ck {l:List Nt} {a:Qn}:(rid l a).Sublist l:=List.eraseP_sublist ..
theorem nH {l:List Nt} {a:Qn} (h:(ks l).Nodup):(ks (rid l a)).Nodup:=(Ck.map _).nodup h
theorem Cm {l:List Nt} {a b:Qn} (h:(ks l).Nodup):old (rid l a) b = if b = a then none else old l b:=by
  induction l with
  | nil=>simp [rid,Po]
  | cons x l ih =>
    have hc:=List.nodup_cons.mp h
    rw [yC]
    by_cases hx:x.k = a
    · rw [if_pos hx]
      by_cases hb:b = a
      · rw [if_pos hb];exact Cj (by rw [hb,← hx];exact hc.1)
      · rw [if_neg hb,tN,if_neg (by rw [hx];exact fun e=>hb e.symm)]
    · rw [if_neg hx,tN,tN,ih hc.2]
      by_cases hb:b = a
      · subst hb;rw [if_neg hx,if_pos rfl,if_pos rfl]
      · rw [if_neg hb,if_neg hb]
theorem Vh {l:List Nt} {a:Qn} (h:(ks l).Nodup):ks (rid l a) = vV (ks l) a:=by
  induction l with
  | nil=>rfl
  | cons x l ih =>
    have hc:=List.nodup_cons.mp h
    rw [yC]
    by_cases hx:x.k = a
    · rw [if_pos hx]
      have:vV (ks l) a = ks l:=List.filter_eq_self.mpr fun y hy=>by
        simp only [decide_eq_true_eq];rintro rfl;rw [← hx] at hy;exact hc.1 hy
      simp only [ks,List.map_cons,vV,List.filter_cons,hx,ne_eq,decide_not] at this ⊢
      simp [this]
    · rw [if_neg hx]
      simp only [ks,List.map_cons,vV,List.filter_cons] at ih ⊢
      rw [ih hc.2];simp [hx]
theorem wZ {l:List Nt} {x:Nt} {b:Qn} (h:x.k ∉ ks l):old (l ++ [x]) b = if b = x.k then some x else old l b:=by
  unfold old;rw [List.find?_append]
  by_cases hb:b = x.k
  · subst hb
    have:=Cj h;unfold old at this
    rw [this];simp
  · have:¬ x.k = b:=fun e=>hb e.symm
    simp [hb,this]
theorem Cn (l:List Nt) (x:Nt):(x.k ∉ ks l ∧ upd l x = l ++ [x]) ∨ ∃ a y b,l = a ++ y :: b ∧ y.k = x.k ∧ x.k ∉ ks a ∧ upd l x = a ++ x :: b:=by
  unfold upd
  cases h:l.findIdx? fun y=>decide (y.k = x.k) with
  | none =>
    refine .inl ⟨fun hm=>?_,rfl⟩
    obtain ⟨y,hy,hk⟩:=List.mem_map.mp hm
    have:=List.findIdx?_eq_none_iff.mp h y hy
    simp [hk] at this
  | some i =>
    obtain ⟨hi,hx,hb⟩:=List.findIdx?_eq_some_iff_getElem.mp h
    refine .inr ⟨l.take i,l[i],l.drop (i + 1),?_,by simpa using hx,fun hm=>?_,?_⟩
    · rw [List.getElem_cons_drop,List.take_append_drop]
    · obtain ⟨y,hy,hk⟩:=List.mem_map.mp hm
      obtain ⟨j,hj,rfl⟩:=List.mem_take_iff_getElem.mp hy
      have:=hb j (by omega)
      simp [hk] at this
    · simp only [List.set_eq_take_append_cons_drop,hi,if_true]
theorem Pp {l:List Nt} {x:Nt} {b:Qn}:old (upd l x) b = if b = x.k then some x else old l b:=by
  rcases Cn l x with ⟨h,hu⟩ | ⟨a,y,c,rfl,hy,ha,hu⟩
  · rw [hu,wZ h]
  · rw [hu]
    have hno:=Cj ha
    unfold old at hno ⊢
    rw [List.find?_append,List.find?_append,List.find?_cons,List.find?_cons]
    by_cases hb:b = x.k
    · subst hb;rw [hno];simp
    · have h1:¬ x.k = b:=fun e=>hb e.symm
      have h2:¬ y.k = b:=fun e=>hb (by rw [← hy,e])
      simp [hb,h1,h2]
theorem qx {l:List Nt} {x:Nt} (h:(ks l).Nodup):(ks (upd l x)).Nodup:=by
  rcases Cn l x with ⟨hn,hu⟩ | ⟨a,y,c,rfl,hy,ha,hu⟩
  · rw [hu]
    simp only [ks,List.map_append,List.map_cons,List.map_nil]
    refine List.nodup_append.mpr ⟨h,List.pairwise_singleton _ _,fun p hp q hq=>?_⟩
    rw [List.mem_singleton] at hq;subst hq;rintro rfl;exact hn hp
  · rw [hu]
    have:ks (a ++ x :: c) = ks (a ++ y :: c):=by simp [ks,hy]
    rw [this];exact h
theorem Pq {l:List Nt} {a:Qn}:(rid l a).length ≤ l.length:=Ck.length_le
theorem vC {l:List Nt} {a:Qn} (h:(ks l).Nodup):a ∉ ks (rid l a):=fun hp=>by
  have h1:=Cm (b:=a) (a:=a) h
  rw [if_pos rfl] at h1
  obtain ⟨y,hy,hk⟩:=List.mem_map.mp hp
  have:=List.find?_eq_none.mp h1 y hy
  simp [hk] at this
theorem Aw {l:List Nt} {x:Nt} (h:(ks l).Nodup) (hn:x.k ∉ ks l):(ks (l ++ [x])).Nodup:=by
  simp only [ks,List.map_append,List.map_cons,List.map_nil]
  refine List.nodup_append.mpr ⟨h,List.pairwise_singleton _ _,fun p hp q hq=>?_⟩
  rw [List.mem_singleton] at hq;subst hq;rintro rfl;exact hn hp
theorem Pt {l:List Nt} {x:Nt}:(upd l x).length ≤ l.length + 1:=by
  rcases Cn l x with ⟨-,hu⟩ | ⟨a,y,c,rfl, -, -,hu⟩ <;> rw [hu] <;> simp
theorem H8 {l:List Nt} {x y:Nt} (h:y ∈ upd l x):y = x ∨ y ∈ l:=by
  rcases Cn l x with ⟨-,hu⟩ | ⟨a,z,c,rfl, -, -,hu⟩ <;> rw [hu] at h <;> simp at h ⊢
  · rcases h with h | h <;> simp [h]
  · rcases h with h | h | h <;> simp [h]
theorem tO : ∀ {g:List Qn} {l:List Nt},(g.foldl rid l).Sublist l
  | [],l=>List.Sublist.refl _
  | a :: g,l=>(tO (g:=g)).trans Ck
abbrev Nv.v (s:Nv):AV:=.one (.ptr [.f (.int .i64 s.room),.mp Mc (s.m.map ent),.f (.sl (s.o.map rQ)),.f (.int .i64 s.ch)])
abbrev Rn.v (s:Rn):AV:=.agg [.f (.int .i64 s.room),.f (.sl (s.l.map rN)),.f (.int .i64 s.ch)]
def Vi : Option Nv → AV
  | some s=>s.v
  | none=>.one .jH
theorem pF (s:Nv):Vi (some s) = s.v:=rfl
theorem Ep : Vi none = .one .jH:=rfl
end Go.Proofs.Ytdkkgecdhapfhaa.Kn
set_option maxRecDepth 4000
namespace Go.Proofs.Ytdkkgecdhapfhaa.Kn
open Go Ev
variable {ext : Env} {F n:Nat} {θ:Th} {gt:ByteArray → Int → Int → Int × Bool}
structure JC (gt:ByteArray → Int → Int → Int × Bool) (ext:Env):Prop where
  og:∀ s a z,s.size ≤ 1000000 → ext 74 [vs s,vi a,vi z] = some ([vi (gt s a z).1,vb (gt s a z).2],[vs s,vi a,vi z])
  rg:∀ s a z,s.size ≤ 1000000 → ext 75 [vs s,vi a,vi z] = some ([vi (gt s a z).1,vb (gt s a z).2],[vs s,vi a,vi z])
  nn:∀ s a z,0 ≤ (gt s a z).1
theorem Zu (O:JC gt ext) (s:ByteArray) (a z:Int) (h:s.size ≤ 1000000):G ext F (n + 1) 74 [vs s,vi a,vi z] = some ([vi (gt s a z).1,vb (gt s a z).2],[vs s,vi a,vi z]):=(congrFun (nV rfl) _).trans (O.og s a z h)
theorem Co (room:Int):G ext F (n + 1) 39 [vi room] = some ([Vi (if room < 1 ∨ 1000 < room then none else some ⟨room,[],[],0⟩)],[vi room]):=by
  refine iC (cf:=N8) rfl ?_
  simp only [N8,go_sem,Nat.reduceAdd,Nat.reduceMul,Nat.reduceEqDiff,Nat.reduceBEq,Nat.reduceMod,Nat.reduceDiv,↓reduceIte,reduceCtorEq]
  repeat' (refine eD (fun h=>?_) (fun h=>?_) <;> simp only [h,go_sem,Nat.reduceAdd,Nat.reduceMul,Nat.reduceEqDiff,Nat.reduceBEq,Nat.reduceMod,Nat.reduceDiv,↓reduceIte,reduceCtorEq])
  all_goals (simp only [decide_eq_true_eq,decide_eq_false_iff_not] at *)
  all_goals first | rw [if_pos (by omega)] | rw [if_neg (by omega)]
  all_goals rfl
theorem vW (o:Option Nv):G ext F (n + 1) 53 [Vi o] = some ([vi (match o with | some s=>s.ch | none=>0)],[Vi o]):=by
  refine iC (cf:=c53) rfl ?_
  cases o with
  | none =>
    rw [Ep]
    simp only [c53,go_sem,Nat.reduceAdd,Nat.reduceMul,Nat.reduceEqDiff,Nat.reduceBEq,Nat.reduceMod,Nat.reduceDiv,↓reduceIte,reduceCtorEq]
  | some s =>
    rw [pF]
    simp only [c53,go_sem,Nat.reduceAdd,Nat.reduceMul,Nat.reduceEqDiff,Nat.reduceBEq,Nat.reduceMod,Nat.reduceDiv,↓reduceIte,reduceCtorEq]
theorem Er (C:qM ext) (o:Option Nv) (ho:∀ s,o = some s → s.o.length ≤ 1000000):G ext F (n + 2) 51 [Vi o] = some ([vl ((match o with | some s=>s.o | none=>[]).map rQ)],[Vi o]):=by
  refine iC (cf:=c51) rfl ?_
  cases o with
  | none =>
    rw [Ep]
    simp only [c51,go_sem,Nat.reduceAdd,Nat.reduceMul,Nat.reduceEqDiff,Nat.reduceBEq,Nat.reduceMod,Nat.reduceDiv,↓reduceIte,reduceCtorEq]
  | some s =>
    rw [pF]
    have h1:=fun n=>H7 (F:=F) (n:=n) C s.o (ho s rfl)
    simp only [c51,h1,go_sem,Nat.reduceAdd,Nat.reduceMul,Nat.reduceEqDiff,Nat.reduceBEq,Nat.reduceMod,Nat.reduceDiv,↓reduceIte,reduceCtorEq]
theorem nI (C:qM ext) (x:Nt) (hx:x.s.d.length ≤ 1000000):G ext F (n + 2) 80 [x.v] = some ([x.v],[x.v]):=by
  refine iC (cf:=c80) rfl ?_
  have h1:=fun n=>Zr (F:=F) (n:=n) C x.s.d hx
  simp only [c80,h1,go_sem,Nat.reduceAdd,Nat.reduceMul,Nat.reduceEqDiff,Nat.reduceBEq,Nat.reduceMod,Nat.reduceDiv,↓reduceIte,reduceCtorEq]
theorem Es (k:Qn):G ext F (n + 1) 79 [k.v] = some ([vq k.q 0 k.c],[k.v]):=by
  refine iC (cf:=c79) rfl ?_
  simp only [c79,go_sem,Nat.reduceAdd,Nat.reduceMul,Nat.reduceEqDiff,Nat.reduceBEq,Nat.reduceMod,Nat.reduceDiv,↓reduceIte,reduceCtorEq]
abbrev Qn.w (k:Qn):Qn:=⟨k.q,0,k.c⟩
def Th.ask (θ:Th) (k:Qn):Bool:=θ.key k.q k.t k.c && !decide (k.t = 0)
theorem Me (T:θ.Ok ext) (k:Qn) (hq:k.q.size ≤ 1000000):G ext F (n + 2) 78 [k.v] = some ([vb (θ.ask k)],[k.v]):=by
  refine iC (cf:=c78) rfl ?_
  have h1:=fun n=>SA (F:=F) (n:=n) T k.q hq
  have h2:=fun n=>SB (F:=F) (n:=n) T k.q hq
  simp only [c78,h1,h2,go_sem,Nat.reduceAdd,Nat.reduceMul,Nat.reduceEqDiff,Nat.reduceBEq,Nat.reduceMod,Nat.reduceDiv,↓reduceIte,reduceCtorEq]
  repeat' (refine eD (fun h=>?_) (fun h=>?_) <;> simp only [h,h1,h2,go_sem,Nat.reduceAdd,Nat.reduceMul,Nat.reduceEqDiff,Nat.reduceBEq,Nat.reduceMod,Nat.reduceDiv,↓reduceIte,reduceCtorEq])
  all_goals clear h1 h2
  all_goals simp only [decide_eq_true_eq,decide_eq_false_iff_not] at *
  all_goals (simp [Th.ask,Th.key, *])
  all_goals (try omega)
  all_goals (have a1:0 ≤ k.t:=by omega);(have a2:¬ k.t = 0:=by omega);simp [a1,a2]
theorem rM (o:On):G ext F (n + 1) 54 [o.v] = some ([if o.nx then o.k.w.v else o.k.v],[o.v]):=by
  refine iC (cf:=c54) rfl ?_
  cases hx:o.nx
  all_goals
    simp only [c54,hx,go_sem,Nat.reduceAdd,Nat.reduceMul,Nat.reduceEqDiff,Nat.reduceBEq,Nat.reduceMod,Nat.reduceDiv,↓reduceIte,reduceCtorEq]
    simp only [On.v,Qn.v,Qn.w,vq,hx]
def yD (l:List On):Bool:=l.all fun x=>nX x.s.q x.s.d && decide (x.k.q.size ≤ 300)
theorem JD {l:List On} {x:On} {i:Nat} (h:l[i]? = some x):yD (l.take (i + 1)) = (yD (l.take i) && (nX x.s.q x.s.d && decide (x.k.q.size ≤ 300))):=by
  unfold yD
  rw [List.take_add_one,h,List.all_append]
  simp
theorem H9 {l:List On} {x:On} {i:Nat} (h:l[i]? = some x) (hx:(nX x.s.q x.s.d && decide (x.k.q.size ≤ 300)) = false):yD l = false:=by
  unfold yD
  refine Bool.eq_false_iff.mpr fun ha=>?_
  rw [List.all_eq_true.mp ha x (List.mem_of_getElem? h)] at hx
  cases hx
theorem Gd (l:List On) (m:Int) (hl:l.length ≤ 200000000000000) (hd:∀ x ∈ l,x.s.d.length ≤ 200000000000000) (hF:200000000000001 ≤ F):G ext F (n + 2) 37 [vl (l.map Fy),vi m] = some ([vb (yD l && decide ((l.length:Int) ≤ m))],[vl (l.map Fy),vi m]):=by
  refine iC (cf:=c37) rfl ?_
  simp only [c37,go_sem,Nat.reduceAdd,Nat.reduceMul,Nat.reduceEqDiff,Nat.reduceBEq,Nat.reduceMod,Nat.reduceDiv,↓reduceIte,reduceCtorEq]
  refine pz l.length (fun i=>⟨[(0,PV.c (CV.one (PL.f (FV.sl (l.map Fy))))),(1,PV.c (CV.one (PL.f (FV.int .i64 m)))),(5,PV.c (CV.one (PL.f (FV.int .i64 i))))],[]⟩) (fun i=>yD (l.take i) = true) (by omega) rfl (by simp [yD]) (fun i hi hP=>?_) (fun hP=>?_)
  · obtain ⟨x,hx,hlt,ht,h0⟩:=at_ hi
    have hn:=nx hi (Nat.le_trans hl (by decide))
    have hs:=fun n=>LZ (ext:=ext) (F:=F) (n:=n) x.s.q x.s.t x.s.c x.s.d x.s.ttl (hd x (List.mem_of_getElem? hx)) hF
    cases h1:nX x.s.q x.s.d with
    | false =>
      simp only [List.length_map,List.getElem?_map,hlt,hx,ht,h0,Fy,hs,h1,go_sem,Nat.reduceAdd,Nat.reduceMul,Nat.reduceEqDiff,Nat.reduceBEq,Nat.reduceMod,Nat.reduceDiv,↓reduceIte,reduceCtorEq]
      rw [H9 hx (by rw [h1];rfl)];rfl
    | true =>
      simp only [List.length_map,List.getElem?_map,hlt,hx,ht,h0,Fy,hs,h1,go_sem,Nat.reduceAdd,Nat.reduceMul,Nat.reduceEqDiff,Nat.reduceBEq,Nat.reduceMod,Nat.reduceDiv,↓reduceIte,reduceCtorEq]
      repeat' (refine eD (fun h=>?_) (fun h=>?_) <;> simp only [h,List.length_map,List.getElem?_map,hlt,hx,ht,h0,hn,Fy,hs,h1,go_sem,Nat.reduceAdd,Nat.reduceMul,Nat.reduceEqDiff,Nat.reduceBEq,Nat.reduceMod,Nat.reduceDiv,↓reduceIte,reduceCtorEq])
      all_goals simp only [decide_eq_true_eq,decide_eq_false_iff_not] at *
      · rw [H9 hx (by rw [h1];simp;omega)];rfl
      · rw [JD hx,hP,h1];simp;omega
  · have hd:=@end_ _ l
    rw [List.take_length] at hP
    simp only [List.length_map,hd,go_sem,Nat.reduceAdd,Nat.reduceMul,Nat.reduceEqDiff,Nat.reduceBEq,Nat.reduceMod,Nat.reduceDiv,↓reduceIte,reduceCtorEq]
    repeat' (refine eD (fun h=>?_) (fun h=>?_) <;> simp only [h,List.length_map,hd,go_sem,Nat.reduceAdd,Nat.reduceMul,Nat.reduceEqDiff,Nat.reduceBEq,Nat.reduceMod,Nat.reduceDiv,↓reduceIte,reduceCtorEq])
    simp [hP]
def ko (θ:Th) (gt:ByteArray → Int → Int → Int × Bool) (x:Se):Int × Bool :=
  if θ.set x.q x.t x.c x.d x.ttl = true ∧ x.t = 6 then (if x.ttl < (gt (x.d.headD ⟨#[]⟩) ((x.d.headD ⟨#[]⟩).size - 4) 4).1 then x.ttl else (gt (x.d.headD ⟨#[]⟩) ((x.d.headD ⟨#[]⟩).size - 4) 4).1,true) else (0,false)
theorem Mf {x:Se} (h:θ.set x.q x.t x.c x.d x.ttl = true):∃ y d,x.d = y :: d:=by
  unfold Th.set at h
  rw [decide_eq_true_eq] at h
  exact List.exists_cons_of_ne_nil h.2.2.2
theorem nY (T:θ.Ok ext) (O:JC gt ext) (x:Se) (hF:200000000000001 ≤ F) (hq:x.q.size ≤ 1000000) (hn:x.d.length ≤ 1000000) (hd:∀ y ∈ x.d,y.size ≤ 1000000):G ext F (n + 4) 41 [x.v] = some ([vi (ko θ gt x).1,vb (ko θ gt x).2],[x.v]):=by
  refine iC (cf:=KI) rfl ?_
  have h1:=fun n=>JB (F:=F) (n:=n) T x.q x.t x.c x.d x.ttl (by omega) hF hq hd
  by_cases h6:x.t = 6
  · have h6':decide (x.t = 6) = true:=decide_eq_true h6
    cases hs:θ.set x.q x.t x.c x.d x.ttl with
    | false =>
      rw [hs] at h1
      have e:ko θ gt x = (0,false):=by unfold ko;rw [hs];rfl
      rw [e]
      simp only [KI,h1,h6',go_sem,Nat.reduceAdd,Nat.reduceMul,Nat.reduceEqDiff,Nat.reduceBEq,Nat.reduceMod,Nat.reduceDiv,↓reduceIte,reduceCtorEq]
    | true =>
      rw [hs] at h1
      obtain ⟨y,ds,hy⟩:=Mf hs
      have e:ko θ gt x = (if x.ttl < (gt y (y.size - 4) 4).1 then x.ttl else (gt y (y.size - 4) 4).1,true):=by unfold ko;rw [if_pos ⟨hs,h6⟩,hy];rfl
      rw [e]
      have hys:=hd y (by rw [hy];simp)
      have hw:IntKind.i64.wrap ((y.size:Int) - 4) = y.size - 4:=zN (by omega) (by omega)
      have hg:=fun n=>Zu (F:=F) (n:=n) O y (y.size - 4) 4 hys
      simp only [Se.v,Ga,hy,List.map_cons,iB] at h1 ⊢
      simp only [KI,h1,h6',List.map_cons,List.getElem?_cons_zero,iB,hw,hg,Int.toNat_zero,go_sem,Nat.reduceAdd,Nat.reduceMul,Nat.reduceEqDiff,Nat.reduceBEq,Nat.reduceMod,Nat.reduceDiv,↓reduceIte,reduceCtorEq]
      exact ⟨Int.le_refl _,by rw [hy];rfl⟩
  · have h6':decide (x.t = 6) = false:=decide_eq_false h6
    have e:ko θ gt x = (0,false):=by unfold ko;rw [if_neg (fun h=>h6 h.2)]
    rw [e]
    simp only [KI,h6',go_sem,Nat.reduceAdd,Nat.reduceMul,Nat.reduceEqDiff,Nat.reduceBEq,Nat.reduceMod,Nat.reduceDiv,↓reduceIte,reduceCtorEq]
end Go.Proofs.Ytdkkgecdhapfhaa.Kn
set_option maxRecDepth 4000
namespace Go.Proofs.Ytdkkgecdhapfhaa.Kn
open Go Ev
variable {ext : Env} {F n:Nat} {θ:Th} {gt:ByteArray → Int → Int → Int × Bool}
def rwo (l:List Nt) (k:Qn):List Nt:=l.filter fun x=>decide (x.k ≠ k)
def Xy (o:Option Nt):Nt × Bool:=match o with
  | some x=>(x,true)
  | none=>(nt0,false)
abbrev kn (nx:Bool) (k:Qn):Qn:=if nx then k.w else k
def Et (room:Int) (l:List Nt):List Nt:=if room < l.length then l.drop 1 else l
def Th.narg (θ:Th) (gt:ByteArray → Int → Int → Int × Bool) (s:Rn) (now:Int) (k:Qn) (x:Se):Prop:=s.room = 0 ∨ Ch now = false ∨ (ko θ gt x).2 = false ∨ θ.key k.q k.t k.c = false ∨ k.t = 0
instance {s : Rn} {now:Int} {k:Qn} {x:Se}:Decidable (θ.narg gt s now k x):=by unfold Th.narg;infer_instance
def oF (θ:Th) (gt:ByteArray → Int → Int → Int × Bool) (s:Rn) (now:Int) (k:Qn) (nx:Bool) (x:Se):Rn × Int :=
  if θ.narg gt s now k x then (s,1)
  else if jY now (dN now (ko θ gt x).1) = false then (s,14)
  else (⟨s.room,Et s.room (rwo s.l (kn nx k) ++ [⟨kn nx k,nx,x,dN now (ko θ gt x).1⟩]),s.ch + 1⟩,0)
theorem Ia {s:Rn} {now:Int} {k:Qn} {nx:Bool} {x:Se} (h:θ.narg gt s now k x):oF θ gt s now k nx x = (s,1):=if_pos h
theorem Eu {s:Rn} {now:Int} {k:Qn} {nx:Bool} {x:Se} (h:¬ θ.narg gt s now k x) (h2:jY now (dN now (ko θ gt x).1) = false):oF θ gt s now k nx x = (s,14):=by unfold oF;rw [if_neg h,if_pos h2]
theorem Ib {s:Rn} {now:Int} {k:Qn} {nx:Bool} {x:Se} {l:List Nt} (h:¬ θ.narg gt s now k x) (h2:jY now (dN now (ko θ gt x).1) = true) (hl:Et s.room (rwo s.l (kn nx k) ++ [⟨kn nx k,nx,x,dN now (ko θ gt x).1⟩]) = l):oF θ gt s now k nx x = (⟨s.room,l,s.ch + 1⟩,0):=by
  subst hl;unfold oF;rw [if_neg h,if_neg (by rw [h2];decide)]
end Go.Proofs.Ytdkkgecdhapfhaa.Kn
set_option maxRecDepth 4000
namespace Go.Proofs.Ytdkkgecdhapfhaa.Kn
open Go Ev
variable {ext : Env} {F n:Nat} {θ:Th} {gt:ByteArray → Int → Int → Int × Bool}
def nof (m:List Nt) (now:Int) (k:Qn):Option Nt:=match old m k with
  | some x=>if jY now x.u then some x else none
  | none=>none
def jF (s:Nv) (now:Int) (k:Qn):Nt × Bool:=match nof s.m now k.w with
  | some x=>(x,true)
  | none=>Xy (nof s.m now k)
theorem pG (C:qM ext) (s:Nv) (now:Int) (k:Qn) (hF:200000000000001 ≤ F) (hd:∀ x ∈ s.m,x.s.d.length ≤ 1000000):G ext F (n + 3) 46 [s.v,vi now,k.v] = some ([(jF s now k).1.v,vb (jF s now k).2],[s.v,vi now,k.v]):=by
  refine iC (cf:=c46) rfl ?_
  have hw:=fun n=>Es (ext:=ext) (F:=F) (n:=n) k
  simp only [c46,hw,go_sem,Nat.reduceAdd,Nat.reduceMul,Nat.reduceEqDiff,Nat.reduceBEq,Nat.reduceMod,Nat.reduceDiv,↓reduceIte,reduceCtorEq]
  refine pz 2 (fun i=>⟨[(0,PV.c (CV.one (PL.ptr 20201 0))),(1,PV.c (CV.one (PL.f (FV.int IntKind.i64 now)))),(6,PV.c (CV.one (PL.ptr 140000 0))),(18,PV.c (CV.one (PL.own 380000 2))),(19,PV.c (CV.one (PL.f (FV.int IntKind.i64 ((2:Nat):Int))))),(20,PV.c (CV.one (PL.f (FV.int IntKind.i64 (i:Int)))))],[(20201,Ob.ni [PL.f (FV.int IntKind.i64 s.room),PL.mp 20205,PL.f (FV.sl (List.map rQ s.o)),PL.f (FV.int IntKind.i64 s.ch)]),(20205,Ob.map Mc (List.map ent s.m)),(140000,Ob.ni [PL.f (FV.str ⟨#[]⟩),PL.f (FV.int IntKind.i64 0),PL.f (FV.int IntKind.i64 0),PL.f (FV.bool false),PL.f (FV.str ⟨#[]⟩),PL.f (FV.int IntKind.i64 0),PL.f (FV.int IntKind.i64 0),PL.fT,PL.f (FV.int IntKind.i64 0),PL.f (FV.int IntKind.i64 0)]),(380000,Ob.row 3 [[FV.str k.q,FV.int IntKind.i64 0,FV.int IntKind.i64 k.c],[FV.str k.q,FV.int IntKind.i64 k.t,FV.int IntKind.i64 k.c]])]⟩) (fun i=>(1 ≤ i → nof s.m now k.w = none) ∧ (2 ≤ i → nof s.m now k = none)) (by omega) rfl ⟨by omega,by omega⟩ (fun i hi hP=>?_) (fun hP=>?_)
  · rcases (show i = 0 ∨ i = 1 by omega) with rfl | rfl
    · skip
      have hlt:decide (((0:Nat):Int) < ((2:Nat):Int)) = true:=by decide
      have ht:((0:Nat):Int).toNat = 0:=rfl
      have h0:(0:Int) ≤ ((0:Nat):Int):=by decide
      have hn':IntKind.i64.wrap (((0:Nat):Int) + 1) = ((0 + 1:Nat):Int):=by rw [zN (by omega) (by omega)];rfl
      have hk1:=En s.m k.w
      simp only [kq] at hk1
      have hcl:=fun n x hx=>nI (F:=F) (n:=n) C x hx
      cases hold:old s.m k.w with
      | none =>
        rw [hold] at hk1
        simp only [hlt,ht,h0,hn',List.getElem?_cons_zero,List.getElem?_cons_succ,hk1,Option.map_none,Option.isSome_none,go_sem,Nat.reduceAdd,Nat.reduceMul,Nat.reduceEqDiff,Nat.reduceBEq,Nat.reduceMod,Nat.reduceDiv,↓reduceIte,reduceCtorEq]
        first | exact ⟨by decide,fun _=>by unfold nof;simp [hold, *],by omega⟩ | exact ⟨by decide,rfl,fun _=>by unfold nof;simp [hold, *],by omega⟩
      | some x =>
        rw [hold] at hk1
        have hcl:=fun n=>nI (F:=F) (n:=n) C x (hd x (wY hold).2)
        cases hv:jY now x.u with
        | false =>
          simp only [hlt,ht,h0,hn',List.getElem?_cons_zero,List.getElem?_cons_succ,hk1,Option.map_some,Option.isSome_some,rN,qw,hv,go_sem,Nat.reduceAdd,Nat.reduceMul,Nat.reduceEqDiff,Nat.reduceBEq,Nat.reduceMod,Nat.reduceDiv,↓reduceIte,reduceCtorEq]
          first | exact ⟨by decide,fun _=>by unfold nof;simp [hold, *],by omega⟩ | exact ⟨by decide,rfl,fun _=>by unfold nof;simp [hold, *],by omega⟩
        | true =>
          simp only [hlt,ht,h0,hn',List.getElem?_cons_zero,List.getElem?_cons_succ,hk1,Option.map_some,Option.isSome_some,rN,qw,hv,hcl,go_sem,Nat.reduceAdd,Nat.reduceMul,Nat.reduceEqDiff,Nat.reduceBEq,Nat.reduceMod,Nat.reduceDiv,↓reduceIte,reduceCtorEq]
          have e:jF s now k = (x,true):=by unfold jF nof;rw [hold];simp [hv]
          rw [e]
          exact ⟨by decide,rfl⟩
    · have hp:=hP.1 (by decide)
      have hlt:decide (((1:Nat):Int) < ((2:Nat):Int)) = true:=by decide
      have ht:((1:Nat):Int).toNat = 1:=rfl
      have h0:(0:Int) ≤ ((1:Nat):Int):=by decide
      have hn':IntKind.i64.wrap (((1:Nat):Int) + 1) = ((1 + 1:Nat):Int):=by rw [zN (by omega) (by omega)];rfl
      have hk1:=En s.m k
      simp only [kq] at hk1
      have hcl:=fun n x hx=>nI (F:=F) (n:=n) C x hx
      cases hold:old s.m k with
      | none =>
        rw [hold] at hk1
        simp only [hlt,ht,h0,hn',List.getElem?_cons_zero,List.getElem?_cons_succ,hk1,Option.map_none,Option.isSome_none,go_sem,Nat.reduceAdd,Nat.reduceMul,Nat.reduceEqDiff,Nat.reduceBEq,Nat.reduceMod,Nat.reduceDiv,↓reduceIte,reduceCtorEq]
        first | exact ⟨by decide,fun _=>hp,fun _=>by unfold nof;simp [hold, *]⟩ | exact ⟨by decide,rfl,fun _=>hp,fun _=>by unfold nof;simp [hold, *]⟩
      | some x =>
        rw [hold] at hk1
        have hcl:=fun n=>nI (F:=F) (n:=n) C x (hd x (wY hold).2)
        cases hv:jY now x.u with
        | false =>
          simp only [hlt,ht,h0,hn',List.getElem?_cons_zero,List.getElem?_cons_succ,hk1,Option.map_some,Option.isSome_some,rN,qw,hv,go_sem,Nat.reduceAdd,Nat.reduceMul,Nat.reduceEqDiff,Nat.reduceBEq,Nat.reduceMod,Nat.reduceDiv,↓reduceIte,reduceCtorEq]
          first | exact ⟨by decide,fun _=>hp,fun _=>by unfold nof;simp [hold, *]⟩ | exact ⟨by decide,rfl,fun _=>hp,fun _=>by unfold nof;simp [hold, *]⟩
        | true =>
          simp only [hlt,ht,h0,hn',List.getElem?_cons_zero,List.getElem?_cons_succ,hk1,Option.map_some,Option.isSome_some,rN,qw,hv,hcl,go_sem,Nat.reduceAdd,Nat.reduceMul,Nat.reduceEqDiff,Nat.reduceBEq,Nat.reduceMod,Nat.reduceDiv,↓reduceIte,reduceCtorEq]
          have e:jF s now k = (x,true):=by unfold jF;rw [hp];unfold nof;rw [hold];simp [hv,Xy]
          rw [e]
          exact ⟨by decide,rfl⟩
  · have hp1:=hP.1 (by decide)
    have hp2:=hP.2 (by decide)
    have hlt:decide (((2:Nat):Int) < ((2:Nat):Int)) = false:=by decide
    have e:jF s now k = (nt0,false):=by unfold jF;rw [hp1,hp2];rfl
    rw [e]
    simp only [hlt,go_sem,Nat.reduceAdd,Nat.reduceMul,Nat.reduceEqDiff,Nat.reduceBEq,Nat.reduceMod,Nat.reduceDiv,↓reduceIte,reduceCtorEq]
    rfl
def iM (θ:Th) (gt:ByteArray → Int → Int → Int × Bool) (s:Nv) (now:Int) (k:Qn) (nx:Bool) (x:Se):Nv × Int :=
  if (ko θ gt x).2 = false ∨ dN now (ko θ gt x).1 = -1 ∨ θ.ask k = false then (s,1)
  else if jY now (dN now (ko θ gt x).1) = false then (s,14)
  else
    let t:=vV s.o (kn nx k) ++ [kn nx k]
    (⟨s.room,(t.take (t.length - s.room.toNat)).foldl rid (upd s.m ⟨kn nx k,nx,x,dN now (ko θ gt x).1⟩),t.drop (t.length - s.room.toNat),s.ch + 1⟩,0)
theorem tQ (T:θ.Ok ext) (O:JC gt ext) (C:qM ext) (s:Nv) (now:Int) (k:Qn) (iN:Bool) (x:Se) (hF:200000000000001 ≤ F) (hr1:0 ≤ s.room ∧ s.room ≤ 1000000) (hc:0 ≤ s.ch ∧ s.ch ≤ 1000000000000) (ho:s.o.length ≤ 100000) (hk:k.q.size ≤ 1000000) (hq:x.q.size ≤ 1000000) (hn:x.d.length ≤ 1000000) (hd:∀ y ∈ x.d,y.size ≤ 1000000):G ext F (n + 6) 44 [s.v,vi now,k.v,vb iN,x.v] = some ([vi (iM θ gt s now k iN x).2],[(iM θ gt s now k iN x).1.v,vi now,k.v,vb iN,x.v]):=by
  refine iC (cf:=Av) rfl ?_
  have h1:=fun n=>nY (F:=F) (n:=n) T O x hF hq hn hd
  have h2:=fun n=>Me (F:=F) (n:=n) T k hk
  have hu:=fun n t=>LX (ext:=ext) (F:=F) (n:=n) now t
  cases hm2:(ko θ gt x).2 with
  | false =>
    rw [hm2] at h1
    have e:iM θ gt s now k iN x = (s,1):=by unfold iM;exact if_pos (.inl hm2)
    rw [e]
    simp only [Av,h1,hu,go_sem,Nat.reduceAdd,Nat.reduceMul,Nat.reduceEqDiff,Nat.reduceBEq,Nat.reduceMod,Nat.reduceDiv,↓reduceIte,reduceCtorEq]
  | true =>
  rw [hm2] at h1
  by_cases hun:dN now (ko θ gt x).1 = -1
  · have e:iM θ gt s now k iN x = (s,1):=by unfold iM;exact if_pos (.inr (.inl hun))
    rw [e]
    have hun':decide (dN now (ko θ gt x).1 = -1) = true:=decide_eq_true hun
    simp only [Av,h1,hu,hun',go_sem,Nat.reduceAdd,Nat.reduceMul,Nat.reduceEqDiff,Nat.reduceBEq,Nat.reduceMod,Nat.reduceDiv,↓reduceIte,reduceCtorEq]
  have hun':decide (dN now (ko θ gt x).1 = -1) = false:=decide_eq_false hun
  cases ha:θ.ask k with
  | false =>
    have e:iM θ gt s now k iN x = (s,1):=by unfold iM;exact if_pos (.inr (.inr ha))
    rw [e]
    rw [ha] at h2
    simp only [Av,h1,h2,hu,hun',go_sem,Nat.reduceAdd,Nat.reduceMul,Nat.reduceEqDiff,Nat.reduceBEq,Nat.reduceMod,Nat.reduceDiv,↓reduceIte,reduceCtorEq]
  | true =>
  rw [ha] at h2
  have hno:¬ ((ko θ gt x).2 = false ∨ dN now (ko θ gt x).1 = -1 ∨ θ.ask k = false):=by rw [hm2,ha];simp [hun]
  cases hl:jY now (dN now (ko θ gt x).1) with
  | false =>
    have e:iM θ gt s now k iN x = (s,14):=by unfold iM;rw [if_neg hno,if_pos hl]
    rw [e]
    simp only [Av,h1,h2,hu,hun',qw,hl,go_sem,Nat.reduceAdd,Nat.reduceMul,Nat.reduceEqDiff,Nat.reduceBEq,Nat.reduceMod,Nat.reduceDiv,↓reduceIte,reduceCtorEq]
  | true =>
  have e:iM θ gt s now k iN x = (⟨s.room,((vV s.o (kn iN k) ++ [kn iN k]).take ((vV s.o (kn iN k) ++ [kn iN k]).length - s.room.toNat)).foldl rid (upd s.m ⟨kn iN k,iN,x,dN now (ko θ gt x).1⟩),(vV s.o (kn iN k) ++ [kn iN k]).drop ((vV s.o (kn iN k) ++ [kn iN k]).length - s.room.toNat),s.ch + 1⟩,0):=by
    unfold iM;rw [if_neg hno,if_neg (by rw [hl];decide)]
  rw [e]
  have hu':=fun n=>hu n (ko θ gt x).1
  generalize dN now (ko θ gt x).1 = u at hu' hun' hl ⊢
  have hw:IntKind.i64.wrap (s.ch + 1) = s.ch + 1:=zN (by omega) (by omega)
  have hwh:=fun n=>Es (ext:=ext) (F:=F) (n:=n) k
  have hcl:=fun n=>nI (ext:=ext) (F:=F) (n:=n) C ⟨kn iN k,iN,x,u⟩ hn
  have hqq:=@wX s.o (kn iN k)
  have ht:=fun n=>Ma (ext:=ext) (F:=F) (n:=n) C s.o (kn iN k) (by omega) hF
  have hct:=fun n=>Vf (ext:=ext) (F:=F) (n:=n) C (vV s.o (kn iN k) ++ [kn iN k]) s.room (by simp;omega) (by omega) hF
  have hup:=Md s.m ⟨kn iN k,iN,x,u⟩
  simp only [kq,rN] at hup
  generalize hqt:vV s.o (kn iN k) ++ [kn iN k] = t at ht hct ⊢
  generalize t.drop (t.length - s.room.toNat) = td at hct ⊢
  generalize htt:t.take (t.length - s.room.toNat) = tt at hct ⊢
  have htl:tt.length ≤ 1000000:=by rw [← htt,List.length_take,← hqt,List.length_append,List.length_singleton];omega
  generalize hM:upd s.m ⟨kn iN k,iN,x,u⟩ = M at hup ⊢
  cases iN
  all_goals
    simp only [kn,if_true,if_false,Bool.false_eq_true] at hup ht hct hcl
    simp only [Av,h1,h2,hu',hun',qw,hl,hwh,hcl,ht,hct,hup,hw,go_sem,Nat.reduceAdd,Nat.reduceMul,Nat.reduceEqDiff,Nat.reduceBEq,Nat.reduceMod,Nat.reduceDiv,↓reduceIte,reduceCtorEq]
    refine pz tt.length (fun i=>⟨[(0,PV.c (CV.one (PL.ptr 20201 0))),(14,PV.c (CV.one (PL.f (FV.sl (List.map rQ td))))),(75,PV.c (CV.one (PL.f (FV.sl (List.map rQ tt))))),(76,PV.c (CV.one (PL.f (FV.int IntKind.i64 ↑(List.map rQ tt).length)))),(77,PV.c (CV.one (PL.f (FV.int IntKind.i64 i))))],[(20201,Ob.ni [PL.f (FV.int IntKind.i64 s.room),PL.mp 20205,PL.f (FV.sl (List.map rQ s.o)),PL.f (FV.int IntKind.i64 s.ch)]),(20205,Ob.map Mc (((tt.take i).foldl rid M).map ent))]⟩) (fun _=>True) (by omega) rfl trivial (fun i hi _=>?_) (fun _=>?_)
    · obtain ⟨k',hx,hlt,hit,h00⟩:=at_ hi
      have hn':=nx hi (by omega)
      have hdl:=Eo ((tt.take i).foldl rid M) k'
      have hfo:(tt.take (i + 1)).foldl rid M = rid ((tt.take i).foldl rid M) k':=by rw [List.take_add_one,hx,List.foldl_append];rfl
      simp only [List.length_map,List.getElem?_map,hlt,hx,hit,h00,hn',rQ,hdl,go_sem,Nat.reduceAdd,Nat.reduceMul,Nat.reduceEqDiff,Nat.reduceBEq,Nat.reduceMod,Nat.reduceDiv,↓reduceIte,reduceCtorEq]
      rw [hfo]
    · have hd:=@end_ _ tt
      simp only [List.length_map,hd,hw,List.take_length,go_sem,Nat.reduceAdd,Nat.reduceMul,Nat.reduceEqDiff,Nat.reduceBEq,Nat.reduceMod,Nat.reduceDiv,↓reduceIte,reduceCtorEq]
end Go.Proofs.Ytdkkgecdhapfhaa.Kn
namespace Go.Proofs.Ytdkkgecdhapfhaa.Ev
open Go Go.RowKit
def Xz : SV → TV
  | .int k n=>.f (.int k n)
  | .bool b=>.f (.bool b)
  | .str s=>.f (.str s)
def Ic (l:List SV):List AV:=l.map fun x=>.one (Xz x)
section
variable {P : Program} {Fz:Nat → Prop} {w:World}
theorem Ie {x:SV} {v:Value} {bs:List Nat}:nE Fz w (Xz x) v bs ↔ v = encS x ∧ bs = []:=by
  cases x <;> simp only [Xz,nE,eX,encS]
theorem Ew : ∀ {l:List SV} {vs:List Value} {bs:List Nat},fO Fz w (Ic l) vs bs → vs = l.map encS ∧ bs = []
  | [],[],_,h=>⟨rfl,h⟩
  | [],_ :: _,_,h=>h.elim
  | _ :: _,[],_,h=>h.elim
  | x :: l,v :: vs,_,⟨b1,b2,h1,h2,e⟩=>by
    obtain ⟨e1,e2⟩:=Ie.mp h1
    obtain ⟨e3,e4⟩:=Ew (l:=l) h2
    subst e1;subst e2;subst e3;subst e4
    exact ⟨rfl,by rw [e];rfl⟩
theorem yE : ∀ {l:List SV},fO Fz w (Ic l) (l.map encS) []
  | []=>rfl
  | x :: l=>⟨[],[],Ie.mpr ⟨rfl,rfl⟩,yE (l:=l),rfl⟩
theorem Sat.wE {f:FuncId} {g:List AV → Option (List AV × List AV)} (h:∀ fZ r,g fZ = some r → ∃ ZZ9 rs:List SV,fZ = Ic ZZ9 ∧ r = (Ic rs,Ic ZZ9) ∧
    ∀ w:World,Calls P f (ZZ9.map encS).toArray w fun e w'=>e = .returned (ret (rs.map encS)) ∧ Below w.heap.size w w'):Sat P f g:=by
  intro fZ rs rU hg Fz w vals bs ha hnd hap hfz
  obtain ⟨ZZ9,rs',rfl,e,hc⟩:=h fZ _ hg
  cases e
  obtain ⟨rfl,rfl⟩:=Ew ha
  refine (hc w).mono fun e w' ⟨h1,hb'⟩=>?_
  exact ⟨Fz,rs'.map encS,[],[],h1,fun _ h=>h,fun b hb=>⟨Nat.lt_of_lt_of_le (hfz b hb) hb'.size,.inl hb⟩,hb'.size,fun b hb _=>hb'.block b hb,⟨hb'.os,hb'.output⟩,yE,yE,by simp,fun b hb=>by simp at hb⟩
def pI : List (FuncId × (List AV → Option (List AV × List AV))) → Env
  | []=>fun _ _=>none
  | (k,g) :: l=>fun f fZ=>if k = f then g fZ else pI l f fZ
theorem yF : ∀ {l:List (FuncId × (List AV → Option (List AV × List AV)))},(∀ p ∈ l,Sat P p.1 p.2) → iF P (pI l)
  | [],_=>fun f fZ rs rU h=>by cases h
  | (k,g) :: l,h=>fun f fZ rs rU he=>by
    unfold pI at he
    split at he
    · rename_i e;subst e;exact h (k,g) (by simp) fZ rs rU he
    · exact yF (fun p hp=>h p (List.mem_cons_of_mem _ hp)) f fZ rs rU he
theorem rV : ∀ {l:List (FuncId × (List AV → Option (List AV × List AV)))},(∀ p ∈ l,∃ fn,P.funcs[p.1]? = some fn ∧ (fn.name == "runtime.NumGoroutine") = false ∧ fn.body.isSome = true) → eB P (pI l)
  | [],_=>fun f fZ r h=>by cases h
  | (k,g) :: l,h=>fun f fZ r he=>by
    unfold pI at he
    split at he
    · rename_i e;subst e;exact h (k,g) (by simp)
    · exact rV (fun p hp=>h p (List.mem_cons_of_mem _ hp)) f fZ r he
end
end Go.Proofs.Ytdkkgecdhapfhaa.Ev
namespace Go.Proofs.Ytdkkgecdhapfhaa.Ev
open Go
open Go.ChangeMaps (setBlock)
def Zv : SV → FV
  | .int k n=>.int k n
  | .bool b=>.bool b
  | .str s=>.str s
def Zw : KV → CV
  | .one x=>.one (.f (Zv x))
  | .agg xs=>.agg (xs.map fun x=>.f (Zv x))
def yG (step:St → KV → Option St) (σ:St):List KV → Option St
  | []=>some σ
  | k :: l=>(step σ k).bind fun τ=>yG step τ l
open Classical in
noncomputable def Ay (step:St → KV → Option St) (σ:St) (l:List KV):Option St :=
  if ∃ τ,∀ m:List KV,m.Perm l → yG step σ m = some τ then yG step σ l else none
def yH (ks os:List Nat) (σ:St):St:=⟨pick ks σ.tm,pick os σ.ob⟩
def yI (σ:St) (os:List Nat) (s:Nat):Option (List KV):=match get σ.tm s with
  | some (.c (.one (.mp key)))=>if os.contains key then none else match get σ.ob key with
    | some (.map _ ents)=>some (ents.map (·.1))
    | _=>none
  | _=>none
noncomputable def pJ (Γ:Env) (F:Nat) (ks os:List Nat) (s:Nat) (g6:List G) (k6:List Nat) (cb:CC) (σ:St) (k:KV):Option St :=
  (wQ Γ false g6 ⟨put σ.tm s (.c (Zw k)),σ.ob⟩).bind fun t=>(ev Γ F cb ⟨pick k6 t.tm,t.ob⟩).bind fun p=>match p.1 with
    | .jk=>some (yH ks os p.2)
    | _=>none
noncomputable def fin (cf:CF) (mP:List CV) (fZ:List AV) (σ:St):Option (List AV × List AV):=(lJ σ mP fZ).bind fun b=>(slots b.2 cf.res).bind fun l=>(oD cf.ro b.2 l).map fun r=>(r.1,b.1)
noncomputable def Mg (Γ:Env) (F:Nat) (ca:CC) (g4:List G) (sm:Nat) (ks os:List Nat) (s:Nat) (g6:List G) (k6:List Nat) (cb cc:CC) (cf:CF) (fZ:List AV):Option (List AV × List AV) :=
  if fZ.length ≠ cf.np then none else (enter cf.bo 0 [] ⟨[],[]⟩ fZ).bind fun e=>(ev Γ F ca e.2).bind fun p=>match p.1 with
    | .ext _=>none
    | .ret=>fin cf e.1 fZ p.2
    | .jk=>(wQ Γ false g4 p.2).bind fun t=>(yI t os sm).bind fun l=>(Ay (pJ Γ F ks os s g6 k6 cb) (yH ks os t) l).bind fun t=>(ev Γ F cc t).bind fun q=>match q.1 with
      | .ext _=>none
      | _=>fin cf e.1 fZ q.2
theorem tT {α:Type} (f:α → Nat):∀ (l:List α) (i:Nat) (hi:i < l.length),(l.map f).Nodup → l.filter (fun x=>!(f x == f l[i])) = l.eraseIdx i
  | [],i,hi,_=>by simp at hi
  | x :: l,0,hi,h=>by
    have hc:=List.nodup_cons.mp h
    rw [List.getElem_cons_zero,List.filter_cons,List.eraseIdx_cons_zero]
    simp only [beq_self_eq_true,Bool.not_true,Bool.false_eq_true,if_false]
    refine List.filter_eq_self.mpr fun y hy=>?_
    have:f y ≠ f x:=fun e=>hc.1 (by rw [← e];exact List.mem_map_of_mem hy)
    simp [this]
  | x :: l,i + 1,hi,h=>by
    have hc:=List.nodup_cons.mp h
    have hi':i < l.length:=by simpa using hi
    rw [List.getElem_cons_succ,List.filter_cons,List.eraseIdx_cons_succ,tT f l i hi' hc.2]
    have:f x ≠ f l[i]:=fun e=>hc.1 (by rw [e];exact List.mem_map_of_mem (List.getElem_mem hi'))
    simp [this]
theorem yJ {α:Type}:∀ (l:List α) (i:Nat) (h:i < l.length),(l[i] :: l.eraseIdx i).Perm l
  | [],i,h=>by simp at h
  | x :: l,0,h=>List.Perm.refl _
  | x :: l,i + 1,h=>by
    have:=yJ l i (by simpa using h)
    rw [List.getElem_cons_succ,List.eraseIdx_cons_succ]
    exact (List.Perm.swap _ _ _).trans (this.cons x)
theorem JE (es:Array MapEntry) (seen:Array Nat) (b:Nat):(leftOf es (seen.push b)).toList = (leftOf es seen).toList.filter (fun e=>!(e.born == b)):=by
  unfold leftOf
  rw [Array.toList_filter,Array.toList_filter,List.filter_filter]
  refine List.filter_congr fun e _=>?_
  rw [Array.contains_push]
  cases hb:e.born == b <;> cases hs:seen.contains e.born <;> simp_all
section
variable {P : Program} {Γ:Env} {bH Fz bK:Nat → Prop} {w0 w w':World} {bG bs:List Nat} {N N':Fr} {F:Nat} {κ fq jQ:Nat → Value} {σ fJ σ':St} {a a':Act} {X:Hx}
theorem Vj (k:KV):gq Fz κ w (Zw k) (mg k):=by
  have hl:∀ x:SV,eu Fz κ w (.f (Zv x)) (encS x):=fun x=>by cases x <;> simp only [eu,Zv,eX,encS]
  cases k with
  | one x=>exact hl x
  | agg xs =>
    refine ⟨_,rfl,?_⟩
    show bA Fz κ w (xs.map fun x=>.f (Zv x)) (xs.map encS)
    induction xs with
    | nil=>trivial
    | cons x xs ih=>exact ⟨hl x,ih⟩
def blks (κ:Nat → Value) (ob:List (Nat × Ob)):List Nat:=ob.filterMap fun p=>blk (κ p.1)
theorem nJ {b:Nat} {ob:List (Nat × Ob)}:b ∈ blks κ ob ↔ ∃ p ∈ ob,blk (κ p.1) = some b:=List.mem_filterMap
theorem Rel.base (h:Rel bH w0 bG N Fz κ σ a w):Rel Fz w (blks κ σ.ob) N Fz κ σ a w :=
  ⟨h.tm,h.sz,h.kP,h.fs,h.ob,h.sV,fun p hp b hb=>⟨(h.pos p hp b hb).1,(h.pos p hp b hb).2.1,.inl (nJ.mpr ⟨p,hp,hb⟩)⟩,fun b hb=>⟨(h.fz b hb).1,.inl hb⟩,fun _ h=>h,Nat.le_refl _,fun _ _ _=>rfl,⟨rfl,rfl⟩⟩
theorem Rel.old (h:Rel bH w0 bG N Fz κ σ a w) {b:Nat} (hb:b ∈ blks κ σ.ob):¬ Fz b ∧ b < w.heap.size ∧ (b ∈ bG ∨ w0.heap.size ≤ b):=by
  obtain ⟨p,hp,hb⟩:=nJ.mp hb
  exact h.pos p hp b hb
theorem Rel.Vk (h:Rel bH w0 bG N Fz κ σ a w) (k:Rel Fz w (blks κ σ.ob) N' bK fq σ' a' w'):Rel bH w0 bG N' bK fq σ' a' w' :=
  ⟨k.tm,k.sz,k.kP,k.fs,k.ob,k.sV,fun p hp b hb=>by
    obtain ⟨g1,g2,g3⟩:=k.pos p hp b hb
    refine ⟨g1,g2,?_⟩
    rcases g3 with g | g
    · exact (h.old g).2.2
    · exact .inr (Nat.le_trans h.big g),
  fun b hb=>⟨(k.fz b hb).1,by
    rcases (k.fz b hb).2 with g | g | g
    · exact (h.fz b g).2
    · exact .inr (h.old g).2.2
    · exact .inr (.inr (Nat.le_trans h.big g))⟩,
  fun b hb=>k.wR b (h.wR b hb),Nat.le_trans h.big k.big,fun b h1 h2=>by
    refine (k.ext b (Nat.lt_of_lt_of_le h1 h.big) fun hm=>?_).trans (h.ext b h1 h2)
    rcases (h.old hm).2.2 with g | g
    · exact h2 g
    · exact Nat.not_lt.mpr g h1,h.kp.trans k.kp⟩
theorem Rel.aside (h:Rel bH w0 bG N Fz κ σ a w) {r:Nat} (hs:w'.heap.size = w.heap.size) (hb:∀ b,b ≠ r → w'.heap[b]? = w.heap[b]?) (h0:w0.heap.size ≤ r) (hF:¬ Fz r) (hO:r ∉ blks κ σ.ob) (hkp:Kp w w'):Rel bH w0 bG N Fz κ σ a w':=by
  have hf:∀ b,Fz b → w'.heap[b]? = w.heap[b]?:=fun b hb'=>hb b fun e=>hF (e ▸ hb')
  exact ⟨fun p hp=>jl.mono (fun _ h=>h) hf (fun _ _=>rfl) (h.tm p hp),h.sz,h.kP,h.fs,
    fun p hp=>iD.mono (fun _ h=>h) hf (fun _ _=>rfl) (fun b hb'=>hb b fun e=>hO (nJ.mpr ⟨p,hp,e ▸ hb'⟩)) (h.ob p hp),h.sV,
    fun p hp b hb'=>⟨(h.pos p hp b hb').1,by rw [hs];exact (h.pos p hp b hb').2.1,(h.pos p hp b hb').2.2⟩,fun b hb'=>⟨by rw [hs];exact (h.fz b hb').1,(h.fz b hb').2⟩,h.wR,by rw [hs];exact h.big,
    fun b h1 h2=>(hb b (by omega)).trans (h.ext b h1 h2),h.kp.trans hkp⟩
theorem Rel.JF (h:Rel bH w0 bG N Fz κ σ a w) {d:Nat} (hd:N.ok d = true) (hn:∀ p ∈ σ.tm,p.1 ≠ d) (v:Value):Rel bH w0 bG N Fz κ σ (a.put (some d) v) w:=by
  have h1:=h.put hd (pv:=.c (.one .any)) (v:=v) trivial
  refine ⟨fun p hp=>?_,h1.sz,h1.kP,h1.fs,h1.ob,h1.sV,h1.pos,h1.fz,h1.wR,h1.big,h1.ext,h1.kp⟩
  have:=h.tm p hp
  have hne:=hn p hp
  simp only [Act.put,Array.getD_eq_getD_getElem?,Array.getElem?_setIfInBounds] at this ⊢
  rw [if_neg (fun e=>hne e.symm)]
  exact this
theorem tV {α:Type} {ks:List Nat} {l:List (Nat × α)} {p:Nat × α} (h:p ∈ pick ks l):p.1 ∈ ks:=by
  obtain ⟨i,h1,h2⟩:=List.mem_filterMap.mp h
  obtain ⟨v,h3,h4⟩:=zmm h2
  subst h4
  exact h1
theorem nK (h:a.tmps.size = N.n) {d:Nat} (hd:d < N.n) (v:Value) (e:Nat):(a.put (some d) v).tmps.getD e undef = if e = d then v else a.tmps.getD e undef:=by
  simp only [Act.put,Array.getD_eq_getD_getElem?,Array.getElem?_setIfInBounds]
  by_cases he:e = d
  · subst he;rw [if_pos rfl,if_pos (by omega),if_pos rfl];rfl
  · rw [if_neg (fun x=>he x.symm),if_neg he]
theorem Ig (heq:∀ t ∈ X.eqs,lq P t) (kQ:iF P Γ) (hC:eB P Γ) {ops:Array Oper} {Q:Exit → Act → World → Prop} {rest:List Oper}:∀ {l:List Oper} {gs:List G} {σ:St} {a:Act} {w:World},jI P X ops N.ok l = some gs → Ok bH w0 bG N jQ σ a w → wQ Γ false gs σ = some σ' → (∀ a' w',Ok bH w0 bG N jQ σ' a' w' → wpList P ops Q rest a' w') → wpList P ops Q (l ++ rest) a w
  | [],gs,σ,a,w,hc,h,hE,hQ=>by cases hc;cases hE;exact hQ a w h
  | o :: l,gs,σ,a,w,hc,h,hE,hQ=>by
    obtain ⟨g,h1,h2⟩:=zbm hc
    obtain ⟨r,h3,rfl⟩:=zmm h2
    obtain ⟨s,h4,h5⟩:=zbm hE
    exact xY heq kQ hC h1 h h4 (fun a' w' h'=>Ig heq kQ hC h3 h' h5 hQ)
structure Rg (bH:Nat → Prop) (w0:World) (bG:List Nat) (N:Fr) (jQ:Nat → Value) (r bm:Nat) (es:Array MapEntry) (clock:Nat) (seen:Array Nat) (lk:List KV) (σ:St) (a:Act) (w:World):Prop where
  ok:∃ Fz κ,Rel bH w0 bG N Fz κ σ a w ∧ (∀ k,k % 2 = 1 → κ k = jQ k) ∧ ¬ Fz r ∧ r ∉ blks κ σ.ob ∧ bm ∉ blks κ σ.ob
  it:w.heap[r]? = some (.mapIter (some bm) clock seen clock)
  mp:w.heap[bm]? = some (.map es clock)
  lf:(leftOf es seen).toList.map (·.key) = lk.map mg
  r0:w0.heap.size ≤ r
  ne:bm ≠ r
theorem Pv {w1:World} (h:w1 = w ∨ w1 = w.drew) (r:Nat) (o:Obj):Kp w (setBlock w1 r o) ∧ (setBlock w1 r o).heap.size = w.heap.size ∧ (∀ b,b ≠ r → (setBlock w1 r o).heap[b]? = w.heap[b]?) ∧ (r < w.heap.size → (setBlock w1 r o).heap[r]? = some o):=by
  have e:w1.heap = w.heap ∧ w1.os = w.os ∧ w1.output = w.output:=by rcases h with rfl | rfl <;> exact ⟨rfl,rfl,rfl⟩
  obtain ⟨e1,e2,e3⟩:=e
  refine ⟨⟨e2,e3⟩,by simp [setBlock,e1],fun b hb=>?_,fun hr=>by simp [setBlock,Array.getElem?_setIfInBounds,e1,hr]⟩
  simp only [setBlock,Array.getElem?_setIfInBounds,e1]
  rw [if_neg (fun e=>hb e.symm)]
def Az (d s ty:Nat) (pos:String) (Gf:Array Edge):Oper:={ dst:=some d,op:=.next (.tmp s) false,type:=ty,pos:=pos,after:=Gf,guard:=none }
def Ey (d s i ty:Nat) (pos:String) (Gf:Array Edge):Oper:={ dst:=some d,op:=.extract (.tmp s) i,type:=ty,pos:=pos,after:=Gf,guard:=none }
def Cq (d s ty:Nat) (pos:String) (Gf:Array Edge):Oper:={ dst:=some d,op:=.entry (.tmp s),type:=ty,pos:=pos,after:=Gf,guard:=none }
def Cr (d s mt ty:Nat) (pos:String) (Gf:Array Edge):Oper:={ dst:=some d,op:=.range mt (.tmp s),type:=ty,pos:=pos,after:=Gf,guard:=none }
theorem rW {o:Oper} {v:Value} {ops:Array Oper} {rest:List Oper} {Q:Exit → Act → World → Prop} (hg:o.guard = none) (hr:(execOp a.eval o).run P w = .ok (.value v) w') (h:wpList P ops Q rest (a.put o.dst v) w'):wpList P ops Q (o :: rest) a w:=by
  unfold wpList
  rw [if_pos (show Region.wanted o _ = true by unfold Region.wanted;rw [hg])]
  left
  unfold Oper.wp
  rw [hr]
  exact h
theorem Ez {d s ty:Nat} {pos:String} {Gf:Array Edge} {v:Value} {r:Nat} (hs:a.tmps.getD s undef = .pointer (some ⟨r,0,none⟩)) (h:(Instr.next (.pointer (some ⟨r,0,none⟩)) false ty).run P w = .ok v w'):(execOp a.eval (Az d s ty pos Gf)).run P w = .ok (.value v) w':=by
  unfold execOp Az
  simp [Act.eval,hs,h]
theorem JG {d s ty:Nat} {pos:String} {Gf:Array Edge} {v:Value} {r:Nat} (hs:a.tmps.getD s undef = .pointer (some ⟨r,0,none⟩)) (h:(Instr.entry (.pointer (some ⟨r,0,none⟩))).run P w = .ok v w'):(execOp a.eval (Cq d s ty pos Gf)).run P w = .ok (.value v) w':=by
  unfold execOp Cq
  simp [Act.eval,hs,h]
theorem JH {d s mt ty b:Nat} {pos:String} {Gf:Array Edge} {v:Value} (hs:a.tmps.getD s undef = .map (some b)) (h:(Instr.range mt (.map (some b))).run P w = .ok v w'):(execOp a.eval (Cr d s mt ty pos Gf)).run P w = .ok (.value v) w':=by
  unfold execOp Cr
  simp [Act.eval,hs,h]
theorem Ct {d s i ty:Nat} {pos:String} {Gf:Array Edge} {v:Value} {vs:Array Value} (hs:a.tmps.getD s undef = .tuple vs) (h:vs[i]? = some v):(execOp a.eval (Ey d s i ty pos Gf)).run P w = .ok (.value v) w:=by
  unfold execOp Ey
  simp [Act.eval,hs,Instr.extract,h]
theorem vX {ty r bm clock:Nat} {seen:Array Nat} {es:Array MapEntry} (hr:w.heap[r]? = some (.mapIter (some bm) clock seen clock)) (hb:w.heap[bm]? = some (.map es clock)) (hB:Mq.Bn es clock) :
    ((leftOf es seen).size = 0 ∧ (Instr.next (.pointer (some ⟨r,0,none⟩)) false ty).run P w = .ok (.tuple #[.bool false]) w) ∨
    ∃ e ∈ (leftOf es seen).toList,∃ w1:World,(w1 = w ∨ w1 = w.drew) ∧ (Instr.next (.pointer (some ⟨r,0,none⟩)) false ty).run P w = .ok (.tuple #[.bool true,e.key,e.val]) (setBlock w1 r (.mapIter (some bm) clock (seen.push e.born) clock)) :=
  run_next_at w ty r bm clock clock seen es clock hr hb hB.2 (Nat.le_refl _)
theorem JI (hm:P.follows .mixedOrders = true) (heq:∀ t ∈ X.eqs,lq P t) (kQ:iF P Γ) (hC:eB P Γ) {b:Code} {i5 i6 b0 b1 sit sn sb se sk t1 t2 t3 t4:Nat} {p1 p2 p3 p4:String} {f1 f2 f3 f4:Array Edge} {Gg:Array Oper} {l6:List Oper} {g6:List G} {k6 ks os:List Nat} {cb:CC} {hb rb:List Hi}
    (h6:Gg.toList = Cq se sit t3 p3 f3 :: Ey sk se 0 t4 p4 f4 :: l6) (hc6:jI P X Gg N.ok l6 = some g6) (hcb:comp P X N.ok b hb = some (cb,rb))
    (hok:N.ok sn = true ∧ N.ok sb = true ∧ N.ok se = true ∧ N.ok sk = true) (hd1:sn ≠ sb ∧ se ≠ sk) (hks:sn ∉ ks ∧ sb ∉ ks ∧ se ∉ ks) (hos:True)
    {r bm clock:Nat} {es:Array MapEntry} (hB:Mq.Bn es clock) (hit:N.ok sit = false ∧ N.vs sit = .pointer (some ⟨r,0,none⟩)) {τ:St} {Q:Exit → Act → World → Prop} (hQ:∀ a' w',Ok bH w0 bG N jQ τ a' w' → Q (.exit b0) a' w') :
    ∀ (n:Nat) (lk:List KV) (seen:Array Nat) (σ:St) (a:Act) (w:World),lk.length = n → Rg bH w0 bG N jQ r bm es clock seen lk σ a w → (∀ p ∈ σ.tm,p.1 ∈ ks) → (∀ m:List KV,m.Perm lk → yG (pJ Γ F ks os sk g6 k6 cb) σ m = some τ) →
      Code.rounds P (.seq (.region i5 #[Az sn sit t1 p1 f1,Ey sb sn 0 t2 p2 f2] false) (.seq (.cond (.tmp sb) .skip (.exit b0)) (.block b1 (.seq (.region i6 Gg false) b)))) Q (n + 1) a w:=by
  intro n
  induction n with
  | zero =>
    intro lk seen σ a w hn hR hσ hf
    obtain ⟨Fz,κ,hr,hk,g1,g2,g3⟩:=hR.ok
    have hits:a.tmps.getD sit undef = .pointer (some ⟨r,0,none⟩):=(hr.fs sit hit.1).trans hit.2
    have hlk:lk = []:=List.length_eq_zero_iff.mp hn
    subst hlk
    have hz:(leftOf es seen).toList = []:=by have:=hR.lf;simpa using this
    rw [rounds_succ]
    refine wp_seq (wp_region_list ?_)
    show wpList P _ _ [Az sn sit t1 p1 f1,Ey sb sn 0 t2 p2 f2] a w
    rcases vX (P:=P) (ty:=t1) hR.it hR.mp hB with ⟨-,hrun⟩ | ⟨e,he,_⟩
    · refine rW rfl (Ez hits hrun) (rW rfl (Ct (i:=0) (v:=.bool false) (vs:=#[.bool false]) ?_ rfl) ?_)
      · exact (nK hr.sz (N.lt _ hok.1) _ _).trans (if_pos rfl)
      · have h1:=(hr.JF hok.1 (fun p hp e=>hks.1 (e ▸ hσ p hp)) (.tuple #[.bool false]))
        have h2:=h1.JF hok.2.1 (fun p hp e=>hks.2.1 (e ▸ hσ p hp)) (.bool false)
        refine wp_seq (wp_cond_false (show _ = _ from (nK h1.sz (N.lt _ hok.2.1) _ _).trans (if_pos rfl)) (wp_exit ?_))
        have:=hf [] (List.Perm.refl _)
        cases this
        exact hQ _ _ ⟨Fz,κ,h2,hk⟩
    · rw [hz] at he;cases he
  | succ n ih =>
    intro lk seen σ a w hn hR hσ hf
    obtain ⟨Fz,κ,hr,hk,g1,g2,g3⟩:=hR.ok
    have hits:a.tmps.getD sit undef = .pointer (some ⟨r,0,none⟩):=(hr.fs sit hit.1).trans hit.2
    have hlen:(leftOf es seen).toList.length = lk.length:=by have:=congrArg List.length hR.lf;simpa using this
    rw [rounds_succ]
    refine wp_seq (wp_region_list ?_)
    show wpList P _ _ [Az sn sit t1 p1 f1,Ey sb sn 0 t2 p2 f2] a w
    rcases vX (P:=P) (ty:=t1) hR.it hR.mp hB with ⟨hz, -⟩ | ⟨e,he,w1,hw1,hrun⟩
    · rw [Array.length_toList] at hlen;omega
    obtain ⟨i,hi,rfl⟩:=List.getElem_of_mem he
    generalize he':(leftOf es seen).toList[i] = e at hrun he
    have hil:i < lk.length:=by omega
    obtain ⟨k,hkk⟩:∃ k,k = lk[i]:=⟨_,rfl⟩
    have hkey:e.key = mg k:=by
      have:=congrArg (fun l:List Value=>l[i]?) hR.lf
      simp only [List.getElem?_map,List.getElem?_eq_getElem hi,List.getElem?_eq_getElem hil,Option.map_some,Option.some.injEq] at this
      rw [hkk,← he'];exact this
    have hmem:e ∈ es.toList:=by
      exact (mem_left he).1
    have ae3:r < w.heap.size:=(Array.getElem?_eq_some_iff.mp hR.it).1
    have hblt:bm < w.heap.size:=(Array.getElem?_eq_some_iff.mp hR.mp).1
    obtain ⟨d1,d2,d3,d4⟩:=Pv hw1 r (.mapIter (some bm) clock (seen.push e.born) clock)
    generalize setBlock w1 r (.mapIter (some bm) clock (seen.push e.born) clock) = u at hrun d1 d2 d3 d4
    have hur:=d4 ae3
    have hub:u.heap[bm]? = some (.map es clock):=(d3 bm hR.ne).trans hR.mp
    have hperm:(k :: lk.eraseIdx i).Perm lk:=by rw [hkk];exact yJ lk i hil
    obtain ⟨σ',hst,hf'⟩:∃ σ',pJ Γ F ks os sk g6 k6 cb σ k = some σ' ∧ ∀ m:List KV,m.Perm (lk.eraseIdx i) → yG (pJ Γ F ks os sk g6 k6 cb) σ' m = some τ:=by
      have h0:=hf _ hperm
      obtain ⟨σ',h1,_⟩:=zbm h0
      refine ⟨σ',h1,fun m hm'=>?_⟩
      have h2:=hf (k :: m) ((hm'.cons k).trans hperm)
      obtain ⟨ahI,h3,h4⟩:=zbm h2
      rw [h1] at h3
      cases h3
      exact h4
    obtain ⟨t,SF,hst⟩:=zbm hst
    obtain ⟨p,hEb,hst⟩:=zbm hst
    cases hp:p.1 with
    | ext j=>rw [hp] at hst;cases hst
    | ret=>rw [hp] at hst;cases hst
    | jk =>
    rw [hp] at hst
    cases hst
    refine rW rfl (Ez hits hrun) (rW rfl (Ct (i:=0) (v:=.bool true) (vs:=#[.bool true,e.key,e.val]) ?_ rfl) ?_)
    · exact (nK hr.sz (N.lt _ hok.1) _ _).trans (if_pos rfl)
    have h0:=hr.aside d2 d3 hR.r0 g1 g2 d1
    have h1:=(h0.JF hok.1 (fun p hp e=>hks.1 (e ▸ hσ p hp)) (.tuple #[.bool true,e.key,e.val]))
    have h2:=h1.JF hok.2.1 (fun p hp e=>hks.2.1 (e ▸ hσ p hp)) (.bool true)
    refine wp_seq (wp_cond_true (show _ = _ from (nK h1.sz (N.lt _ hok.2.1) _ _).trans (if_pos rfl)) (wp_skip ?_))
    refine wp_block (wp_seq (wp_region_list ?_))
    rw [h6]
    have Zx:=(h2.fs sit hit.1).trans hit.2
    refine rW rfl (JG Zx (run_entry_at u r bm clock seen es clock e hur hub hmem hB.1)) (rW rfl (Ct (i:=0) (v:=e.key) (vs:=#[e.key,e.val]) ?_ rfl) ?_)
    · exact (nK h2.sz (N.lt _ hok.2.2.1) _ _).trans (if_pos rfl)
    have h3:=h2.JF hok.2.2.1 (fun p hp e=>hks.2.2 (e ▸ hσ p hp)) (.tuple #[e.key,e.val])
    have h4:=h3.put hok.2.2.2 (pv:=.c (Zw k)) (v:=e.key) (by rw [hkey];exact Vj k)
    refine FU heq kQ hC hc6 ⟨Fz,κ,h4.base,hk⟩ SF fun a5 u5 k5=>?_
    show b.wp P _ a5 u5
    refine Am hm heq kQ hC b hcb (k5.keep k6) hEb fun a6 u6 k7=>?_
    rw [hp]
    show Code.rounds P _ Q (n + 1) a6 u6
    obtain ⟨F6,κ6,Zy,hk6⟩:=k7
    have hrb:r ∉ blks κ σ.ob:=g2
    have hbb:bm ∉ blks κ σ.ob:=g3
    have hru:r < u.heap.size:=by omega
    have hbu:bm < u.heap.size:=by omega
    have nob:∀ x,x < u.heap.size → x ∉ blks κ σ.ob → x ∉ blks κ6 (pick os p.2.ob):=fun x hx hnx hmx=>by
      obtain ⟨q,hq,hqb⟩:=nJ.mp hmx
      rcases (Zy.pos q (iw hq) x hqb).2.2 with g | g
      · exact hnx g
      · omega
    refine ih (lk.eraseIdx i) (seen.push e.born) _ a6 u6 ?_ ⟨⟨F6,κ6,(h4.Vk Zy).res ks os,hk6,fun hx=>?_,nob r hru hrb,nob bm hbu hbb⟩,?_,?_,?_,hR.r0,hR.ne⟩ (fun q hq=>tV hq) hf'
    · rw [List.length_eraseIdx,if_pos hil];omega
    · rcases (Zy.fz r hx).2 with g | g | g
      · exact g1 g
      · exact hrb g
      · omega
    · exact (Zy.ext r hru hrb).trans hur
    · exact (Zy.ext bm hbu hbb).trans hub
    · rw [JE,← he',tT (fun x:MapEntry=>x.born) _ i hi ?_,Mq.kV,Mq.kV,hR.lf]
      have:(leftOf es seen).toList.Sublist es.toList:=by unfold leftOf;rw [Array.toList_filter];exact List.filter_sublist
      exact (this.map _).nodup hB.1
theorem Rel.narrow (h:Rel bH w0 bG N Fz κ σ a w) (hn:N.ds = []) (s:Nat):Rel bH w0 bG ⟨N.n,[],fun d=>N.ok d && !(d == s),fun d hd=>N.lt d (by rw [Bool.and_eq_true] at hd;exact hd.1),fun d=>a.tmps.getD d undef⟩ Fz κ σ a w :=
  ⟨h.tm,h.sz,h.kP.trans hn,fun _ _=>rfl,h.ob,h.sV,h.pos,h.fz,h.wR,h.big,h.ext,h.kp⟩
theorem Gh (hm:P.follows .mixedOrders = true) (heq:∀ t ∈ X.eqs,lq P t) (kQ:iF P Γ) (hC:eB P Γ) {f:FuncId} {fn:Func} {a1 a2 a3 b c:Code} {i4 i5 i6 b0 b1 sit sn sb se sk sm mt kt et t0 t1 t2 t3 t4:Nat} {p0 p1 p2 p3 p4:String} {f0 f1 f2 f3 f4:Array Edge} {JJ Gg:Array Oper} {l6:List Oper} {g4 g6:List G} {k6 ks os:List Nat} {cf:CF} {ca cb cc:CC} {ha hb hc ra rb rc:List Hi}
    (hf:P.funcs[f]? = some fn)
    (hbd:fn.body = some (.seq a1 (.seq a2 (.seq a3 (.seq (.seq (.region i4 JJ false) (.block b0 (.loop (.seq (.region i5 #[Az sn sit t1 p1 f1,Ey sb sn 0 t2 p2 f2] false) (.seq (.cond (.tmp sb) .skip (.exit b0)) (.block b1 (.seq (.region i6 Gg false) b))))))) c)))))
    (h4:JJ.toList.getLast? = some (Cr sit sm mt t0 p0 f0)) (h6:Gg.toList = Cq se sit t3 p3 f3 :: Ey sk se 0 t4 p4 f4 :: l6) (hmt:P.underlying mt = some (.map kt et))
    (hca:comp P X (Jk fn.ntmps) (.seq a1 (.seq a2 a3)) ha = some (ca,ra)) (hc4:jI P X JJ (Jk fn.ntmps) JJ.toList.dropLast = some g4) (hc6:jI P X Gg (fun d=>Jk fn.ntmps d && !(d == sit)) l6 = some g6)
    (hcb:comp P X (fun d=>Jk fn.ntmps d && !(d == sit)) b hb = some (cb,rb)) (hcc:comp P X (fun d=>Jk fn.ntmps d && !(d == sit)) c hc = some (cc,rc)) (hr:mV P fn.results.toList = some cf.res) (hnp:cf.np ≤ fn.ntmps)
    (hlt:sit < fn.ntmps ∧ sn < fn.ntmps ∧ sb < fn.ntmps ∧ se < fn.ntmps ∧ sk < fn.ntmps) (hd0:sn ≠ sit ∧ sb ≠ sit ∧ se ≠ sit ∧ sk ≠ sit) (hd1:sn ≠ sb ∧ se ≠ sk) (ae4:sit ∉ ks) (hks:sn ∉ ks ∧ sb ∉ ks ∧ se ∉ ks)
    (F:Nat):Sat P f (Mg Γ F ca g4 sm ks os sk g6 k6 cb cc cf):=by
  intro fZ rs rU hE Fz w vals bs WA hnd hap hfz
  unfold Mg at hE
  split at hE
  · cases hE
  rename_i hlen
  have hlen':fZ.length = cf.np:=Decidable.not_not.mp hlen
  have hvl:vals.length = fZ.length:=WA.len
  obtain ⟨e,h1,hE0⟩:=zbm hE
  clear hE
  obtain ⟨p,h2,hE1⟩:=zbm hE0
  clear hE0
  refine calls_of_wp hf hbd ?_
  have hsz:(vals.toArray ++ Array.replicate (fn.ntmps - vals.toArray.size) undef).size = fn.ntmps:=by simp;omega
  obtain ⟨jQ,hok,g2⟩:=entered (bo:=cf.bo) WA hnd hap hfz hsz h1
  have done:∀ (N:Fr) (σ:St) a' w',N.ds = [] → Ok Fz w bs N jQ σ a' w' → fin cf e.1 fZ σ = some (rs,rU) → a'.defers = [] ∧ ∃ v,(results fn a'.tmps).run P w' = .ok v w' ∧ ∃ bK vo b1 b2,Ending.returned v = .returned (ret vo) ∧ Post Fz w vals bs rs rU bK w' vo b1 b2:=by
    intro N σ a' w' hN hO hF
    obtain ⟨k1,k2⟩:=LJ hr WA hap hfz g2 a' w' hO hF
    exact ⟨k1.trans hN,k2⟩
  obtain ⟨x1,hx1,hx2⟩:=zbm hca
  obtain ⟨x2,hx3,hx4⟩:=zmm hx2
  cases hx4
  obtain ⟨z1,hz1,hz2⟩:=zbm hx3
  obtain ⟨z2,hz3,hz4⟩:=zmm hz2
  cases hz4
  obtain ⟨y1,hy1,hy2⟩:=zbm h2
  refine wp_seq (Am hm heq kQ hC a1 hx1 hok hy1 fun b1 u1 k1=>?_)
  cases hy:y1.1 with
  | ext j=>rw [hy] at hy2;cases hy2;cases hE1
  | ret=>rw [hy] at hy2;cases hy2;exact done _ _ _ _ rfl k1 hE1
  | jk =>
  rw [hy] at hy2
  obtain ⟨y2,hy3,hy4⟩:=zbm hy2
  refine wp_seq (Am hm heq kQ hC a2 hz1 k1 hy3 fun b2 u2 k2=>?_)
  cases hyy:y2.1 with
  | ext j=>rw [hyy] at hy4;cases hy4;cases hE1
  | ret=>rw [hyy] at hy4;cases hy4;exact done _ _ _ _ rfl k2 hE1
  | jk =>
  rw [hyy] at hy4
  refine wp_seq (Am hm heq kQ hC a3 hz3 k2 hy4 fun b3 u3 k3=>?_)
  cases hp:p.1 with
  | ext j=>rw [hp] at hE1;cases hE1
  | ret=>rw [hp] at hE1;exact done _ _ _ _ rfl k3 hE1
  | jk =>
  rw [hp] at hE1
  obtain ⟨t,hE4,hE2⟩:=zbm hE1
  obtain ⟨l,hl,hE3⟩:=zbm hE2
  obtain ⟨τ,Zz,hE5⟩:=zbm hE3
  obtain ⟨q,hEc,SF⟩:=zbm hE5
  clear hE1 hE2 hE3 hE5
  show (Code.seq _ c).wp P _ b3 u3
  refine wp_seq (wp_seq (wp_region_list ?_))
  have h4':JJ.toList = JJ.toList.dropLast ++ [Cr sit sm mt t0 p0 f0]:=by
    obtain ⟨ys,hy⟩:=List.getLast?_eq_some_iff.mp h4
    rw [hy,List.dropLast_concat]
  rw [h4']
  refine Ig heq kQ hC hc4 k3 hE4 fun b4 u4 k4=>?_
  obtain ⟨F4,κ4,hr4,hk4⟩:=k4
  unfold yI at hl
  split at hl
  case h_2=>cases hl
  rename_i key hkey
  split at hl
  · cases hl
  rename_i ae5
  split at hl
  case h_2=>cases hl
  rename_i sh ents fV
  cases hl
  obtain ⟨bm,hb1,m,hAt,hRE, -⟩:=hr4.obj fV
  obtain ⟨es,clock,m0,m1,m2,hB⟩:=hAt.ex
  have hv:b4.tmps.getD sm undef = .map (some bm):=by
    have:jl F4 κ4 u4 (.c (.one (.mp key))) (b4.tmps.getD sm undef):=hr4.val hkey
    exact this.1.trans hb1
  have hpos:=hr4.pos _ (get_mem fV) bm (by rw [hb1];rfl)
  have hgr:∀ x,x < u4.heap.size → (u4.alloc (.mapIter (some bm) clock #[] clock)).heap[x]? = u4.heap[x]?:=fun x hx=>(jX u4 _).2.1 x hx
  have hnew:=(jX u4 (.mapIter (some bm) clock #[] clock)).1
  have ahJ:=(jX u4 (.mapIter (some bm) clock #[] clock)).2.2
  refine rW rfl (JH hv (run_range_map u4 mt kt et bm es clock hmt m0)) ?_
  have h5:=hr4.grow (w':=u4.alloc (.mapIter (some bm) clock #[] clock)) (by omega) hgr ⟨rfl,rfl⟩
  have h6':=(h5.less (σ':=yH ks os t) (fun p hp=>iw hp) (fun p hp=>iw hp)).JF (show (Fr.of fn.ntmps).ok sit = true by simpa [Fr.of,Jk] using hlt.1) (fun p hp e=>ae4 (e ▸ tV hp)) (.pointer (some ⟨u4.heap.size,0,none⟩))
  have ae6:(b4.put (some sit) (.pointer (some ⟨u4.heap.size,0,none⟩))).tmps.getD sit undef = .pointer (some ⟨u4.heap.size,0,none⟩):=(nK h5.sz hlt.1 _ sit).trans (if_pos rfl)
  have h7:=h6'.narrow rfl sit
  unfold Ay at Zz
  split at Zz
  case isFalse=>cases Zz
  rename_i hall
  obtain ⟨τ',hall⟩:=hall
  rw [hall _ (List.Perm.refl _)] at Zz
  cases Zz
  have sl:∀ d,d < fn.ntmps → d ≠ sit → (Jk fn.ntmps d && !(d == sit)) = true:=fun d h1 h2=>by simp [Jk,h1,h2]
  show (Code.block b0 _).wp P _ _ _
  have hbm:bm < u4.heap.size:=hpos.2.1
  refine wp_block (wp_loop_rounds ((ents.map (·.1)).length + 1) (JI (τ:=τ) hm heq kQ hC h6 hc6 hcb ⟨sl _ hlt.2.1 hd0.1,sl _ hlt.2.2.1 hd0.2.1,sl _ hlt.2.2.2.1 hd0.2.2.1,sl _ hlt.2.2.2.2 hd0.2.2.2⟩ hd1 hks trivial hB ⟨by simp,ae6⟩ (fun a' w' hO=>?_) _ (ents.map (·.1)) #[] (yH ks os t) _ _ rfl
    ⟨⟨F4,κ4,h7,hk4,fun hx=>?_,fun hx=>?_,fun hx=>?_⟩,hnew,(hgr bm hbm).trans m0,?_,hr4.big,Nat.ne_of_lt hbm⟩ (fun p hp=>tV hp) hall))
  · show if b0 = b0 then _ else _
    rw [if_pos rfl]
    show c.wp P _ a' w'
    refine Am hm heq kQ hC c hcc hO hEc fun a8 w8 k8=>?_
    cases hq:q.1 with
    | ext j=>rw [hq] at SF;cases SF
    | jk=>rw [hq] at SF;exact done _ _ _ _ rfl k8 SF
    | ret=>rw [hq] at SF;exact done _ _ _ _ rfl k8 SF
  · have:=(hr4.fz _ hx).1;omega
  · obtain ⟨z,hz,hzb⟩:=nJ.mp hx
    have:=(hr4.pos z (iw hz) _ hzb).2.1;omega
  · obtain ⟨z,hz,hzb⟩:=nJ.mp hx
    have hne:z.1 ≠ key:=fun e=>by
      have:=tV hz
      rw [e] at this
      exact ae5 (List.elem_iff.mpr this)
    exact hr4.sV z (iw hz) _ (get_mem fV) bm hne hzb (by rw [hb1];rfl)
  · have he:(leftOf es #[]).toList = es.toList:=by
      unfold leftOf
      rw [Array.toList_filter]
      exact List.filter_eq_self.mpr fun e _=>by simp
    rw [he,m1,hRE.keys,List.map_map]
    rfl
end
end Go.Proofs.Ytdkkgecdhapfhaa.Ev
set_option maxRecDepth 4000
namespace Go.Proofs.Ytdkkgecdhapfhaa.Ev
open Go
section
variable {Γ : Env} {F s sm:Nat} {ks os k6:List Nat} {g4 g6:List G} {ca cb cc:CC} {cf:CF} {fZ:List AV} {mP:List CV} {σ:St} {kk:KV}
def XA : Out → (Unit → Prop) → (Unit → Prop) → Prop
  | .ret,A,_=>A ()
  | .jk,_,B=>B ()
  | .ext _,_,_=>False
@[go_sem] theorem acv {A B:Unit → Prop}:XA .ret A B ↔ A ():=Iff.rfl
@[go_sem] theorem acw {A B:Unit → Prop}:XA .jk A B ↔ B ():=Iff.rfl
def kB : Option Ob → Option (List KV)
  | some (.map _ ents)=>some (ents.map (·.1))
  | _=>none
def kA (os:List Nat) (ob:List (Nat × Ob)):Option PV → Option (List KV)
  | some (.c (.one (.mp key)))=>if os.contains key then none else kB (get ob key)
  | _=>none
@[go_sem] theorem ae7 {sh:KS} {ents:List (KV × FC)}:kB (some (.map sh ents)) = some (ents.map (·.1)):=rfl
@[go_sem] theorem XB : yI σ os s = kA os σ.ob (get σ.tm s):=rfl
@[go_sem] theorem ZA : yH ks os σ = ⟨pick ks σ.tm,pick os σ.ob⟩:=rfl
@[go_sem ↓] theorem agy {k:List AV × List AV → Prop} {u:Tok k}:W k u (fin cf mP fZ σ) ↔ W (fun b=>W (fun l=>W (fun r=>k (r.1,b.1)) ⟨⟩ (oD cf.ro b.2 l)) ⟨⟩ (slots b.2 cf.res)) ⟨⟩ (lJ σ mP fZ):=by
  simp only [fin,dX,bB,bZ]
@[go_sem ↓] theorem acy {k:St → Prop} {u:Tok k}:W k u (pJ Γ F ks os s g6 k6 cb σ kk) ↔ W (fun t=>W (fun p=>p.1 = .jk ∧ k (yH ks os p.2)) ⟨⟩ (ev Γ F cb ⟨pick k6 t.tm,t.ob⟩)) ⟨⟩ (wQ Γ false g6 ⟨put σ.tm s (.c (Zw kk)),σ.ob⟩):=by
  simp only [pJ,dX,bB]
  refine dx fun t=>dx fun p=>?_
  obtain ⟨o,σ'⟩:=p
  cases o <;> simp [mD,bJ]
@[go_sem ↓] theorem ae8 {k:List AV × List AV → Prop} {u:Tok k}:W k u (Mg Γ F ca g4 sm ks os s g6 k6 cb cc cf fZ) ↔ fZ.length = cf.np ∧ W (fun e=>W (fun p=>XA p.1 (fun _=>W k ⟨⟩ (fin cf e.1 fZ p.2)) (fun _=>W (fun t=>W (fun l=>W (fun t=>W (fun q=>(∀ id,q.1 ≠ .ext id) ∧ W k ⟨⟩ (fin cf e.1 fZ q.2)) ⟨⟩ (ev Γ F cc t)) ⟨⟩ (Ay (pJ Γ F ks os s g6 k6 cb) (yH ks os t) l)) ⟨⟩ (yI t os sm)) ⟨⟩ (wQ Γ false g4 p.2))) ⟨⟩ (ev Γ F ca e.2)) ⟨⟩ (enter cf.bo 0 [] ⟨[],[]⟩ fZ):=by
  simp only [Mg,dX,dH,bB,ne_eq,Decidable.not_not]
  refine and_congr Iff.rfl (dx fun e=>dx fun p=>?_)
  obtain ⟨o,σ'⟩:=p
  cases o with
  | ext i=>simp [mD,XA]
  | ret=>simp only [XA]
  | jk =>
    simp only [XA,bB]
    refine dx fun t=>dx fun l=>dx fun t'=>dx fun q=>?_
    obtain ⟨o,σ'⟩:=q
    cases o <;> simp [mD]
theorem Mh {step:St → KV → Option St} {σ τ:St} {l:List KV} (h:∀ m:List KV,m.Perm l → yG step σ m = some τ):Ay step σ l = some τ:=by
  unfold Ay
  rw [if_pos ⟨τ,h⟩]
  exact h l (List.Perm.refl _)
end
end Go.Proofs.Ytdkkgecdhapfhaa.Ev
namespace Go.Proofs.Ytdkkgecdhapfhaa.Kn
open Go Ev
variable {ext : Env} {F n:Nat} {θ:Th} {gt:ByteArray → Int → Int → Int × Bool}
def rA : CC:=(.seq (.reg [⟨(some 4),none,(.mv (.k (.one (.f (.int .i64 0)))))⟩] [0,1]) (.seq (.seq (.reg [⟨(some 8),none,(.mv (.t 0))⟩,⟨(some 9),none,(.oI false (.t 8))⟩] [0,1,9]) (.cond (.t 9) (.seq (.reg [⟨(some 4),none,(.mv (.k (.one (.f (.int .i64 0)))))⟩] [4]) .ret) .skip)) (.reg [⟨(some 10),none,(.mv (.t 0))⟩,⟨(some 11),none,(.lT (.t 10))⟩,⟨(some 12),none,(.fa 1 (.t 11))⟩,⟨(some 13),none,(.load 1 false (.t 12))⟩,⟨(some 14),none,(.Du (.t 13))⟩,⟨(some 5),none,(.mv (.t 14))⟩] [0,1,5])))
def rG4 : List Ev.G:=[⟨(some 15),none,(.mv (.t 0))⟩,⟨(some 16),none,(.lT (.t 15))⟩,⟨(some 17),none,(.fa 1 (.t 16))⟩,⟨(some 18),none,(.load 1 false (.t 17))⟩,⟨(some 19),none,(.call false 82 [(.t 18)])⟩]
def Vl : List Ev.G:=[⟨(some 6),none,(.alloc 32 [(.f (.str ⟨#[]⟩)),(.f (.int .i64 0)),(.f (.int .i64 0))])⟩,⟨none,none,(.store 3 (.t 6) (.t 24))⟩]
def rB : CC:=(.seq (.reg [⟨(some 25),none,(.fa 0 (.t 6))⟩,⟨(some 26),none,(.load 1 false (.t 25))⟩,⟨(some 27),none,(.mv (.t 1))⟩,⟨(some 28),none,(.qW (.one .str) false (.t 26) (.t 27))⟩] [0,1,5,6,20,28]) (.cond (.t 28) (.seq (.wD [⟨⟨(some 29),none,(.mv (.t 0))⟩,[]⟩,⟨⟨(some 30),none,(.lT (.t 29))⟩,[]⟩,⟨⟨(some 31),none,(.fa 1 (.t 30))⟩,[]⟩,⟨⟨(some 32),none,(.load 1 false (.t 31))⟩,[]⟩,⟨⟨(some 33),none,(.load 3 true (.t 6))⟩,[]⟩] [] [] [⟨none,none,(.del (.agg [.str,(.int .i64),(.int .i64)]) (.t 32) (.t 33))⟩] [0,1,5,6,20]) (.wD [⟨⟨(some 34),none,(.mv (.t 0))⟩,[]⟩,⟨⟨(some 35),none,(.mv (.t 0))⟩,[]⟩,⟨⟨(some 36),none,(.lT (.t 35))⟩,[]⟩,⟨⟨(some 37),none,(.fa 2 (.t 36))⟩,[]⟩,⟨⟨(some 38),none,(.load 1 false (.t 37))⟩,[]⟩,⟨⟨(some 39),none,(.load 3 true (.t 6))⟩,[]⟩,⟨⟨(some 40),none,(.call false 69 [(.t 38),(.t 39)])⟩,[]⟩] [] [] [⟨(some 41),none,(.lT (.t 34))⟩,⟨(some 42),none,(.fa 2 (.t 41))⟩,⟨none,none,(.store 1 (.t 42) (.t 40))⟩] [0,1,5,20])) .skip))
def rC : CC:=(.seq (.reg [⟨(some 43),none,(.mv (.t 5))⟩,⟨(some 44),none,(.mv (.t 0))⟩,⟨(some 45),none,(.lT (.t 44))⟩,⟨(some 46),none,(.fa 1 (.t 45))⟩,⟨(some 47),none,(.load 1 false (.t 46))⟩,⟨(some 48),none,(.Du (.t 47))⟩,⟨(some 49),none,(.ar .sub (.t 43) (.t 48))⟩,⟨(some 7),none,(.mv (.t 49))⟩] [0,7]) (.seq (.seq (.reg [⟨(some 50),none,(.mv (.t 7))⟩,⟨(some 51),none,(.cmp .gt (.t 50) (.k (.one (.f (.int .i64 0)))))⟩] [0,7,51]) (.cond (.t 51) (.reg [⟨(some 52),none,(.mv (.t 0))⟩,⟨(some 53),none,(.lT (.t 52))⟩,⟨(some 54),none,(.fa 3 (.t 53))⟩,⟨(some 55),none,(.load 1 false (.t 54))⟩,⟨(some 56),none,(.ar .add (.t 55) (.k (.one (.f (.int .i64 1)))))⟩,⟨(some 57),none,(.lT (.t 52))⟩,⟨(some 58),none,(.fa 3 (.t 57))⟩,⟨none,none,(.store 1 (.t 58) (.t 56))⟩] [7]) .skip)) (.seq (.reg [⟨(some 59),none,(.mv (.t 7))⟩,⟨(some 4),none,(.mv (.t 59))⟩] [4]) .ret)))
def cDr : CF:=⟨2,[(.t 4)],[],[],.skip⟩
noncomputable abbrev Vm (ext:Env) (F n:Nat):List AV → Option (List AV × List AV):=Mg (G ext F n) F rA rG4 19 [0,1,5] [20201,20205,20208,820200] 24 Vl [0,1,5,6] rB rC cDr
structure Vn (ext:Env):Prop where
  mc:∀ m:List Nt,ext 82 [.one (.mp Mc (m.map ent))] = some ([.one (.mp Mc (m.map ent))],[.one (.mp Mc (m.map ent))])
theorem ZB (M:Vn ext) (m:List Nt):G ext F (n + 1) 82 [.one (.mp Mc (m.map ent))] = some ([.one (.mp Mc (m.map ent))],[.one (.mp Mc (m.map ent))]):=(congrFun (nV rfl) _).trans (M.mc m)
def dS (s:Nv) (was:Int) (q:ByteArray):St:=⟨[(0,PV.c (CV.one (PL.ptr 20201 0))),(1,PV.c (CV.one (PL.f (FV.str q)))),(5,PV.c (CV.one (PL.f (FV.int IntKind.i64 was))))],[(20201,Ob.ni [PL.f (FV.int IntKind.i64 s.room),PL.mp 20205,PL.f (FV.sl (List.map rQ s.o)),PL.f (FV.int IntKind.i64 s.ch)]),(20205,Ob.map Mc (s.m.map ent))]⟩
def ru (q:ByteArray) (s:Nv) (k:Qn):Nv:=if k.q = q then ⟨s.room,rid s.m k,vV s.o k,s.ch⟩ else s
theorem Cu (k:Qn):Zw (kq k) = .agg [.f (.str k.q),.f (.int .i64 k.t),.f (.int .i64 k.c)]:=rfl
theorem Mj (C:qM ext) (hF:200000000000001 ≤ F) (s:Nv) (was:Int) (q:ByteArray) (k:Qn) (ho:s.o.length ≤ 1000000):pJ (G ext F (n + 4)) F [0,1,5] [20201,20205,20208,820200] 24 Vl [0,1,5,6] rB (dS s was q) (kq k) = some (dS (ru q s k) was q):=by
  refine Jw ?_
  have h1:=fun n=>Em (ext:=ext) (F:=F) (n:=n) C s.o k ho hF
  have hdl:=Eo s.m k
  by_cases h:k.q = q
  · have e:ru q s k = ⟨s.room,rid s.m k,vV s.o k,s.ch⟩:=if_pos h
    have h':decide (k.q = q) = true:=decide_eq_true h
    rw [e]
    simp only [dS,Cu]
    simp only [Vl,rB,Cu,h',h1,hdl,dS,go_sem,Nat.reduceAdd,Nat.reduceMul,Nat.reduceEqDiff,Nat.reduceBEq,Nat.reduceMod,Nat.reduceDiv,↓reduceIte,reduceCtorEq]
  · have e:ru q s k = s:=if_neg h
    have h':decide (k.q = q) = false:=decide_eq_false h
    rw [e]
    simp only [dS,Cu]
    simp only [Vl,rB,Cu,h',dS,go_sem,Nat.reduceAdd,Nat.reduceMul,Nat.reduceEqDiff,Nat.reduceBEq,Nat.reduceMod,Nat.reduceDiv,↓reduceIte,reduceCtorEq]
theorem EA (C:qM ext) (hF:200000000000001 ≤ F) (was:Int) (q:ByteArray):∀ (l:List Qn) (s:Nv),s.o.length ≤ 1000000 → yG (pJ (G ext F (n + 4)) F [0,1,5] [20201,20205,20208,820200] 24 Vl [0,1,5,6] rB) (dS s was q) (l.map kq) = some (dS (l.foldl (ru q) s) was q)
  | [],s,_=>rfl
  | k :: l,s,ho=>by
    show (pJ _ _ _ _ _ _ _ _ _ _).bind _ = _
    rw [Mj C hF s was q k ho]
    refine EA C hF was q l (ru q s k) ?_
    unfold ru
    split
    · exact Nat.le_trans wX ho
    · exact ho
theorem yK {l:List Nt} {a:Qn} (h:(ks l).Nodup):rid l a = l.filter fun x=>decide (x.k ≠ a):=by
  induction l with
  | nil=>rfl
  | cons x l ih =>
    have hc:=List.nodup_cons.mp h
    rw [yC,List.filter_cons]
    by_cases hx:x.k = a
    · rw [if_pos hx,if_neg (by simp [hx])]
      exact (List.filter_eq_self.mpr fun y hy=>by
        simp only [decide_eq_true_eq];rintro e;exact hc.1 (by rw [hx,← e];exact List.mem_map_of_mem hy)).symm
    · rw [if_neg hx,if_pos (by simpa using hx),ih hc.2]
theorem yL (q:ByteArray):∀ (l:List Qn) (s:Nv),(ks s.m).Nodup → l.foldl (ru q) s = ⟨s.room,s.m.filter (fun x=>decide (¬ (x.k ∈ l ∧ x.k.q = q))),s.o.filter (fun x=>decide (¬ (x ∈ l ∧ x.q = q))),s.ch⟩
  | [],s,_=>by
    have e1:s.m.filter (fun x=>decide (¬ (x.k ∈ ([]:List Qn) ∧ x.k.q = q))) = s.m:=List.filter_eq_self.mpr fun _ _=>by simp
    have e2:s.o.filter (fun x=>decide (¬ (x ∈ ([]:List Qn) ∧ x.q = q))) = s.o:=List.filter_eq_self.mpr fun _ _=>by simp
    rw [e1,e2];rfl
  | k :: l,s,h=>by
    rw [List.foldl_cons]
    by_cases hk:k.q = q
    · have e:ru q s k = ⟨s.room,rid s.m k,vV s.o k,s.ch⟩:=if_pos hk
      rw [e,yL q l _ (nH h),yK h]
      unfold vV
      simp only [List.filter_filter]
      congr 1
      · refine List.filter_congr fun x _=>?_
        by_cases h1:x.k = k <;> simp [h1,hk]
      · refine List.filter_congr fun x _=>?_
        by_cases h1:x = k <;> simp [h1,hk]
    · have e:ru q s k = s:=if_neg hk
      rw [e,yL q l _ h]
      congr 1
      · refine List.filter_congr fun x _=>?_
        by_cases h1:x.k = k <;> simp [h1,hk]
      · refine List.filter_congr fun x _=>?_
        by_cases h1:x = k <;> simp [h1,hk]
def vD (s:Nv) (q:ByteArray):Nv:=⟨s.room,s.m.filter (fun x=>decide (x.k.q ≠ q)),s.o.filter (fun x=>decide (¬ (x ∈ ks s.m ∧ x.q = q))),s.ch⟩
theorem Gi {q:ByteArray} {l:List Qn} {s:Nv} (h:(ks s.m).Nodup) (hl:l.Perm (ks s.m)):l.foldl (ru q) s = vD s q:=by
  rw [yL q l s h]
  unfold vD
  congr 1
  · refine List.filter_congr fun x hx=>?_
    have:x.k ∈ l:=hl.mem_iff.mpr (List.mem_map_of_mem hx)
    simp [this]
  · refine List.filter_congr fun x hx=>?_
    simp only [hl.mem_iff]
def Mk : KV → Qn
  | .agg [.str q,.int _ t,.int _ c]=>⟨q,t,c⟩
  | _=>⟨#[]⟩ |> fun b=>⟨b,0,0⟩
theorem Pw (k:Qn):Mk (kq k) = k:=rfl
theorem Px {m:List KV} {l:List Qn} (h:m.Perm (l.map kq)):∃ m':List Qn,m = m'.map kq ∧ m'.Perm l:=by
  refine ⟨m.map Mk,?_,?_⟩
  · rw [List.map_map]
    have:∀ x ∈ m,(kq ∘ Mk) x = id x:=fun x hx=>by
      obtain ⟨k,_,rfl⟩:=List.mem_map.mp (h.mem_iff.mp hx)
      rfl
    exact ((List.map_congr_left this).trans (List.map_id m)).symm
  · have:=h.map Mk
    rw [List.map_map,show (Mk ∘ kq) = id from funext Pw,List.map_id] at this
    exact this
def oG (s:Nv) (q:ByteArray):Nv × Int :=
  (⟨s.room,(vD s q).m,(vD s q).o,if 0 < (s.m.length:Int) - (vD s q).m.length then s.ch + 1 else s.ch⟩,(s.m.length:Int) - (vD s q).m.length)
theorem Ml (m:List Nt):(m.map ent).map (fun p=>p.1) = (ks m).map kq:=by
  rw [List.map_map,List.map_map];rfl
theorem Mr (q:ByteArray):Vm ext F (n + 4) [.one .jH,vs q] = some ([vi 0],[.one .jH,vs q]):=by
  refine Jw ?_
  simp only [Vm,rA,cDr,go_sem,Nat.reduceAdd,Nat.reduceMul,Nat.reduceEqDiff,Nat.reduceBEq,Nat.reduceMod,Nat.reduceDiv,↓reduceIte,reduceCtorEq]
theorem Ms (C:qM ext) (M:Vn ext) (hF:200000000000001 ≤ F) (s:Nv) (q:ByteArray) (h:(ks s.m).Nodup) (ho:s.o.length ≤ 1000000) (hm:s.m.length ≤ 1000000) (hc:0 ≤ s.ch ∧ s.ch ≤ 1000000000000):Vm ext F (n + 4) [s.v,vs q] = some ([vi (oG s q).2],[(oG s q).1.v,vs q]):=by
  refine Jw ?_
  have hmc:=fun n=>ZB (F:=F) (n:=n) M s.m
  have hw:IntKind.i64.wrap (s.ch + 1) = s.ch + 1:=zN (by omega) (by omega)
  have hle:(vD s q).m.length ≤ s.m.length:=List.length_filter_le ..
  have hw2:IntKind.i64.wrap ((s.m.length:Int) - (vD s q).m.length) = (s.m.length:Int) - (vD s q).m.length:=zN (by omega) (by omega)
  have hfo:Ay (pJ (G ext F (n + 4)) F [0,1,5] [20201,20205,20208,820200] 24 Vl [0,1,5,6] rB) (dS s s.m.length q) ((s.m.map ent).map (fun p=>p.1)) = some (dS (vD s q) s.m.length q):=by
    refine Mh fun m hp=>?_
    rw [Ml] at hp
    obtain ⟨m',rfl,hp'⟩:=Px hp
    rw [EA C hF _ q m' s ho,Gi h hp']
  have hka:∀ ob,kA [20201,20205,20208,820200] ob (some (.c (.one (.mp 400200)))) = kB (get ob 400200):=fun _=>rfl
  simp only [dS] at hfo
  simp only [Vm,rA,rG4,rC,cDr,hmc,hka,List.length_map,hfo,hw2,hw,go_sem,Nat.reduceAdd,Nat.reduceMul,Nat.reduceEqDiff,Nat.reduceBEq,Nat.reduceMod,Nat.reduceDiv,↓reduceIte,reduceCtorEq]
  repeat' (refine eD (fun h=>?_) (fun h=>?_) <;> simp only [h,hw2,hw,go_sem,Nat.reduceAdd,Nat.reduceMul,Nat.reduceEqDiff,Nat.reduceBEq,Nat.reduceMod,Nat.reduceDiv,↓reduceIte,reduceCtorEq])
  all_goals simp only [decide_eq_true_eq,decide_eq_false_iff_not] at *
  · simp only [oG];rw [if_pos h,← hw];rfl
  · simp only [oG];rw [if_neg h];rfl
end Go.Proofs.Ytdkkgecdhapfhaa.Kn
namespace Go.Proofs.Ytdkkgecdhapfhaa.Kn
open Go Ev
variable {θ : Th} {gt:ByteArray → Int → Int → Int × Bool}
structure Rl (s:Nv) (k:Rn):Prop where
  room:s.room = k.room
  ch:s.ch = k.ch
  ord:s.o = ks k.l
  kP:(ks k.l).Nodup
  Vo:(ks s.m).Nodup
  old:∀ b,old s.m b = old k.l b
  len:(k.l.length:Int) ≤ k.room
theorem Ih {l:List Nt} {a:Qn} (h:(ks l).Nodup):rwo l a = rid l a:=(yK h).symm
theorem AA {now ttl:Int}:dN now ttl < 0 ↔ Ch now = false ∨ ttl < 0:=by
  unfold dN Ch
  split
  · rename_i h
    simp only [decide_eq_true_eq] at h
    simp only [decide_eq_false_iff_not]
    constructor
    · intro h1;split at h1 <;> omega
    · rintro (h1 | h1) <;> omega
  · rename_i h
    simp only [decide_eq_true_eq] at h
    simp only [decide_eq_false_iff_not]
    constructor
    · intro _;omega
    · intro _;decide
theorem Mt {now ttl:Int}:dN now ttl = -1 ↔ dN now ttl < 0:=by
  constructor
  · intro h;omega
  · intro h
    have:=AA.mp h
    refine Ei ?_
    rintro ⟨h1,h2⟩
    rcases this with h3 | h3
    · unfold Ch at h3;rw [decide_eq_false_iff_not] at h3;exact h3 h1
    · omega
theorem Mv (hg:∀ s a z,0 ≤ (gt s a z).1) (x:Se) (h:(ko θ gt x).2 = true):0 ≤ (ko θ gt x).1:=by
  unfold ko at h ⊢
  split
  · rename_i h1
    have:=h1.1
    unfold Th.set at this
    rw [decide_eq_true_eq] at this
    have h2:=hg (x.d.headD ⟨#[]⟩) ((x.d.headD ⟨#[]⟩).size - 4) 4
    dsimp only
    split
    · exact this.2.2.1.1
    · exact h2
  · rename_i h1
    rw [if_neg h1] at h;cases h
theorem EB {s:Nv} {k:Rn} (hg:∀ s a z,0 ≤ (gt s a z).1) (hr:1 ≤ k.room) {now:Int} {b:Qn} {x:Se}:((ko θ gt x).2 = false ∨ dN now (ko θ gt x).1 = -1 ∨ θ.ask b = false) ↔ θ.narg gt k now b x:=by
  unfold Th.narg Th.ask
  rw [Mt,AA]
  have hb:(θ.key b.q b.t b.c && !decide (b.t = 0)) = false ↔ θ.key b.q b.t b.c = false ∨ b.t = 0:=by
    cases θ.key b.q b.t b.c <;> simp
  rw [hb]
  constructor
  · rintro (h | (h | h) | h | h)
    · exact .inr (.inr (.inl h))
    · exact .inr (.inl h)
    · cases hm:(ko θ gt x).2 with
      | false=>exact .inr (.inr (.inl rfl))
      | true=>have:=Mv (θ:=θ) hg x hm;omega
    · exact .inr (.inr (.inr (.inl h)))
    · exact .inr (.inr (.inr (.inr h)))
  · rintro (h | h | h | h | h)
    · omega
    · exact .inr (.inl (.inl h))
    · exact .inl h
    · exact .inr (.inr (.inl h))
    · exact .inr (.inr (.inr h))
theorem Ii {s:Nv} {k:Rn} (hg:∀ s a z,0 ≤ (gt s a z).1) (h:Rl s k) (hr:1 ≤ k.room) (now:Int) (b:Qn) (iN:Bool) (x:Se):(iM θ gt s now b iN x).2 = (oF θ gt k now b iN x).2 ∧ Rl (iM θ gt s now b iN x).1 (oF θ gt k now b iN x).1:=by
  by_cases ha:θ.narg gt k now b x
  · have e:iM θ gt s now b iN x = (s,1):=by unfold iM;exact if_pos ((EB (s:=s) hg hr).mpr ha)
    rw [e,Ia ha];exact ⟨rfl,h⟩
  have ha':=fun e=>ha ((EB (θ:=θ) (s:=s) hg hr).mp e)
  cases hl:jY now (dN now (ko θ gt x).1) with
  | false =>
    have e:iM θ gt s now b iN x = (s,14):=by unfold iM;rw [if_neg ha',if_pos hl]
    rw [e,Eu ha hl];exact ⟨rfl,h⟩
  | true =>
  rw [Ib ha hl rfl]
  have hs:iM θ gt s now b iN x = (⟨s.room,((vV s.o (kn iN b) ++ [kn iN b]).take ((vV s.o (kn iN b) ++ [kn iN b]).length - s.room.toNat)).foldl rid (upd s.m ⟨kn iN b,iN,x,dN now (ko θ gt x).1⟩),(vV s.o (kn iN b) ++ [kn iN b]).drop ((vV s.o (kn iN b) ++ [kn iN b]).length - s.room.toNat),s.ch + 1⟩,0):=by
    unfold iM;rw [if_neg ha',if_neg (by rw [hl];decide)]
  rw [hs]
  refine ⟨rfl,?_⟩
  generalize hit:(⟨kn iN b,iN,x,dN now (ko θ gt x).1⟩:Nt) = it
  have hkx:it.k = kn iN b:=by rw [← hit]
  generalize kn iN b = a at hkx ⊢
  have ht:vV s.o a ++ [a] = ks (rid k.l a ++ [it]):=by rw [h.ord,← Vh h.kP];simp [ks,hkx]
  rw [ht,Ih h.kP]
  have hnd:(ks (rid k.l a ++ [it])).Nodup:=Aw (nH h.kP) (by rw [hkx];exact vC h.kP)
  have hm1:∀ c,old (upd s.m it) c = old (rid k.l a ++ [it]) c:=fun c=>by
    rw [Pp,wZ (by rw [hkx];exact vC h.kP),hkx,Cm h.kP,h.old c]
    by_cases hc:c = a <;> simp [hc]
  have hlen:=h.len
  have hl2:=@Pq k.l a
  generalize hL:rid k.l a ++ [it] = L at ht hnd hm1 ⊢
  have hLl:L.length = (rid k.l a).length + 1:=by rw [← hL];simp
  have hkl:(ks L).length = L.length:=by simp [ks]
  rw [hkl,h.room]
  by_cases hc:k.room < (L.length:Int)
  · have h1:L.length - k.room.toNat = 1:=by omega
    rw [h1]
    have hcut:Et k.room L = L.drop 1:=by unfold Et;exact if_pos hc
    rw [hcut]
    cases L with
    | nil=>simp at hLl
    | cons y L =>
      have hn:=List.nodup_cons.mp hnd
      refine ⟨h.room ▸ rfl,by show s.ch + 1 = k.ch + 1;rw [h.ch],rfl,hn.2,nH (qx h.Vo),fun c=>?_,?_⟩
      · show old (rid (upd s.m it) y.k) c = old L c
        rw [Cm (qx h.Vo),hm1 c,tN]
        by_cases hy:c = y.k
        · subst hy;rw [if_pos rfl,Cj hn.1]
        · rw [if_neg hy,if_neg (fun e=>hy e.symm)]
      · simp only [List.length_cons] at hLl
        show ((L.length:Nat):Int) ≤ k.room
        omega
  · have h1:L.length - k.room.toNat = 0:=by omega
    rw [h1]
    have hcut:Et k.room L = L:=by unfold Et;exact if_neg hc
    rw [hcut]
    refine ⟨h.room ▸ rfl,by show s.ch + 1 = k.ch + 1;rw [h.ch],rfl,hnd,qx h.Vo,hm1,by show (L.length:Int) ≤ k.room;omega⟩
end Go.Proofs.Ytdkkgecdhapfhaa.Kn
set_option maxRecDepth 4000
namespace Go.Proofs.Ytdkkgecdhapfhaa.Kn
open Go Ev
variable {ext : Env} {F n:Nat} {θ:Th} {gt:ByteArray → Int → Int → Int × Bool}
structure Py (ext:Env):Prop where
  d0:∀ q,ext 50 [.one .jH,vs q] = some ([vi 0],[.one .jH,vs q])
  d1:∀ (s:Nv) (q:ByteArray),(ks s.m).Nodup → s.o.length ≤ 1000000 → s.m.length ≤ 1000000 → 0 ≤ s.ch ∧ s.ch ≤ 1000000000000 → ext 50 [s.v,vs q] = some ([vi (oG s q).2],[(oG s q).1.v,vs q])
theorem Mw (D:Py ext) (s:Nv) (q:ByteArray) (h:(ks s.m).Nodup) (ho:s.o.length ≤ 1000000) (hm:s.m.length ≤ 1000000) (hc:0 ≤ s.ch ∧ s.ch ≤ 1000000000000):G ext F (n + 1) 50 [s.v,vs q] = some ([vi (oG s q).2],[(oG s q).1.v,vs q]):=(congrFun (nV rfl) _).trans (D.d1 s q h ho hm hc)
abbrev dz : ByteArray:=⟨#[0,0,48,49,50,51,52,53,54,55,56,57,97,98,99,100,101,102,0,0,0,9]⟩
abbrev rt : ByteArray:=⟨#[0]⟩
abbrev na : ByteArray:=⟨#[1,97,0]⟩
abbrev rX (ttl:Int):Se:=⟨rt,6,1,[dz],ttl⟩
theorem Vp (t:Int):G ext F (n + 1) 72 [vi t] = some ([(rX t).v],[vi t]):=by
  refine iC (cf:=c72) rfl ?_
  simp only [c72,go_sem,Nat.reduceAdd,Nat.reduceMul,Nat.reduceEqDiff,Nat.reduceBEq,Nat.reduceMod,Nat.reduceDiv,↓reduceIte,reduceCtorEq]
  rfl
structure Th.pK (θ:Th) (gt:ByteArray → Int → Int → Int × Bool):Prop where
  r1:θ.jM rt = true
  r2:θ.low rt = rt
  a1:θ.jM na = true
  a2:θ.low na = na
  e1:θ.wW 6 dz = true
  e2:θ.lw 6 dz = dz
  g:gt dz 18 4 = (9,true)
abbrev ka : Qn:=⟨na,1,1⟩
abbrev kb : Qn:=⟨na,2,1⟩
abbrev i1 : Nt:=⟨ka,false,rX 7,12⟩
abbrev i2 : Nt:=⟨ka.w,true,rX 20,14⟩
abbrev t0 : Nv:=⟨2,[],[],0⟩
abbrev t1 : Nv:=⟨2,[i1],[ka],1⟩
abbrev t2 : Nv:=⟨2,[i1,i2],[ka,ka.w],2⟩
abbrev t3 : Nv:=⟨2,[],[],3⟩
theorem Pz (L:θ.pK gt) (ttl:Int) (h:0 ≤ ttl ∧ ttl < 2147483648):θ.set rt 6 1 [dz] ttl = true:=by simp [Th.set,Th.key,Th.dat,L.r1,L.r2,L.e1,L.e2,h]
theorem tX (L:θ.pK gt) (ttl:Int) (h:0 ≤ ttl ∧ ttl < 2147483648):ko θ gt (rX ttl) = (if ttl < 9 then ttl else 9,true):=by
  unfold ko
  rw [if_pos ⟨Pz L ttl h,rfl⟩]
  have:(((rX ttl).d.headD ⟨#[]⟩).size:Int) - 4 = 18:=by show ((dz.size:Nat):Int) - 4 = 18;decide
  rw [this]
  show (if ttl < (gt dz 18 4).1 then ttl else (gt dz 18 4).1,true) = _
  rw [L.g]
theorem ZC (L:θ.pK gt):ko θ gt (rX 20) = (9,true):=by rw [tX L 20 (by decide)];rfl
theorem Mx (L:θ.pK gt):θ.ask ka = true:=by simp [Th.ask,Th.key,L.a1,L.a2]
theorem lv1 (L:θ.pK gt):iM θ gt t0 5 ka false (rX 7) = (t1,0):=by simp [iM,tX L 7 (by decide),Mx L,dN,Ch,jY,upd,vV,kn]
theorem lv2 : jF t1 11 ka = (i1,true):=by simp [jF,nof,old,jY,Ch,Xy]
theorem lv3 : jF t1 12 ka = (nt0,false):=by simp [jF,nof,old,jY,Ch,Xy]
theorem lv4 (L:θ.pK gt):iM θ gt t1 5 ka true (rX 20) = (t2,0):=by simp [iM,tX L 20 (by decide),Mx L,dN,Ch,jY,upd,vV,kn,List.findIdx?_cons]
theorem lv5 : jF t2 13 kb = (i2,true):=by simp [jF,nof,old,jY,Ch,Xy]
theorem lv6 : oG t2 na = (t3,2):=by simp [oG,vD,ks]
theorem lv7 (L:θ.pK gt):iM θ gt t3 5 ka true (rX 0) = (t3,14):=by simp [iM,tX L 0 (by decide),Mx L,dN,Ch,jY]
theorem lv8 (L:θ.pK gt):iM θ gt t3 (-1) ka true (rX 1) = (t3,1):=by simp [iM,tX L 1 (by decide),dN,Ch]
set_option maxRecDepth 100000 in
set_option maxHeartbeats 16000000 in
theorem JK (T:θ.Ok ext) (O:JC gt ext) (C:qM ext) (D:Py ext) (L:θ.pK gt) (hF:200000000000001 ≤ F):G ext F (n + 7) 38 [] = some ([vb true],[]):=by
  refine iC (cf:=Eh) rfl ?_
  have n2:∀ n,G ext F (n + 1) 39 [vi 2] = some ([t0.v],[vi 2]):=fun n=>Co 2
  have n0:∀ n,G ext F (n + 1) 39 [vi 0] = some ([.one .jH],[vi 0]):=fun n=>Co 0
  have s:=fun n t=>Vp (ext:=ext) (F:=F) (n:=n) t
  have m1:=fun n=>nY (F:=F) (n:=n) T O (rX 20) hF (by decide) (by decide) (by decide)
  have m2:=fun n=>nY (F:=F) (n:=n) T O ⟨⟨#[]⟩,0,0,[],0⟩ hF (by decide) (by decide) (by decide)
  have hm2:ko θ gt ⟨⟨#[]⟩,0,0,[],0⟩ = (0,false):=by unfold ko;rw [if_neg (by rintro ⟨-,h⟩;cases h)]
  have p1:=fun n=>tQ (F:=F) (n:=n) T O C t0 5 ka false (rX 7) hF (by decide) (by decide) (by decide) (by decide) (by decide) (by decide) (by decide)
  have p2:=fun n=>pG (F:=F) (n:=n) C t1 11 ka hF (by decide)
  have p3:=fun n=>pG (F:=F) (n:=n) C t1 12 ka hF (by decide)
  have p4:=fun n=>tQ (F:=F) (n:=n) T O C t1 5 ka true (rX 20) hF (by decide) (by decide) (by decide) (by decide) (by decide) (by decide) (by decide)
  have p5:=fun n=>pG (F:=F) (n:=n) C t2 13 kb hF (by decide)
  have p6:=fun n=>Mw (F:=F) (n:=n) D t2 na (by decide) (by decide) (by decide) (by decide)
  have p7:=fun n=>tQ (F:=F) (n:=n) T O C t3 5 ka true (rX 0) hF (by decide) (by decide) (by decide) (by decide) (by decide) (by decide) (by decide)
  have p8:=fun n=>tQ (F:=F) (n:=n) T O C t3 (-1) ka true (rX 1) hF (by decide) (by decide) (by decide) (by decide) (by decide) (by decide) (by decide)
  have c2:=fun n=>vW (ext:=ext) (F:=F) (n:=n) (some t2)
  have c3:=fun n=>vW (ext:=ext) (F:=F) (n:=n) (some t3)
  have k2:=fun n=>Er (ext:=ext) (F:=F) (n:=n) C (some t2) (by rintro s ⟨⟩;decide)
  rw [ZC L] at m1
  rw [hm2] at m2
  rw [lv1 L] at p1
  rw [lv2] at p2
  rw [lv3] at p3
  rw [lv4 L] at p4
  rw [lv5] at p5
  rw [lv6] at p6
  rw [lv7 L] at p7
  rw [lv8 L] at p8
  simp only [pF,List.map_cons,List.map_nil,iB,ent,rN,rQ,Nv.v,Nt.v,Se.v,Ga,Qn.v,Qn.w,vq,kq,nt0] at n2 s m1 m2 p1 p2 p3 p4 p5 p6 p7 p8 c2 c3 k2
  simp only [Eh,n2,n0,s,m1,m2,p1,p2,p3,p4,p5,p6,p7,p8,c2,c3,k2,show ((2:Nat):Int) = 2 from rfl,go_sem,Nat.reduceAdd,Nat.reduceMul,Nat.reduceEqDiff,Nat.reduceBEq,Nat.reduceMod,Nat.reduceDiv,↓reduceIte,reduceCtorEq]
end Go.Proofs.Ytdkkgecdhapfhaa.Kn
set_option maxRecDepth 4000
namespace Go.Proofs.Ytdkkgecdhapfhaa.Kn
open Go Ev
variable {ext : Env} {F n:Nat} {θ:Th} {gt:ByteArray → Int → Int → Int × Bool}
theorem PD {l:List On} {x:On} (h:yD l = true) (hx:x ∈ l):x.k.q.size ≤ 1000000 ∧ x.s.q.size ≤ 1000000 ∧ x.s.d.length ≤ 1000000 ∧ ∀ y ∈ x.s.d,y.size ≤ 1000000:=by
  have h1:=List.all_eq_true.mp h x hx
  unfold nX El at h1
  rw [Bool.and_eq_true,Bool.and_eq_true,List.all_eq_true,decide_eq_true_eq,decide_eq_true_eq] at h1
  refine ⟨by omega,by omega,?_,fun y hy=>?_⟩
  · cases hd:x.s.d with
    | nil=>simp
    | cons y d =>
      have:=h1.1.1 y (by rw [hd];simp)
      simp only [Bool.and_eq_true,decide_eq_true_eq] at this
      rw [hd] at this;omega
  · have:=h1.1.1 y hy
    simp only [Bool.and_eq_true,decide_eq_true_eq] at this
    omega
end Go.Proofs.Ytdkkgecdhapfhaa.Kn
set_option maxRecDepth 4000
namespace Go.Proofs.Ytdkkgecdhapfhaa.Kn
open Go Ev
variable {ext : Env} {F n:Nat} {θ:Th} {gt:ByteArray → Int → Int → Int × Bool}
structure Sz (i:Nat) (s:Nv):Prop where
  r:0 ≤ s.room ∧ s.room ≤ 1000000
  c:0 ≤ s.ch ∧ s.ch ≤ i
  o:s.o.length ≤ i
  m:s.m.length ≤ i
  d:∀ x ∈ s.m,x.s.d.length ≤ 1000000
  kP:(ks s.m).Nodup
theorem yM : ∀ {g:List Qn} {l:List Nt},(ks l).Nodup → (ks (g.foldl rid l)).Nodup
  | [],l,h=>h
  | a :: g,l,h=>yM (g:=g) (nH h)
theorem Sz.put {i:Nat} {s:Nv} (h:Sz i s) (now:Int) (k:Qn) (iN:Bool) (x:Se) (hx:x.d.length ≤ 1000000):Sz (i + 1) (iM θ gt s now k iN x).1:=by
  have hc:=h.c
  have hq:=@wX s.o (kn iN k)
  have ho:=h.o
  have hm:=h.m
  have up:Sz (i + 1) s:=⟨h.r,by omega,by omega,by omega,h.d,h.kP⟩
  unfold iM
  split
  · exact up
  split
  · exact up
  have hu:=@Pt s.m ⟨kn iN k,iN,x,dN now (ko θ gt x).1⟩
  refine ⟨h.r,by show 0 ≤ s.ch + 1 ∧ s.ch + 1 ≤ _;omega,?_,?_,fun y hy=>?_,yM (qx h.kP)⟩
  · show (List.drop _ _).length ≤ _
    rw [List.length_drop,List.length_append,List.length_singleton];omega
  · exact Nat.le_trans tO.length_le (by omega)
  · rcases H8 (tO.subset hy) with rfl | h1
    · exact hx
    · exact h.d y h1
theorem Sz.up {i:Nat} {s:Nv} (h:Sz i s):Sz (i + 1) s:=⟨h.r,by have:=h.c;omega,by have:=h.o;omega,by have:=h.m;omega,h.d,h.kP⟩
theorem Sz.drop {i:Nat} {s:Nv} (h:Sz i s) (q:ByteArray):Sz (i + 1) (oG s q).1:=by
  have hc:=h.c
  have ho:=h.o
  have hm:=h.m
  refine ⟨h.r,?_,?_,?_,fun x hx=>h.d x ((List.mem_filter.mp hx).1),(List.filter_sublist.map _).nodup h.kP⟩
  · have e:(oG s q).1.ch = if 0 < (s.m.length:Int) - (vD s q).m.length then s.ch + 1 else s.ch:=rfl
    rw [e]
    by_cases hh:0 < (s.m.length:Int) - (vD s q).m.length
    · rw [if_pos hh];omega
    · rw [if_neg hh];omega
  · exact Nat.le_trans (List.length_filter_le ..) (by omega)
  · exact Nat.le_trans (List.length_filter_le ..) (by omega)
end Go.Proofs.Ytdkkgecdhapfhaa.Kn
set_option maxRecDepth 4000
namespace Go.Proofs.Ytdkkgecdhapfhaa.Kn
open Go Ev
variable {θ : Th} {gt:ByteArray → Int → Int → Int × Bool}
def Iv (s:Nv):Prop:=∀ x ∈ s.m,x.nx = true ↔ x.k.t = 0
theorem Iv.put {s:Nv} (h:Iv s) (now:Int) (k:Qn) (iN:Bool) (x:Se):Iv (iM θ gt s now k iN x).1:=by
  unfold iM
  split
  · exact h
  rename_i hno
  split
  · exact h
  intro y hy
  rcases H8 (tO.subset hy) with rfl | h1
  · have ha:θ.ask k = true:=by
      cases ha:θ.ask k with
      | true=>rfl
      | false=>exact absurd (.inr (.inr ha)) hno
    cases iN with
    | true=>exact ⟨fun _=>rfl,fun _=>rfl⟩
    | false =>
      unfold Th.ask at ha
      simp only [Bool.and_eq_true,Bool.not_eq_true',decide_eq_false_iff_not] at ha
      exact ⟨fun e=>(by cases e),fun e=>absurd e ha.2⟩
  · exact h y h1
theorem MB {l:List Nt} {it:Nt} {room:Int} (hr:1 ≤ room) (h:(ks (l ++ [it])).Nodup):old (Et room (l ++ [it])) it.k = some it:=by
  have hn:it.k ∉ ks l:=by
    simp only [ks,List.map_append,List.map_cons,List.map_nil] at h
    have:=(List.nodup_append.mp h).2.2
    exact fun hm=>this _ hm _ (List.mem_singleton.mpr rfl) rfl
  unfold Et
  split
  · rename_i hc
    cases l with
    | nil=>simp at hc;omega
    | cons y l =>
      show old (l ++ [it]) it.k = some it
      rw [wZ (fun hm=>hn (List.mem_cons_of_mem _ hm)),if_pos rfl]
  · rw [wZ hn,if_pos rfl]
structure Put (θ:Th) (gt:ByteArray → Int → Int → Int × Bool) (s':Nv) (now:Int) (k:Qn) (iN:Bool) (x:Se):Prop where
  is:(ko θ gt x).2 = true
  le:1 ≤ (ko θ gt x).1 ∧ (ko θ gt x).1 < 2147483648
  tm:0 ≤ now ∧ now ≤ 1099511627776
  of:nof s'.m now (kn iN k) = some ⟨kn iN k,iN,x,dN now (ko θ gt x).1⟩
  un:dN now (ko θ gt x).1 ≤ now + (ko θ gt x).1
theorem Vq {s:Nv} {r:Rn} (hg:∀ s a z,0 ≤ (gt s a z).1) (h:Rl s r) (hr:1 ≤ r.room) {now:Int} {k:Qn} {iN:Bool} {x:Se} (h0:(iM θ gt s now k iN x).2 = 0):Put θ gt (iM θ gt s now k iN x).1 now k iN x:=by
  obtain ⟨e1,e2⟩:=Ii (θ:=θ) hg h hr now k iN x
  rw [h0] at e1
  by_cases ha:θ.narg gt r now k x
  · rw [Ia ha] at e1;cases e1
  cases hl:jY now (dN now (ko θ gt x).1) with
  | false=>rw [Eu ha hl] at e1;cases e1
  | true =>
  rw [Ib ha hl rfl] at e2
  have h1:=e2.old (kn iN k)
  have hnd:(ks (rid r.l (kn iN k) ++ [(⟨kn iN k,iN,x,dN now (ko θ gt x).1⟩:Nt)])).Nodup:=Aw (nH h.kP) (vC h.kP)
  have h2:=MB (it:=⟨kn iN k,iN,x,dN now (ko θ gt x).1⟩) hr hnd
  rw [Ih h.kP] at h1
  rw [h2] at h1
  have hm:(ko θ gt x).2 = true:=by
    cases hm:(ko θ gt x).2 with
    | true=>rfl
    | false=>exact absurd (.inr (.inr (.inl hm))) ha
  have hlv:=hl
  unfold jY Ch at hlv
  rw [Bool.and_eq_true,decide_eq_true_eq,decide_eq_true_eq] at hlv
  have hnn:=Mv (θ:=θ) hg x hm
  have hun:dN now (ko θ gt x).1 = now + (if (ko θ gt x).1 ≤ 604800 then (ko θ gt x).1 else 604800):=by
    unfold dN Ch
    rw [if_pos ⟨by simpa using hlv.1,hnn⟩]
  have htl:(ko θ gt x).1 < 2147483648:=by
    unfold ko
    split
    · rename_i hh
      have:=hh.1
      unfold Th.set at this
      rw [decide_eq_true_eq] at this
      have:=this.2.2.1
      dsimp only
      split <;> omega
    · show (0:Int) < _;omega
  refine ⟨hm,⟨?_,htl⟩,hlv.1,?_,?_⟩
  · have:=hlv.2
    rw [hun] at this
    split at this <;> omega
  · unfold nof
    rw [h1]
    exact if_pos hl
  · rw [hun];split <;> omega
theorem PE {m:List Nt} {now:Int} {b:Qn} {y:Nt} (h:nof m now b = some y):y.k = b ∧ y ∈ m ∧ jY now y.u = true:=by
  unfold nof at h
  split at h
  · rename_i y' ho
    split at h
    · rename_i hv
      cases h
      exact ⟨(wY ho).1,(wY ho).2,hv⟩
    · cases h
  · cases h
end Go.Proofs.Ytdkkgecdhapfhaa.Kn
set_option maxRecDepth 4000
namespace Go.Proofs.Ytdkkgecdhapfhaa.Kn
open Go Ev
variable {ext : Env} {F n:Nat} {θ:Th} {gt:ByteArray → Int → Int → Int × Bool}
theorem rl0 {room:Int} (hr:0 ≤ room):Rl ⟨room,[],[],0⟩ ⟨room,[],0⟩:=⟨rfl,rfl,rfl,List.nodup_nil,List.nodup_nil,fun _=>rfl,by simpa using hr⟩
theorem sz0 {room:Int} (hr:0 ≤ room ∧ room ≤ 1000000):Sz 0 ⟨room,[],[],0⟩:=⟨hr,⟨Int.le_refl _,Int.le_refl _⟩,Nat.le_refl _,Nat.le_refl _,by simp,List.nodup_nil⟩
theorem Gj {s:Rn} {now:Int} {k:Qn} {iN:Bool} {x:Se}:(oF θ gt s now k iN x).1.room = s.room:=by unfold oF;split;rfl;split <;> rfl
end Go.Proofs.Ytdkkgecdhapfhaa.Kn
set_option maxRecDepth 4000
namespace Go.Proofs.Ytdkkgecdhapfhaa.Kn
open Go Ev
variable {ext : Env} {F n:Nat} {θ:Th} {gt:ByteArray → Int → Int → Int × Bool}
set_option maxHeartbeats 16000000 in
theorem Cv (T:θ.Ok ext) (O:JC gt ext) (C:qM ext) (D:Py ext) (L:θ.pK gt) (hF:200000000000001 ≤ F) (room:Int) (l:List On) (kind:Int) (hl:l.length ≤ 200000000000000) (hd:∀ x ∈ l,x.s.d.length ≤ 200000000000000):G ext F (n + 8) 10 [vi room,vl (l.map Fy),vi kind] = some ([vb true],[vi room,vl (l.map Fy),vi kind]):=by
  refine iC (cf:=c10) rfl ?_
  have hs:=fun n=>Gd (ext:=ext) (F:=F) (n:=n) l 60 hl hd hF
  have hv:=fun n=>JK (F:=F) (n:=n) T O C D L hF
  have hn:=fun n=>Co (ext:=ext) (F:=F) (n:=n) room
  cases hf:yD l && decide ((l.length:Int) ≤ 60) with
  | false =>
    rw [hf] at hs
    simp only [c10,hs,hv,go_sem,Nat.reduceAdd,Nat.reduceMul,Nat.reduceEqDiff,Nat.reduceBEq,Nat.reduceMod,Nat.reduceDiv,↓reduceIte,reduceCtorEq]
  | true =>
  rw [hf] at hs
  have ae9:yD l = true ∧ l.length ≤ 60:=by
    rw [Bool.and_eq_true,decide_eq_true_eq] at hf
    exact ⟨hf.1,by omega⟩
  by_cases b1:room < 1
  · have b1':decide (room < 1) = true:=decide_eq_true b1
    simp only [c10,hs,hv,b1',go_sem,Nat.reduceAdd,Nat.reduceMul,Nat.reduceEqDiff,Nat.reduceBEq,Nat.reduceMod,Nat.reduceDiv,↓reduceIte,reduceCtorEq]
  have b1':decide (room < 1) = false:=decide_eq_false b1
  by_cases b2:1000 < room
  · have b2':decide (1000 < room) = true:=decide_eq_true b2
    simp only [c10,hs,hv,b1',b2',go_sem,Nat.reduceAdd,Nat.reduceMul,Nat.reduceEqDiff,Nat.reduceBEq,Nat.reduceMod,Nat.reduceDiv,↓reduceIte,reduceCtorEq]
  have b2':decide (1000 < room) = false:=decide_eq_false b2
  rw [if_neg (by omega),pF] at hn
  simp only [c10,hs,hv,hn,b1',b2',go_sem,Nat.reduceAdd,Nat.reduceMul,Nat.reduceEqDiff,Nat.reduceBEq,Nat.reduceMod,Nat.reduceDiv,↓reduceIte,reduceCtorEq]
  refine SC l.length (fun x:Nat × Nv × Rn=>⟨[(0,PV.c (CV.one (PL.f (FV.int IntKind.i64 room)))),(1,PV.c (CV.one (PL.f (FV.sl (List.map Fy l))))),(2,PV.c (CV.one (PL.f (FV.int IntKind.i64 kind)))),(7,PV.c (CV.one (PL.ptr 620200 0))),(8,PV.c (CV.one (PL.f (FV.int IntKind.i64 x.1))))],[(620200,Ob.ni [PL.f (FV.int IntKind.i64 x.2.1.room),PL.mp 620204,PL.f (FV.sl (x.2.1.o.map rQ)),PL.f (FV.int IntKind.i64 x.2.1.ch)]),(620204,Ob.map Mc (x.2.1.m.map ent))]⟩) (fun i x=>x.1 = i ∧ Sz i x.2.1 ∧ Rl x.2.1 x.2.2 ∧ x.2.2.room = room) (by omega) (0,⟨room,[],[],0⟩,⟨room,[],0⟩) rfl ⟨rfl,sz0 (by omega),rl0 (by omega),rfl⟩ (fun i x hi hP=>?_) (fun x hP=>?_)
  · obtain ⟨i',s,r⟩:=x
    obtain ⟨rfl,hsz,hrl,hr1⟩:=hP
    obtain ⟨x,hx,hlt,ht,h0⟩:=at_ hi
    have hn':=nx hi (Nat.le_trans hl (by decide))
    obtain ⟨z0,z1,z2,z3⟩:=PD ae9.1 (List.mem_of_getElem? hx)
    have hc:=hsz.c
    have ho:=hsz.o
    simp only at hsz hrl hr1 hc ho hi hlt ht h0 hn' ⊢
    have p1:=fun n=>tQ (F:=F) (n:=n) T O C s x.now x.k x.nx x.s hF hsz.r (by omega) (by omega) z0 z1 z2 z3
    have hz:=hsz.put (θ:=θ) (gt:=gt) x.now x.k x.nx x.s z2
    have yN:=(Ii (θ:=θ) O.nn hrl (by omega) x.now x.k x.nx x.s).2
    have hroom:(oF θ gt r x.now x.k x.nx x.s).1.room = room:=by rw [Gj];exact hr1
    by_cases he:(iM θ gt s x.now x.k x.nx x.s).2 = 0
    · obtain ⟨q1,q2,q3,q4,q5⟩:=Vq (θ:=θ) O.nn hrl (by omega) he
      rw [he] at p1
      generalize (iM θ gt s x.now x.k x.nx x.s).1 = s' at p1 hz yN q4
      generalize (oF θ gt r x.now x.k x.nx x.s).1 = r' at yN hroom
      have hzc:=hz.c
      have hzo:=hz.o
      have m1:=fun n=>nY (F:=F) (n:=n) T O x.s hF z1 z2 z3
      rw [q1] at m1
      generalize (ko θ gt x.s).1 = least at m1 q2 q4 q5
      generalize dN x.now least = u at q4 q5
      have f1:=fun n=>pG (F:=F) (n:=n) C s' x.now x.k hF hz.d
      have f2:=fun n=>pG (F:=F) (n:=n) C s' x.now ⟨x.k.q,kind,x.k.c⟩ hF hz.d
      have kk:=fun n=>rM (ext:=ext) (F:=F) (n:=n) x
      have k1:=fun n=>Er (ext:=ext) (F:=F) (n:=n) C (some s') (by rintro _ ⟨⟩;omega)
      have a1:=fun n=>L6 (ext:=ext) (F:=F) (n:=n) s'.o (by omega) hF
      have hnd:s'.o.Nodup:=by rw [yN.ord];exact yN.kP
      rw [decide_eq_true hnd] at a1
      simp only [pF] at k1
      have hlen:(s'.o.length:Int) ≤ room:=by rw [yN.ord,← hroom];simpa [ks] using yN.len
      have u1:decide (room < (s'.o.length:Int)) = false:=decide_eq_false (by omega)
      have u2:decide (least < 1) = false:=decide_eq_false (by omega)
      have hw:IntKind.i64.wrap (x.now + least) = x.now + least:=zN (by omega) (by omega)
      have u3:decide (x.now + least < u) = false:=decide_eq_false (by omega)
      have z00:decide ((0:Int) = 0) = true:=rfl
      cases hnx:x.nx with
      | true =>
        rw [hnx] at p1 q4
        have e1:jF s' x.now x.k = (⟨x.k.w,true,x.s,u⟩,true):=by
          unfold jF;rw [show nof s'.m x.now x.k.w = some ⟨x.k.w,true,x.s,u⟩ from q4]
        have e2:jF s' x.now ⟨x.k.q,kind,x.k.c⟩ = (⟨x.k.w,true,x.s,u⟩,true):=by
          unfold jF;rw [show nof s'.m x.now (Qn.w ⟨x.k.q,kind,x.k.c⟩) = some ⟨x.k.w,true,x.s,u⟩ from q4]
        rw [e1] at f1
        rw [e2] at f2
        simp only [List.length_map,List.getElem?_map,hlt,hx,ht,h0,hn',Fy,hnx,p1,m1,f1,f2,kk,k1,a1,u1,u2,hw,u3,z00,go_sem,Nat.reduceAdd,Nat.reduceMul,Nat.reduceEqDiff,Nat.reduceBEq,Nat.reduceMod,Nat.reduceDiv,↓reduceIte,reduceCtorEq]
        exact ⟨(i' + 1,s',r'),rfl,rfl,hz,yN,hroom⟩
      | false =>
        rw [hnx] at p1 q4
        cases hwn:nof s'.m x.now x.k.w with
        | some y =>
          have e1:jF s' x.now x.k = (y,true):=by unfold jF;rw [hwn]
          have ty:decide (y.k.t = 0) = true:=decide_eq_true (by rw [(PE hwn).1])
          rw [e1] at f1
          simp only [List.length_map,List.getElem?_map,hlt,hx,ht,h0,hn',Fy,hnx,p1,m1,f1,kk,k1,a1,u1,u2,hw,z00,ty,go_sem,Nat.reduceAdd,Nat.reduceMul,Nat.reduceEqDiff,Nat.reduceBEq,Nat.reduceMod,Nat.reduceDiv,↓reduceIte,reduceCtorEq]
          repeat' (refine eD (fun h=>?_) (fun h=>?_) <;> simp only [h,List.length_map,List.getElem?_map,hlt,hx,ht,h0,hn',Fy,hnx,p1,m1,f1,kk,k1,a1,u1,u2,hw,z00,ty,go_sem,Nat.reduceAdd,Nat.reduceMul,Nat.reduceEqDiff,Nat.reduceBEq,Nat.reduceMod,Nat.reduceDiv,↓reduceIte,reduceCtorEq])
          all_goals exact ⟨(i' + 1,s',r'),rfl,rfl,hz,yN,hroom⟩
        | none =>
          have e1:jF s' x.now x.k = (⟨x.k,false,x.s,u⟩,true):=by
            unfold jF;rw [hwn]
            show Xy (nof s'.m x.now x.k) = _
            rw [show nof s'.m x.now x.k = some ⟨x.k,false,x.s,u⟩ from q4];rfl
          rw [e1] at f1
          simp only [List.length_map,List.getElem?_map,hlt,hx,ht,h0,hn',Fy,hnx,p1,m1,f1,kk,k1,a1,u1,u2,hw,u3,z00,go_sem,Nat.reduceAdd,Nat.reduceMul,Nat.reduceEqDiff,Nat.reduceBEq,Nat.reduceMod,Nat.reduceDiv,↓reduceIte,reduceCtorEq]
          exact ⟨(i' + 1,s',r'),rfl,rfl,hz,yN,hroom⟩
    · have he':decide ((iM θ gt s x.now x.k x.nx x.s).2 = 0) = false:=decide_eq_false he
      generalize (iM θ gt s x.now x.k x.nx x.s).1 = s' at p1 hz yN
      generalize (iM θ gt s x.now x.k x.nx x.s).2 = e at p1 he'
      simp only [List.length_map,List.getElem?_map,hlt,hx,ht,h0,hn',Fy,p1,he',go_sem,Nat.reduceAdd,Nat.reduceMul,Nat.reduceEqDiff,Nat.reduceBEq,Nat.reduceMod,Nat.reduceDiv,↓reduceIte,reduceCtorEq]
      exact ⟨(i' + 1,s',(oF θ gt r x.now x.k x.nx x.s).1),rfl,rfl,hz,yN,hroom⟩
  · obtain ⟨i',s,r⟩:=x
    obtain ⟨rfl,hsz,hrl,hr1⟩:=hP
    have hd':=@end_ _ l
    simp only [List.length_map,hd',hv,go_sem,Nat.reduceAdd,Nat.reduceMul,Nat.reduceEqDiff,Nat.reduceBEq,Nat.reduceMod,Nat.reduceDiv,↓reduceIte,reduceCtorEq]
end Go.Proofs.Ytdkkgecdhapfhaa.Kn
namespace Go.Proofs.Ytdkkgecdhapfhaa.Ev
open Go
def Gl (P:Program):List Field → Nat → Bool
  | [],_=>true
  | f :: fs,i=>(f.name != "_") && (f.offset == i) && (Fv P f.type).isSome && Gl P fs (i + 1)
def okT (P:Program) (t:TypeId):Bool:=!P.eqGuardType P.depth t && match P.underlying t with
  | some (.struct fs)=>!P.stoodInHeld t && Gl P fs.toList 0
  | some (.int _)=>true
  | some .string=>true
  | some .bool=>true
  | _=>false
section
variable {P : Program} {t:TypeId} {w:World}
theorem vE {k:SK} (h:Fv P t = some k):(∃ i,P.underlying t = some (.int i) ∧ k = .int i) ∨ (P.underlying t = some .bool ∧ k = .bool) ∨ (P.underlying t = some .string ∧ k = .str):=by
  unfold Fv at h
  split at h <;> simp_all
theorem SG {d:Nat} {k:SK} (h:Fv P t = some k) {a b:SV} (ha:a.sk = k) (hb:b.sk = k):(Op.equalIn (d + 1) t (encS a) (encS b)).run P w = .ok (decide (a = b)) w:=by
  rcases vE h with ⟨i,hu,rfl⟩ | ⟨hu,rfl⟩ | ⟨hu,rfl⟩
  · cases a <;> cases b <;> simp_all [SV.sk,encS,Op.equalIn,run_underlying hu]
    rw [Bool.eq_iff_iff];simp
  · cases a <;> cases b <;> simp_all [SV.sk,encS,Op.equalIn,run_underlying hu]
    rw [Bool.eq_iff_iff];simp
  · cases a <;> cases b <;> simp_all [SV.sk,encS,Op.equalIn,run_underlying hu]
    exact Mq.uW _ _
theorem Cw {k:SK} (h:Fv P t = some k) {xs:Array Value} {o:Nat} {v:Value} (hx:xs[o]? = some v):(part t xs o).run P w = .ok v w:=by
  rcases vE h with ⟨i,hu,rfl⟩ | ⟨hu,rfl⟩ | ⟨hu,rfl⟩ <;> simp [part,isAgg,run_underlying hu,hx]
theorem AB {d:Nat} {xs ys:Array Value}:∀ {fs:List Field} {i:Nat} {ks:List SK} {ZZ9 bs:List SV},Gl P fs i = true → Jm P fs = some ks → ZZ9.map SV.sk = ks → bs.map SV.sk = ks → (∀ j:Nat,xs[i + j]? = ZZ9[j]?.map encS) → (∀ j:Nat,ys[i + j]? = bs[j]?.map encS) →
    (Op.eqFields (d + 1) xs ys fs).run P w = .ok (decide (ZZ9 = bs)) w
  | [],i,ks,ZZ9,bs,_,hk,ha,hb,_,_=>by
    cases hk
    simp only [List.map_eq_nil_iff] at ha hb
    subst ha;subst hb
    simp [Op.eqFields]
  | f :: fs,i,ks,ZZ9,bs,hf,hk,ha,hb,hx,hy=>by
    obtain ⟨k,h1,h2⟩:=zbm hk
    obtain ⟨l,h3,rfl⟩:=zmm h2
    unfold Gl at hf
    simp only [Bool.and_eq_true,bne_iff_ne,ne_eq,beq_iff_eq] at hf
    obtain ⟨⟨⟨f1,f2⟩,f3⟩,f4⟩:=hf
    cases ZZ9 with
    | nil=>simp at ha
    | cons a ZZ9 =>
    cases bs with
    | nil=>simp at hb
    | cons b bs =>
    simp only [List.map_cons,List.cons.injEq] at ha hb
    have ex:xs[f.offset]? = some (encS a):=by rw [f2];simpa using hx 0
    have ey:ys[f.offset]? = some (encS b):=by rw [f2];simpa using hy 0
    have ih:=AB (d:=d) f4 h3 ha.2 hb.2 (fun j=>by have:=hx (j + 1);rw [show i + 1 + j = i + (j + 1) from by omega];simpa using this) (fun j=>by have:=hy (j + 1);rw [show i + 1 + j = i + (j + 1) from by omega];simpa using this)
    unfold Op.eqFields
    rw [if_pos f1]
    simp only [Sem.run_bind,Cw h1 ex,Cw h1 ey,Result.andThen_ok,SG h1 ha.1 hb.1,List.cons.injEq]
    by_cases hab:a = b
    · subst hab;simp [ih]
    · simp [hab]
theorem PG {e:Bool} {n:Nat} {k:SK} (h:Fv P t = some k) {a:SV} (ha:a.sk = k):(Instr.checkKey e (n + 1) t (encS a)).run P w = .ok () w:=by
  rcases vE h with ⟨i,hu,rfl⟩ | ⟨hu,rfl⟩ | ⟨hu,rfl⟩ <;> cases a <;> simp_all [SV.sk,encS,Instr.checkKey,run_underlying hu]
theorem EC {e:Bool} {n:Nat} {cs:Array Value}:∀ {fs:List Field} {i:Nat} {ks:List SK} {ZZ9:List SV},Gl P fs i = true → Jm P fs = some ks → ZZ9.map SV.sk = ks → (∀ j:Nat,cs[i + j]? = ZZ9[j]?.map encS) →
    (forIn fs PUnit.unit (fun (f:Field) (_:PUnit)=>(do
      if f.name ≠ "_" then Instr.checkKey e (n + 1) f.type (← part f.type cs f.offset)
      pure (ForInStep.yield PUnit.unit):Sem (ForInStep PUnit)))).run P w = .ok PUnit.unit w
  | [],i,ks,ZZ9,_,_,_,_=>by simp
  | f :: fs,i,ks,ZZ9,hf,hk,ha,hx=>by
    obtain ⟨k,h1,h2⟩:=zbm hk
    obtain ⟨l,h3,rfl⟩:=zmm h2
    unfold Gl at hf
    simp only [Bool.and_eq_true,bne_iff_ne,ne_eq,beq_iff_eq] at hf
    obtain ⟨⟨⟨f1,f2⟩,f3⟩,f4⟩:=hf
    cases ZZ9 with
    | nil=>simp at ha
    | cons a ZZ9 =>
    simp only [List.map_cons,List.cons.injEq] at ha
    have ex:cs[f.offset]? = some (encS a):=by rw [f2];simpa using hx 0
    have ih:=EC (e:=e) (n:=n) f4 h3 ha.2 (fun j=>by have:=hx (j + 1);rw [show i + 1 + j = i + (j + 1) from by omega];simpa using this)
    rw [List.forIn_cons]
    simp only [if_pos f1,Sem.run_bind,Cw h1 ex,Result.andThen_ok,PG h1 ha.1,Sem.run_pure]
    exact ih
theorem PI {e:Bool} {n:Nat} {fs:Array Field} {ks:List SK} {ZZ9:List SV} (hu:P.underlying t = some (.struct fs)) (hf:Gl P fs.toList 0 = true) (hk:Jm P fs.toList = some ks) (ha:ZZ9.map SV.sk = ks):(Instr.checkKey e (n + 2) t (.agg (ZZ9.map encS).toArray)).run P w = .ok () w:=by
  have:=EC (w:=w) (e:=e) (n:=n) hf hk ha (cs:=(ZZ9.map encS).toArray) (fun j=>by simp)
  unfold Instr.checkKey
  simp only [Sem.run_bind,run_underlying hu,Result.andThen_ok]
  rw [← Array.forIn_toList]
  simp only [ne_eq,ite_not] at this ⊢
  simp at this ⊢
  rw [this]
  rfl
theorem PK {n:Nat} {ZZ9:List SV} (hs:∀ (n:Nat) (a:SV),Instr.sameBits n (encS a) (encS a) = true):Instr.sameBits (n + 1) (.agg (ZZ9.map encS).toArray) (.agg (ZZ9.map encS).toArray) = true:=by
  unfold Instr.sameBits
  simp only [beq_self_eq_true,Bool.true_and,List.all_eq_true]
  intro p hp
  have:∀ (l:List Value) (p:Value × Value),p ∈ l.zip l → p.1 = p.2 ∧ p.1 ∈ l:=by
    intro l
    induction l with
    | nil=>intro p hp;simp at hp
    | cons x l ih =>
      intro p hp
      rcases List.mem_cons.mp hp with rfl | hp
      · exact ⟨rfl,by simp⟩
      · exact ⟨(ih p hp).1,List.mem_cons_of_mem _ (ih p hp).2⟩
  obtain ⟨h1,h2⟩:=this _ _ hp
  obtain ⟨x,y⟩:=p
  simp only at h1 h2
  subst h1
  simp only [List.mem_map] at h2
  obtain ⟨s,_,rfl⟩:=h2
  exact hs _ s
theorem Ij {n:Nat} (a:SV):Instr.sameBits n (encS a) (encS a) = true:=by
  cases a <;> simp [encS,Instr.sameBits]
  rw [Mq.uW];simp
theorem ED {ks:List SK} {a:KV} (h:a.ks = .agg ks):∃ ZZ9,a = .agg ZZ9 ∧ ZZ9.map SV.sk = ks:=by
  cases a with
  | one x=>cases h
  | agg ZZ9=>exact ⟨ZZ9,rfl,by simpa [KV.ks] using h⟩
theorem AJ {k:SK} {a:KV} (h:a.ks = .one k):∃ x,a = .one x ∧ x.sk = k:=by
  cases a with
  | one x=>exact ⟨x,rfl,by simpa [KV.ks] using h⟩
  | agg ZZ9=>cases h
theorem PN {n:Nat} {d:TypeDesc} (hu:P.underlying t = some d) (hd:∀ ms,d ≠ .interface ms):(Op.eqGuardIn (n + 1) t .nilIface .nilIface).run P w = .ok false w:=by
  unfold Op.eqGuardIn
  simp only [Sem.run_bind,run_underlying hu,Result.andThen_ok]
  cases d <;> first | rfl | exact absurd rfl (hd _)
theorem Cx {d:TypeDesc} (hu:P.underlying t = some d) (hd:∀ ms,d ≠ .interface ms) (w:World):(Op.eqGuardIn Op.maxDepth t .nilIface .nilIface).run P w = .ok false w:=by
  unfold Op.maxDepth
  exact PN hu hd
set_option maxHeartbeats 2000000 in
theorem Vr (h:okT P t = true):lq P t:=by
  unfold okT at h
  rw [Bool.and_eq_true] at h
  obtain ⟨hg,h⟩:=h
  have hg':P.eqGuardType P.depth t = false:=by simpa using hg
  have gd:(∀ w,(Op.eqGuardIn Op.maxDepth t .nilIface .nilIface).run P w = .ok false w) → ∀ op x y,∀ (a b:Value) (w:World),(eqGuard op t x y a b).run P w = .ok () w:=by
    intro hn op x y a b w
    have key:(Sem.run P (match a,b with
      | .nilIface,.nilIface=>do
        if (x matches .const _) || (y matches .const _) then return
        if ← Op.eqGuardIn Op.maxDepth t a b then unsupported (.noEntry "binop/eql: two nil values of an interface type with methods, neither of them the literal nil")
      | .agg _,.agg _=>do
        if !(← program).eqGuardType (← program).depth t then return
        if ← Op.eqGuardIn Op.maxDepth t a b then unsupported (.noEntry "binop/eql: two nil values of an interface type with methods, in a part of a struct or an array")
      | _,_=>pure ()) w) = .ok () w:=by
      cases a <;> cases b <;> first | rfl | (simp only [Sem.run_bind,run_program,Result.andThen_ok,hg'];rfl) | skip
      cases x <;> cases y <;> first | rfl | simp [hn]
    unfold eqGuard
    split
    · exact key
    · exact key
    · rfl
  cases hu:P.underlying t with
  | none=>rw [hu] at h;cases h
  | some d =>
    rw [hu] at h
    have sc:∀ k,Fv P t = some k → xO P t = some (.one k) → (∀ w,(Op.eqGuardIn Op.maxDepth t .nilIface .nilIface).run P w = .ok false w) → (∀ a:SV,a.sk = k → MapKept.IsKey d (encS a)) → (∀ a b:SV,a.sk = k → b.sk = k → Instr.sameNow d (encS a) (encS b) = some (decide (a = b))) → lq P t:=by
      intro k hk hks hn h1 h2
      have hcase:∀ {sh},xO P t = some sh → sh = .one k:=fun e=>by rw [hks] at e;cases e;rfl
      refine ⟨fun sh e=>?_,fun sh e a b w ha hb=>?_,gd hn⟩
      · obtain rfl:=hcase e
        refine Mq.Key.Oj hu (fun a ha=>?_) (fun a b ha hb=>?_) (fun a ha=>?_)
        · obtain ⟨x,rfl,hx⟩:=AJ ha;exact h1 x hx
        · obtain ⟨x,rfl,hx⟩:=AJ ha
          obtain ⟨y,rfl,hy⟩:=AJ hb
          simp only [mg,KV.one.injEq]
          exact h2 x y hx hy
        · obtain ⟨x,rfl,hx⟩:=AJ ha;exact Ij x
      · obtain rfl:=hcase e
        obtain ⟨x,rfl,hx⟩:=AJ ha
        obtain ⟨y,rfl,hy⟩:=AJ hb
        simp only [mg,KV.one.injEq]
        unfold Op.equal Op.maxDepth
        exact SG hk hx hy
    cases d with
    | int i =>
      refine sc (.int i) (by simp [Fv,hu]) (by simp [xO,Fv,hu]) (Cx hu (fun _ h=>by cases h)) (fun a ha=>?_) (fun a b ha hb=>?_)
      · cases a <;> simp_all [SV.sk,encS,MapKept.IsKey]
      · cases a <;> cases b <;> simp_all [SV.sk,encS,Instr.sameNow]
        rw [Bool.eq_iff_iff];simp
    | bool =>
      refine sc .bool (by simp [Fv,hu]) (by simp [xO,Fv,hu]) (Cx hu (fun _ h=>by cases h)) (fun a ha=>?_) (fun a b ha hb=>?_)
      · cases a <;> simp_all [SV.sk,encS,MapKept.IsKey]
      · cases a <;> cases b <;> simp_all [SV.sk,encS,Instr.sameNow]
        rw [Bool.eq_iff_iff];simp
    | string =>
      refine sc .str (by simp [Fv,hu]) (by simp [xO,Fv,hu]) (Cx hu (fun _ h=>by cases h)) (fun a ha=>?_) (fun a b ha hb=>?_)
      · cases a <;> simp_all [SV.sk,encS,MapKept.IsKey]
      · cases a <;> cases b <;> simp_all [SV.sk,encS,Instr.sameNow]
        exact Mq.uW _ _
    | struct fs =>
      simp only [Bool.and_eq_true,Bool.not_eq_true'] at h
      have hcase:∀ {sh},xO P t = some sh → ∃ ks,Jm P fs.toList = some ks ∧ sh = .agg ks:=fun e=>by
        unfold xO at e
        rw [hu] at e
        obtain ⟨ks,h1,h2⟩:=zmm e
        exact ⟨ks,h1,h2.symm⟩
      have idx:∀ (ZZ9:List SV) (j:Nat),((ZZ9.map encS).toArray)[0 + j]? = ZZ9[j]?.map encS:=fun ZZ9 j=>by simp
      have heq:∀ sh,xO P t = some sh → ∀ (a b:KV) (w:World),a.ks = sh → b.ks = sh → (Op.equal t (mg a) (mg b)).run P w = .ok (decide (a = b)) w:=by
        intro sh e a b w ha hb
        obtain ⟨ks,hks,rfl⟩:=hcase e
        obtain ⟨ZZ9,rfl,ha1⟩:=ED ha
        obtain ⟨bs,rfl,hb1⟩:=ED hb
        have hf:P.fieldsOf t = fs:=by simp [Program.fieldsOf,hu]
        unfold Op.equal Op.maxDepth
        simp only [mg,KV.agg.injEq]
        rw [run_equalIn_struct (P:=P) w _ t _ _ (by rw [hf];exact hu) h.1,hf]
        exact AB h.2 hks ha1 hb1 (idx ZZ9) (idx bs)
      refine ⟨fun sh e=>?_,heq,gd (Cx hu (fun _ h=>by cases h))⟩
      · obtain ⟨ks,hks,rfl⟩:=hcase e
        refine Mq.Key.KQ hu (fun e' a w ha=>?_) (fun a b w ha hb=>heq _ e a b w ha hb) (fun a ha=>?_) (fun a ha=>?_)
        · obtain ⟨ZZ9,rfl,ha1⟩:=ED ha
          exact PI (n:=9998) hu h.2 hks ha1
        · obtain ⟨ZZ9,rfl,ha1⟩:=ED ha
          exact PK (n:=9999) (fun n a=>Ij a)
        · obtain ⟨ZZ9,rfl,ha1⟩:=ED ha
          exact ⟨_,rfl⟩
    | _=>simp at h
end
end Go.Proofs.Ytdkkgecdhapfhaa.Ev
set_option maxRecDepth 100000
namespace Go.Proofs.Ytdkkgecdhapfhaa.Kn
open Go Go.RowKit Go.Proofs Ev
theorem eqs : ∀ t ∈ [3,32],lq Try.prog t:=by
  intro t ht
  simp only [List.mem_cons,List.not_mem_nil,or_false] at ht
  rcases ht with rfl | rfl <;> exact Vr (by kernel_rfl)
theorem mixed : Try.prog.follows .mixedOrders = true:=by kernel_rfl
theorem PO : iF Try.prog fun _ _=>none:=fun f fZ rs rU h=>by cases h
theorem JL : eB Try.prog fun _ _=>none:=fun f fZ r h=>by cases h
def Vs : CF:=⟨1,[(.t 2)],[],[],(.seq (.reg [⟨(some 2),none,(.mv (.k (.one .fT)))⟩] [0]) (.seq (.seq (.reg [⟨(some 3),none,(.mv (.t 0))⟩,⟨(some 4),none,(.Bv false (.t 3))⟩] [0,4]) (.cond (.t 4) (.seq (.reg [⟨(some 2),none,(.mv (.k (.one .fT)))⟩] [2]) .ret) .skip)) (.seq (.reg [⟨(some 5),none,(.Fu 9 1 0 [] [])⟩,⟨(some 6),none,(.mv (.t 0))⟩,⟨(some 7),none,(.app 9 1 16 (.t 5) (.t 6))⟩,⟨(some 2),none,(.mv (.t 7))⟩] [2]) .ret)))⟩
def Vt : CF:=⟨1,[(.t 2)],[some 3],[],(.seq (.reg [⟨(some 2),none,(.mv (.k (.one .fT)))⟩] [0]) (.seq (.seq (.reg [⟨(some 3),none,(.mv (.t 0))⟩,⟨(some 4),none,(.Bv false (.t 3))⟩] [0,4]) (.cond (.t 4) (.seq (.reg [⟨(some 2),none,(.mv (.k (.one .fT)))⟩] [2]) .ret) .skip)) (.seq (.reg [⟨(some 5),none,(.Fu 32 3 0 [] [])⟩,⟨(some 6),none,(.mv (.t 0))⟩,⟨(some 7),none,(.app 32 3 32 (.t 5) (.t 6))⟩,⟨(some 2),none,(.mv (.t 7))⟩] [2]) .ret)))⟩
theorem PS {f:FuncId} {cf:CF} {Γ:Env} (h:lX Try.prog f cf) (h1:iF Try.prog Γ) (h2:eB Try.prog Γ) (F:Nat):Sat Try.prog f (KE Γ F cf):=by
  obtain ⟨fn,c,X,hints,rest,e1,_,e2,e3,e4,e5,e6⟩:=h.ok
  exact Au mixed e3 h1 h2 e1 e2 e4 e5 e6 F
theorem PU : lX Try.prog 88 Vs:=⟨Try.f88,_,⟨[3,32],[],[],[33,89]⟩,[⟨[0],[],[]⟩,⟨[0,4],[],[]⟩,⟨[2],[],[]⟩,⟨[2],[],[]⟩],[],by kernel_rfl,by kernel_rfl,rfl,eqs,by kernel_rfl,by kernel_rfl,by decide⟩
theorem PW : lX Try.prog 70 Vt:=⟨Try.f70,_,⟨[3,32],[],[],[33,89]⟩,[⟨[0],[],[]⟩,⟨[0,4],[],[]⟩,⟨[2],[],[]⟩,⟨[2],[],[]⟩],[],by kernel_rfl,by kernel_rfl,rfl,eqs,by kernel_rfl,by kernel_rfl,by decide⟩
theorem PX (r:List FV) (l:List (List FV)) (h:l.length < 1000000) (hl:(r :: l).all (fun r=>r.length == 1) = true):KE (fun _ _=>none) 10 Vs [vl (r :: l)] = some ([vl (r :: l)],[vl (r :: l)]):=by
  refine Jw ?_
  rw [List.all_cons,Bool.and_eq_true] at hl
  simp only [Vs,hl.1,hl.2,List.all_cons,go_sem,Nat.reduceAdd,Nat.reduceMul,Nat.reduceEqDiff,Nat.reduceBEq,Nat.reduceMod,Nat.reduceDiv,↓reduceIte,reduceCtorEq]
  omega
theorem PY (r:List FV) (l:List (List FV)) (h:l.length < 1000000) (hl:(r :: l).all (fun r=>r.length == 3) = true):KE (fun _ _=>none) 10 Vt [vl (r :: l)] = some ([.one (.own 3 (r :: l))],[vl (r :: l)]):=by
  refine Jw ?_
  rw [List.all_cons,Bool.and_eq_true] at hl
  simp only [Vt,hl.1,hl.2,List.all_cons,go_sem,Nat.reduceAdd,Nat.reduceMul,Nat.reduceEqDiff,Nat.reduceBEq,Nat.reduceMod,Nat.reduceDiv,↓reduceIte,reduceCtorEq]
  omega
theorem xg {t e:TypeId} (hu:Try.prog.underlying t = some (.slice e)) (p:Option Addr) (c:Nat) (w:World):(binOp .eql t (.slice p 0 c) (.slice none 0 0)).run Try.prog w = .ok (.bool p.isNone) w:=by
  have:=run_equal_slice_nil w t e p 0 c hu
  simp only [binOp,Sem.run_bind,this,Result.andThen_ok,Sem.run_pure]
theorem EF {t ty e:TypeId} {i:TypeInfo} (hu:Try.prog.underlying t = some (.slice e)) (hi:Try.prog.info? e = some i) (a b:Addr) (c:Nat) (w:World):(Builtin.append_ #[t,t] ty #[.slice (some b) 0 0,.slice (some a) 0 c]).run Try.prog w = .ok (.slice (some b) 0 0) w:=by
  have h1:∀ w,(Builtin.lenOf (.slice (some a) 0 c)).run Try.prog w = .ok 0 w:=fun _=>rfl
  have h2:=fun w=>run_firstCells_some (P:=Try.prog) w i.size 0 a 0 c [] (by simp) (by simp)
  simp [Builtin.append_,run_underlying hu,sizeOf,typeInfo,hi,storeCells,h1,h2]
theorem MC (c:Nat) (w:World):Calls Try.prog 88 #[.slice none 0 c] w fun e w'=>e = .returned (.slice none 0 0) ∧ w' = w:=by
  have heq:=xg (t:=33) (e:=9) (by kernel_rfl) none c
  go_enter Try.func88,Try.ntmps88
  go_wp2
  go_ret
  exact ⟨rfl,rfl⟩
theorem ME (a:Addr) (c:Nat) (w:World):Calls Try.prog 88 #[.slice (some a) 0 c] w fun e w'=>e = .returned (.slice (some ⟨w.heap.size,0,none⟩) 0 0) ∧ w' = w.alloc (.cells #[] 9):=by
  have heq:=xg (t:=33) (e:=9) (by kernel_rfl) (some a) c
  obtain ⟨i,hi⟩:=Option.isSome_iff_exists.mp (show (Try.prog.info? 9).isSome = true by kernel_rfl)
  have hap:=fun b w=>EF (t:=33) (ty:=33) (e:=9) (by kernel_rfl) hi a b c w
  go_enter Try.func88,Try.ntmps88
  go_wp2
  go_ret
  exact ⟨rfl,rfl⟩
theorem MF (c:Nat) (w:World):Calls Try.prog 70 #[.slice none 0 c] w fun e w'=>e = .returned (.slice none 0 0) ∧ w' = w:=by
  have heq:=xg (t:=57) (e:=32) (by kernel_rfl) none c
  go_enter Try.func70,Try.ntmps70
  go_wp2
  go_ret
  exact ⟨rfl,rfl⟩
theorem MG (a:Addr) (c:Nat) (w:World):Calls Try.prog 70 #[.slice (some a) 0 c] w fun e w'=>e = .returned (.slice (some ⟨w.heap.size,0,none⟩) 0 0) ∧ w' = w.alloc (.cells #[] 32):=by
  have heq:=xg (t:=57) (e:=32) (by kernel_rfl) (some a) c
  obtain ⟨i,hi⟩:=Option.isSome_iff_exists.mp (show (Try.prog.info? 32).isSome = true by kernel_rfl)
  have hap:=fun b w=>EF (t:=57) (ty:=57) (e:=32) (by kernel_rfl) hi a b c w
  go_enter Try.func70,Try.ntmps70
  go_wp2
  go_ret
  exact ⟨rfl,rfl⟩
def PZ (sz:Nat) (own:Bool) (fZ:List AV):Option (List AV × List AV):=match fZ with
  | [.one (.f (.sl rows))]=>if rows.length ≤ 1000000 ∧ rows.all (fun r=>r.length == sz) = true then some ([.one (if own then .own sz rows else .f (.sl rows))],fZ) else none
  | _=>none
theorem yO (w:World) (o:Obj):w.heap.size ≤ (w.alloc o).heap.size ∧ (∀ b,b < w.heap.size → (w.alloc o).heap[b]? = w.heap[b]?) ∧ (w.alloc o).heap[w.heap.size]? = some o ∧ (w.alloc o).heap.size = w.heap.size + 1:=by
  obtain ⟨h1,h2,h3⟩:=jX w o
  exact ⟨by omega,h2,h1,h3⟩
theorem Ik {f:FuncId} {cf:CF} {sz e:Nat} {own:Bool} (h0:0 < sz) (he:lX Try.prog f cf) (hrun:∀ (r:List FV) (l:List (List FV)),l.length < 1000000 → (r :: l).all (fun r=>r.length == sz) = true → KE (fun _ _=>none) 10 cf [vl (r :: l)] = some ([.one (if own then .own sz (r :: l) else .f (.sl (r :: l)))],[vl (r :: l)]))
    (hn:∀ (c:Nat) (w:World),Calls Try.prog f #[.slice none 0 c] w fun e w'=>e = .returned (.slice none 0 0) ∧ w' = w)
    (hs:∀ (a:Addr) (c:Nat) (w:World),Calls Try.prog f #[.slice (some a) 0 c] w fun e' w'=>e' = .returned (.slice (some ⟨w.heap.size,0,none⟩) 0 0) ∧ w' = w.alloc (.cells #[] e)):Sat Try.prog f (PZ sz own):=by
  intro fZ rs rU hg
  unfold PZ at hg
  split at hg
  · rename_i rows
    split at hg
    · rename_i hc
      cases hg
      cases rows with
      | cons r l =>
        exact PS he PO JL 10 _ _ _ (hrun r l (by have:=hc.1;simp at this;omega) hc.2)
      | nil =>
        intro Fz w vals bs ha hnd hap hfz
        match vals,ha with
        | [v],⟨b1,b2,h1,h2,e0⟩ =>
        obtain ⟨hv,rfl⟩:=h1
        obtain rfl:b2 = []:=h2
        subst e0
        simp only [eX] at hv
        obtain ⟨A,c,rfl,hle,hbig,_⟩:=hv
        have hrep:∀ (w':World) (v:Value),(∃ A,v = .slice A 0 0) → eX Fz w' (.sl []) v:=fun w' v ⟨A,hA⟩=>by
          simp only [eX];exact ⟨A,0,by rw [hA];rfl,Nat.le_refl _,by simp,.inl trivial⟩
        have hbk:∀ (w':World),fO Fz w' [vl []] [.slice A ([]:List (List FV)).length c] []:=fun w' =>
          ⟨[],[],⟨by simp only [eX];exact ⟨A,c,rfl,hle,hbig,.inl trivial⟩,rfl⟩,rfl,rfl⟩
        cases A with
        | none =>
          refine (hn c w).mono fun e' w' ⟨e1,e2⟩=>?_
          subst e2
          refine ⟨Fz,[.slice none 0 0],[],[],e1,fun _ h=>h,fun b hb=>⟨hfz b hb,.inl hb⟩,Nat.le_refl _,fun _ _ _=>rfl,⟨rfl,rfl⟩,hbk w',?_,by simp,fun b hb=>by simp at hb⟩
          cases own with
          | true=>exact ⟨[],[],⟨h0,0,[],none,0,rfl,World.ownsRow_nil w' _ _ _,rfl,rfl⟩,rfl,rfl⟩
          | false=>exact ⟨[],[],⟨hrep w' _ ⟨none,rfl⟩,rfl⟩,rfl,rfl⟩
        | some a =>
          refine (hs a c w).mono fun e' w' ⟨e1,e2⟩=>?_
          subst e2
          obtain ⟨k1,k2,k3,k4⟩:=yO w (.cells #[] e)
          cases own with
          | true =>
            refine ⟨Fz,[.slice (some ⟨w.heap.size,0,none⟩) 0 0],[],[w.heap.size],e1,fun _ h=>h,fun b hb=>⟨Nat.lt_of_lt_of_le (hfz b hb) k1,.inl hb⟩,k1,fun b hb _=>k2 b hb,⟨rfl,rfl⟩,hbk _,?_,by simp,fun b hb=>?_⟩
            · refine ⟨[w.heap.size],[],⟨h0,e,[],_,0,rfl,⟨by simp,.inr ⟨w.heap.size,0,#[],rfl,Nat.zero_le _,k3,Nat.le_refl _,by simp [maxLen],by simp,by simp⟩⟩,rfl,rfl⟩,rfl,rfl⟩
            · simp at hb
              subst hb
              exact ⟨fun hf=>by have:=hfz _ hf;omega,by omega,.inr (Nat.le_refl _)⟩
          | false =>
            exact ⟨Fz,[.slice (some ⟨w.heap.size,0,none⟩) 0 0],[],[],e1,fun _ h=>h,fun b hb=>⟨Nat.lt_of_lt_of_le (hfz b hb) k1,.inl hb⟩,k1,fun b hb _=>k2 b hb,⟨rfl,rfl⟩,hbk _,⟨[],[],⟨hrep _ _ ⟨_,rfl⟩,rfl⟩,rfl,rfl⟩,by simp,fun b hb=>by simp at hb⟩
    · cases hg
  · cases hg
theorem P5 : Sat Try.prog 88 (PZ 1 false):=Ik (by decide) PU PX MC ME
theorem P6 : Sat Try.prog 70 (PZ 3 true):=Ik (by decide) PW PY MF MG
end Go.Proofs.Ytdkkgecdhapfhaa.Kn
set_option maxRecDepth 100000
namespace Go.Proofs.Ytdkkgecdhapfhaa.Kn
open Go Go.Proofs Ev
theorem e14 : lX Try.prog 14 c14:=⟨Try.f14,_,⟨[3,32],[],[],[33,89]⟩,[⟨[0,1],[],[]⟩,⟨[0,1,5],[],[]⟩,⟨[0,1,5],[20202],[]⟩,⟨[0,1,5,9],[],[]⟩,⟨[0,1,5,18],[],[]⟩,⟨[4],[],[]⟩,⟨[0,1,5],[],[]⟩,⟨[4],[],[]⟩],[],by kernel_rfl,by kernel_rfl,rfl,eqs,by kernel_rfl,by kernel_rfl,by decide⟩
theorem e17 : lX Try.prog 17 c17:=⟨Try.f17,_,⟨[3,32],[],[],[33,89]⟩,[⟨[0,2],[],[]⟩,⟨[0,2,8],[],[]⟩,⟨[2],[],[]⟩,⟨[2],[],[]⟩],[],by kernel_rfl,by kernel_rfl,rfl,eqs,by kernel_rfl,by kernel_rfl,by decide⟩
theorem e20 : lX Try.prog 20 c20:=⟨Try.f20,_,⟨[3,32],[],[],[33,89]⟩,[⟨[1,3,5,6,7],[],[]⟩,⟨[3,5,6,7,9,10],[],[]⟩,⟨[3,5,6,7,9,10,19],[],[]⟩,⟨[3,6,7,9,10,11],[],[]⟩,⟨[3,6,7,9,10,11],[],[]⟩,⟨[3,6,7,9,10],[],[]⟩,⟨[6,7,8],[],[]⟩],[],by kernel_rfl,by kernel_rfl,rfl,eqs,by kernel_rfl,by kernel_rfl,by decide⟩
theorem e22 : lX Try.prog 22 Fx:=⟨Try.f22,_,⟨[3,32],[],[],[33,89]⟩,[⟨[2,3],[],[]⟩,⟨[4],[],[]⟩],[],by kernel_rfl,by kernel_rfl,rfl,eqs,by kernel_rfl,by kernel_rfl,by decide⟩
theorem e33 : lX Try.prog 33 Pf:=⟨Try.f33,_,⟨[3,32],[],[],[33,89]⟩,[⟨[0,3,4],[],[]⟩,⟨[0,3,4,5],[],[]⟩,⟨[0,3,4,5,6],[],[]⟩,⟨[0,3,4,5,6],[30201,80000,100000,120000],[]⟩,⟨[0,3,4,5,6,10],[],[]⟩,⟨[0,3,4,5,6,19],[],[]⟩,⟨[0,3,4,5,6],[],[]⟩,⟨[0,3,4,5,6],[],[]⟩,⟨[4],[],[]⟩],[],by kernel_rfl,by kernel_rfl,rfl,eqs,by kernel_rfl,by kernel_rfl,by decide⟩
theorem e34 : lX Try.prog 34 c34:=⟨Try.f34,_,⟨[3,32],[],[],[33,89]⟩,[⟨[0],[],[]⟩,⟨[0,3],[],[]⟩,⟨[0,3],[20202],[]⟩,⟨[0,3,8],[],[]⟩,⟨[0,3,4],[],[]⟩,⟨[0,3,4],[20202],[]⟩,⟨[0,3,4,13],[],[]⟩,⟨[0,3,4,24],[],[]⟩,⟨[2],[],[]⟩,⟨[0,3,4],[],[]⟩,⟨[0,3],[],[]⟩,⟨[2],[],[]⟩],[],by kernel_rfl,by kernel_rfl,rfl,eqs,by kernel_rfl,by kernel_rfl,by decide⟩
theorem e35 : lX Try.prog 35 c35:=⟨Try.f35,_,⟨[3,32],[],[],[33,89]⟩,[⟨[1],[],[]⟩,⟨[1,3],[],[]⟩,⟨[1,3],[20802,40000],[]⟩,⟨[1,3,8],[],[]⟩,⟨[1,3,23],[],[]⟩,⟨[2],[],[]⟩,⟨[1,3],[],[]⟩,⟨[2],[],[]⟩],[],by kernel_rfl,by kernel_rfl,rfl,eqs,by kernel_rfl,by kernel_rfl,by decide⟩
theorem e62 : lX Try.prog 62 c62:=⟨Try.f62,_,⟨[3,32],[],[],[33,89]⟩,[⟨[0,1],[],[]⟩,⟨[0,1,11],[],[]⟩,⟨[4],[],[]⟩,⟨[4],[],[]⟩],[],by kernel_rfl,by kernel_rfl,rfl,eqs,by kernel_rfl,by kernel_rfl,by decide⟩
theorem e66 : lX Try.prog 66 c66:=⟨Try.f66,_,⟨[3,32],[],[],[33,89]⟩,[⟨[0,1],[],[]⟩,⟨[0,6],[],[]⟩,⟨[4,5],[],[]⟩],[],by kernel_rfl,by kernel_rfl,rfl,eqs,by kernel_rfl,by kernel_rfl,by decide⟩
theorem e67 : lX Try.prog 67 c67:=⟨Try.f67,_,⟨[3,32],[7],[],[33,89]⟩,[⟨[0,3],[],[]⟩,⟨[4],[],[]⟩],[],by kernel_rfl,by kernel_rfl,rfl,eqs,by kernel_rfl,by kernel_rfl,by decide⟩
theorem e68 : lX Try.prog 68 c68:=⟨Try.f68,_,⟨[3,32],[],[],[33,89]⟩,[⟨[0,1],[],[]⟩,⟨[4],[],[]⟩],[],by kernel_rfl,by kernel_rfl,rfl,eqs,by kernel_rfl,by kernel_rfl,by decide⟩
theorem e69 : lX Try.prog 69 c69:=⟨Try.f69,_,⟨[3,32],[],[],[33,89]⟩,[⟨[0,3],[],[]⟩,⟨[4],[],[]⟩],[],by kernel_rfl,by kernel_rfl,rfl,eqs,by kernel_rfl,by kernel_rfl,by decide⟩
theorem e73 : lX Try.prog 73 c73:=⟨Try.f73,_,⟨[3,32],[],[],[33,89]⟩,[⟨[1],[],[]⟩,⟨[1,3],[],[]⟩,⟨[1,3,37],[],[]⟩,⟨[2],[],[]⟩,⟨[1,3,39,40,41],[],[]⟩,⟨[1,3,39,40,41],[20802,40000,80000],[]⟩,⟨[1,3,39,40,41,42],[],[]⟩,⟨[1,3,4,5,39,40,41],[],[]⟩,⟨[1,3,39,40,41,66],[],[]⟩,⟨[2],[],[]⟩,⟨[1,3,39,40,41],[],[]⟩,⟨[2],[],[]⟩],[],by kernel_rfl,by kernel_rfl,rfl,eqs,by kernel_rfl,by kernel_rfl,by decide⟩
theorem e86 : lX Try.prog 86 c86:=⟨Try.f86,_,⟨[3,32],[],[],[33,89]⟩,[⟨[0,1],[],[]⟩,⟨[4],[],[]⟩],[],by kernel_rfl,by kernel_rfl,rfl,eqs,by kernel_rfl,by kernel_rfl,by decide⟩
theorem e89 : lX Try.prog 89 c89:=⟨Try.f89,_,⟨[3,32],[41],[38],[33,89]⟩,[⟨[0,1],[],[]⟩,⟨[0,1,5],[],[]⟩,⟨[0,1,5,12],[],[]⟩,⟨[4],[],[]⟩,⟨[0,1,5,6],[],[]⟩,⟨[0,1,5,6],[20202],[]⟩,⟨[0,1,5,6,19],[],[]⟩,⟨[0,1,5,6,7],[],[]⟩,⟨[0,1,5,6,7,29],[],[]⟩,⟨[0,1,5,6],[],[]⟩,⟨[0,1,5,6],[],[]⟩,⟨[0,1,5,6],[],[]⟩,⟨[0,5],[],[]⟩,⟨[4],[],[]⟩],[],by kernel_rfl,by kernel_rfl,rfl,eqs,by kernel_rfl,by kernel_rfl,by decide⟩
theorem e90 : lX Try.prog 90 c90:=⟨Try.f90,_,⟨[3,32],[],[],[33,89]⟩,[⟨[1,2],[],[]⟩,⟨[3],[],[]⟩],[],by kernel_rfl,by kernel_rfl,rfl,eqs,by kernel_rfl,by kernel_rfl,by decide⟩
theorem e93 : lX Try.prog 93 c93:=⟨Try.f93,_,⟨[3,32],[],[],[33,89]⟩,[⟨[0,1],[],[]⟩,⟨[4],[],[]⟩],[],by kernel_rfl,by kernel_rfl,rfl,eqs,by kernel_rfl,by kernel_rfl,by decide⟩
theorem e96 : lX Try.prog 96 c96:=⟨Try.f96,_,⟨[3,32],[],[],[33,89]⟩,[⟨[0,1],[],[]⟩,⟨[4],[],[]⟩],[],by kernel_rfl,by kernel_rfl,rfl,eqs,by kernel_rfl,by kernel_rfl,by decide⟩
theorem e108 : lX Try.prog 108 Pg:=⟨Try.f108,_,⟨[3,32],[],[],[33,89]⟩,[⟨[0,1],[],[]⟩,⟨[0,1,7,8],[],[]⟩,⟨[0,1,7,8],[20202],[]⟩,⟨[0,1,7,8,9],[],[]⟩,⟨[0,1,5,7,8],[],[]⟩,⟨[0,1,5,7,8,16],[],[]⟩,⟨[4],[],[]⟩,⟨[0,1,7,8],[],[]⟩,⟨[4],[],[]⟩],[],by kernel_rfl,by kernel_rfl,rfl,eqs,by kernel_rfl,by kernel_rfl,by decide⟩
theorem afa : lX Try.prog 114 Ph:=⟨Try.f114,_,⟨[3,32],[],[],[33,89]⟩,[⟨[0,1],[],[]⟩,⟨[0,1,7,8],[],[]⟩,⟨[0,1,7,8],[20202],[]⟩,⟨[0,1,7,8,9],[],[]⟩,⟨[0,1,5,7,8],[],[]⟩,⟨[0,1,5,7,8,16],[],[]⟩,⟨[4],[],[]⟩,⟨[0,1,7,8],[],[]⟩,⟨[4],[],[]⟩],[],by kernel_rfl,by kernel_rfl,rfl,eqs,by kernel_rfl,by kernel_rfl,by decide⟩
theorem e9 : lX Try.prog 9 c9:=⟨Try.f9,_,⟨[3,32],[],[],[33,89]⟩,[⟨[0,1],[],[]⟩,⟨[0,1,23],[],[]⟩,⟨[4],[],[]⟩,⟨[0,1,5],[],[]⟩,⟨[1,5,6],[],[]⟩,⟨[1,5,6,34],[],[]⟩,⟨[4],[],[]⟩,⟨[1,5,6,7],[],[]⟩,⟨[1,5,6,7],[40202,140000,540200,540204,540206,580400,1600400,2660400],[]⟩,⟨[1,5,6,7,38],[],[]⟩,⟨[1,5,6,7,8],[],[]⟩,⟨[1,5,6,7,8,9,10],[],[]⟩,⟨[1,5,6,7,8,9,10,11,12],[],[]⟩,⟨[1,5,6,7,8,64],[],[]⟩,⟨[4],[],[]⟩,⟨[1,5,6,7,8,66],[],[]⟩,⟨[1,5,6,7,8,66,67],[],[]⟩,⟨[1,5,6,7,8,13,14],[],[]⟩,⟨[1,5,6,7,8,14],[],[]⟩,⟨[1,5,6,7,94],[],[]⟩,⟨[4],[],[]⟩,⟨[1,5,6,7,8,66,95],[],[]⟩,⟨[1,5,6,7,8,15,16],[],[]⟩,⟨[1,5,6,7,15,16,17,18],[],[]⟩,⟨[1,5,6,7,124],[],[]⟩,⟨[4],[],[]⟩,⟨[1,5,6,7,8,125],[],[]⟩,⟨[1,5,6,7,8,19,20],[],[]⟩,⟨[1,5,6,7,8,20],[],[]⟩,⟨[1,5,6,7,142],[],[]⟩,⟨[4],[],[]⟩,⟨[1,5,6,7,155],[40202,140000,540200,540204,540206,580400,1600400,2660400],[]⟩,⟨[4],[],[]⟩,⟨[1,5,6,7],[],[]⟩,⟨[4],[],[]⟩],[],by kernel_rfl,by kernel_rfl,rfl,eqs,by kernel_rfl,by kernel_rfl,by decide⟩
theorem e10 : lX Try.prog 10 c10:=⟨Try.f10,_,⟨[3,32],[],[],[33,89]⟩,[⟨[0,1,2],[],[]⟩,⟨[0,1,2,27],[],[]⟩,⟨[6],[],[]⟩,⟨[0,1,2,7],[],[]⟩,⟨[0,1,2,7,32],[],[]⟩,⟨[6],[],[]⟩,⟨[0,1,2,7,8],[],[]⟩,⟨[0,1,2,7,8],[40202,620200,620204,620206],[]⟩,⟨[0,1,2,7,8,36],[],[]⟩,⟨[0,1,2,7,8,9],[],[]⟩,⟨[0,1,2,7,8,9,53],[],[]⟩,⟨[0,1,2,7,8,9,10,11],[],[]⟩,⟨[0,1,2,7,8,9,10,11,12,13],[],[]⟩,⟨[0,1,2,7,8,9,103],[],[]⟩,⟨[6],[],[]⟩,⟨[0,1,2,7,8,9,105],[],[]⟩,⟨[0,1,2,7,8,9,14],[],[]⟩,⟨[0,1,2,7,8,9,14],[],[]⟩,⟨[0,1,2,7,8,15,16],[],[]⟩,⟨[0,1,2,7,8,130],[],[]⟩,⟨[6],[],[]⟩,⟨[0,1,2,7,8,141],[],[]⟩,⟨[6],[],[]⟩,⟨[0,1,2,7,8],[],[]⟩,⟨[6],[],[]⟩],[],by kernel_rfl,by kernel_rfl,rfl,eqs,by kernel_rfl,by kernel_rfl,by decide⟩
theorem e11 : lX Try.prog 11 c11:=⟨Try.f11,_,⟨[3,32],[],[],[33,89]⟩,[⟨[1],[],[]⟩,⟨[1,9],[],[]⟩,⟨[2],[],[]⟩,⟨[1,3],[],[]⟩,⟨[1,3,4,5],[],[]⟩,⟨[2],[],[]⟩],[],by kernel_rfl,by kernel_rfl,rfl,eqs,by kernel_rfl,by kernel_rfl,by decide⟩
theorem e12 : lX Try.prog 12 c12:=⟨Try.f12,_,⟨[3,32],[],[],[33,89]⟩,[⟨[0,2,4],[],[]⟩,⟨[0,2,4,29],[],[]⟩,⟨[6],[],[]⟩,⟨[0,2,4,7],[],[]⟩,⟨[0,2,4,7,33],[],[]⟩,⟨[6],[],[]⟩,⟨[0,2,4,7,8],[],[]⟩,⟨[0,2,4,7,8],[20202,100000,640200,640204,640206],[]⟩,⟨[0,2,4,7,8,37],[],[]⟩,⟨[0,2,4,7,8],[],[]⟩,⟨[0,2,4,7,8],[],[]⟩,⟨[2,4,7,9,10],[],[]⟩,⟨[2,9,10,11,12],[],[]⟩,⟨[2,9,10,11,12,88],[],[]⟩,⟨[6],[],[]⟩,⟨[2,9,10,11,12,95],[],[]⟩,⟨[6],[],[]⟩,⟨[6],[],[]⟩],[],by kernel_rfl,by kernel_rfl,rfl,eqs,by kernel_rfl,by kernel_rfl,by decide⟩
theorem e13 : lX Try.prog 13 c13:=⟨Try.f13,_,⟨[3,32],[],[],[33,89]⟩,[⟨[0,1,5],[],[]⟩,⟨[0,1,5,29],[],[]⟩,⟨[6],[],[]⟩,⟨[0,1,5,7],[],[]⟩,⟨[0,1,5,7,33],[],[]⟩,⟨[6],[],[]⟩,⟨[0,1,5,7,8],[],[]⟩,⟨[0,1,5,7,8,9],[],[]⟩,⟨[0,1,5,7,8,9],[20202,120000,640200,640204,640206],[]⟩,⟨[0,1,5,7,8,9,37],[],[]⟩,⟨[0,1,5,7,8,9],[],[]⟩,⟨[0,1,5,7,8,9],[],[]⟩,⟨[0,1,5,7,8,9],[],[]⟩,⟨[1,5,7,8,10,11],[],[]⟩,⟨[1,5,7,8,10,11,12],[],[]⟩,⟨[1,5,7,8,10,11,12,13],[],[]⟩,⟨[1,5,7,10,11,12,13,14,15],[],[]⟩,⟨[1,5,10,11,14,15,99],[],[]⟩,⟨[6],[],[]⟩,⟨[10,11,14,15,103],[],[]⟩,⟨[6],[],[]⟩,⟨[6],[],[]⟩],[],by kernel_rfl,by kernel_rfl,rfl,eqs,by kernel_rfl,by kernel_rfl,by decide⟩
theorem e37 : lX Try.prog 37 c37:=⟨Try.f37,_,⟨[3,32],[],[],[33,89]⟩,[⟨[0,1],[],[]⟩,⟨[0,1,5],[],[]⟩,⟨[0,1,5],[20202],[]⟩,⟨[0,1,5,9],[],[]⟩,⟨[0,1,5,28],[],[]⟩,⟨[4],[],[]⟩,⟨[0,1,5],[],[]⟩,⟨[4],[],[]⟩],[],by kernel_rfl,by kernel_rfl,rfl,eqs,by kernel_rfl,by kernel_rfl,by decide⟩
theorem e38 : lX Try.prog 38 Eh:=⟨Try.f38,_,⟨[3,32],[],[],[33,89]⟩,[⟨[],[],[]⟩,⟨[1],[],[]⟩,⟨[1,22],[],[]⟩,⟨[0],[],[]⟩,⟨[1,2],[],[]⟩,⟨[1,2,3],[],[]⟩,⟨[1,2,3,4,5],[],[]⟩,⟨[1,2,3,4,5,7],[],[]⟩,⟨[1,2,3,4,5,7,8],[],[]⟩,⟨[1,2,3,4,5,7,8,9,10],[],[]⟩,⟨[1,2,3,4,5,7,8,9,10,12],[],[]⟩,⟨[1,2,3,4,5,7,8,9,10,12,13],[],[]⟩,⟨[1,2,4,5,7,8,9,10,12,13,14,15],[],[]⟩,⟨[0],[861600,1181600],[]⟩],[],by kernel_rfl,by kernel_rfl,rfl,eqs,by kernel_rfl,by kernel_rfl,by decide⟩
theorem e39 : lX Try.prog 39 N8:=⟨Try.f39,_,⟨[3,32],[],[],[33,89]⟩,[⟨[0],[],[]⟩,⟨[0,8],[],[]⟩,⟨[2],[],[]⟩,⟨[2],[],[]⟩],[],by kernel_rfl,by kernel_rfl,rfl,eqs,by kernel_rfl,by kernel_rfl,by decide⟩
theorem e40 : lX Try.prog 40 c40:=⟨Try.f40,_,⟨[3,32],[],[],[33,89]⟩,[⟨[0,2],[],[]⟩,⟨[0,2,8],[],[]⟩,⟨[2],[],[]⟩,⟨[2],[],[]⟩],[],by kernel_rfl,by kernel_rfl,rfl,eqs,by kernel_rfl,by kernel_rfl,by decide⟩
theorem e41 : lX Try.prog 41 KI:=⟨Try.f41,_,⟨[3,32],[],[],[33,89]⟩,[⟨[1],[],[]⟩,⟨[1,15],[],[]⟩,⟨[2,3],[],[]⟩,⟨[1,4],[],[]⟩,⟨[1,5],[],[]⟩,⟨[2,3],[],[]⟩],[],by kernel_rfl,by kernel_rfl,rfl,eqs,by kernel_rfl,by kernel_rfl,by decide⟩
theorem e44 : lX Try.prog 44 Av:=⟨Try.f44,_,⟨[3,32],[],[],[33,89]⟩,[⟨[0,1,3,7,9],[],[]⟩,⟨[0,1,3,7,9,11,12],[],[]⟩,⟨[0,1,3,7,9,12,13],[],[]⟩,⟨[0,1,3,7,9,13,26],[],[]⟩,⟨[10],[],[]⟩,⟨[0,3,7,9,13,42],[],[]⟩,⟨[10],[],[]⟩,⟨[0,3,7,9,13,47],[],[]⟩,⟨[0,3,7,9,13],[],[]⟩,⟨[0,7],[],[]⟩,⟨[0,14,15],[],[]⟩,⟨[0,14,75,76,77],[],[]⟩,⟨[0,14,75,76,77],[20201,20205,20208,1460200,1462200],[]⟩,⟨[0,14,75,76,77,78],[],[]⟩,⟨[0,14,17,75,76,77],[],[]⟩,⟨[0,14,75,76,77],[],[]⟩,⟨[0,14,75,76,77],[],[]⟩,⟨[0],[],[]⟩,⟨[],[],[]⟩,⟨[10],[],[]⟩],[],by kernel_rfl,by kernel_rfl,rfl,eqs,by kernel_rfl,by kernel_rfl,by decide⟩
theorem e45 : lX Try.prog 45 Sv:=⟨Try.f45,_,⟨[3,32],[],[],[33,89]⟩,[⟨[1,3,5,6],[],[]⟩,⟨[1,3,5,6,8,9],[],[]⟩,⟨[1,3,5,6,8,21],[],[]⟩,⟨[6,7],[],[]⟩,⟨[6,7],[],[]⟩],[],by kernel_rfl,by kernel_rfl,rfl,eqs,by kernel_rfl,by kernel_rfl,by decide⟩
theorem e46 : lX Try.prog 46 c46:=⟨Try.f46,_,⟨[3,32],[],[],[33,89]⟩,[⟨[0,1,5,6],[],[]⟩,⟨[0,1,5,6,13],[],[]⟩,⟨[6,7],[],[]⟩,⟨[0,1,6,18,19,20],[],[]⟩,⟨[0,1,6,18,19,20],[20201,20205,20208,140000,380000,841600],[]⟩,⟨[0,1,6,18,19,20,21],[],[]⟩,⟨[0,1,6,9,18,19,20],[],[]⟩,⟨[0,1,6,10,11,18,19,20],[],[]⟩,⟨[0,1,6,10,18,19,20,39],[],[]⟩,⟨[6,7],[],[]⟩,⟨[0,1,6,18,19,20],[],[]⟩,⟨[6,7],[],[]⟩],[],by kernel_rfl,by kernel_rfl,rfl,eqs,by kernel_rfl,by kernel_rfl,by decide⟩
theorem e47 : lX Try.prog 47 U9:=⟨Try.f47,_,⟨[3,32],[],[],[33,89]⟩,[⟨[2,3],[],[]⟩,⟨[4],[],[]⟩],[],by kernel_rfl,by kernel_rfl,rfl,eqs,by kernel_rfl,by kernel_rfl,by decide⟩
theorem e48 : lX Try.prog 48 Sw:=⟨Try.f48,_,⟨[3,32],[],[],[33,89]⟩,[⟨[1,2],[],[]⟩,⟨[2],[],[]⟩],[],by kernel_rfl,by kernel_rfl,rfl,eqs,by kernel_rfl,by kernel_rfl,by decide⟩
theorem e49 : lX Try.prog 49 c49:=⟨Try.f49,_,⟨[3,32],[],[],[33,89]⟩,[⟨[1,2,4],[],[]⟩,⟨[1,2,4,6],[],[]⟩,⟨[1,2,4,6,7],[],[]⟩,⟨[1,2,4,6,7],[20402,60000,100000,140000],[(6,10)]⟩,⟨[1,2,4,6,7,13],[],[]⟩,⟨[1,2,4,6,7,24],[],[]⟩,⟨[1,2,4,6,7],[],[]⟩,⟨[1,2,4,6,7],[],[]⟩,⟨[2,4,6,8],[],[]⟩,⟨[2,4,8],[],[]⟩,⟨[2,4,8,42],[],[]⟩,⟨[2,4,8],[],[]⟩,⟨[4,5],[],[]⟩],[],by kernel_rfl,by kernel_rfl,rfl,eqs,by kernel_rfl,by kernel_rfl,by decide⟩
theorem e51 : lX Try.prog 51 c51:=⟨Try.f51,_,⟨[3,32],[],[],[33,89]⟩,[⟨[0],[],[]⟩,⟨[0,4],[],[]⟩,⟨[2],[],[]⟩,⟨[2],[],[]⟩],[],by kernel_rfl,by kernel_rfl,rfl,eqs,by kernel_rfl,by kernel_rfl,by decide⟩
theorem e53 : lX Try.prog 53 c53:=⟨Try.f53,_,⟨[3,32],[],[],[33,89]⟩,[⟨[0],[],[]⟩,⟨[0,4],[],[]⟩,⟨[2],[],[]⟩,⟨[2],[],[]⟩],[],by kernel_rfl,by kernel_rfl,rfl,eqs,by kernel_rfl,by kernel_rfl,by decide⟩
theorem e54 : lX Try.prog 54 c54:=⟨Try.f54,_,⟨[3,32],[],[],[33,89]⟩,[⟨[1,2],[],[]⟩,⟨[1,2,4],[],[]⟩,⟨[2],[],[]⟩,⟨[2],[],[]⟩],[],by kernel_rfl,by kernel_rfl,rfl,eqs,by kernel_rfl,by kernel_rfl,by decide⟩
theorem e72 : lX Try.prog 72 c72:=⟨Try.f72,_,⟨[3,32],[],[],[33,89]⟩,[⟨[0,2],[],[]⟩,⟨[2],[],[]⟩],[],by kernel_rfl,by kernel_rfl,rfl,eqs,by kernel_rfl,by kernel_rfl,by decide⟩
theorem e78 : lX Try.prog 78 c78:=⟨Try.f78,_,⟨[3,32],[],[],[33,89]⟩,[⟨[1],[],[]⟩,⟨[2],[],[]⟩],[],by kernel_rfl,by kernel_rfl,rfl,eqs,by kernel_rfl,by kernel_rfl,by decide⟩
theorem e79 : lX Try.prog 79 c79:=⟨Try.f79,_,⟨[3,32],[],[],[33,89]⟩,[⟨[1,2],[],[]⟩,⟨[1,2],[],[]⟩,⟨[2],[],[]⟩],[],by kernel_rfl,by kernel_rfl,rfl,eqs,by kernel_rfl,by kernel_rfl,by decide⟩
theorem e80 : lX Try.prog 80 c80:=⟨Try.f80,_,⟨[3,32],[],[],[33,89]⟩,[⟨[1,2],[],[]⟩,⟨[1,2],[],[]⟩,⟨[2],[],[]⟩],[],by kernel_rfl,by kernel_rfl,rfl,eqs,by kernel_rfl,by kernel_rfl,by decide⟩
theorem ents : ∀ p ∈ yx,lX Try.prog p.1 p.2:=List.forall_mem_cons.2 ⟨e14,List.forall_mem_cons.2 ⟨e17,List.forall_mem_cons.2 ⟨e20,List.forall_mem_cons.2 ⟨e22,List.forall_mem_cons.2 ⟨e33,List.forall_mem_cons.2 ⟨e34,List.forall_mem_cons.2 ⟨e35,List.forall_mem_cons.2 ⟨e62,List.forall_mem_cons.2 ⟨e66,List.forall_mem_cons.2 ⟨e67,List.forall_mem_cons.2 ⟨e68,List.forall_mem_cons.2 ⟨e69,List.forall_mem_cons.2 ⟨e73,List.forall_mem_cons.2 ⟨e86,List.forall_mem_cons.2 ⟨e89,List.forall_mem_cons.2 ⟨e90,List.forall_mem_cons.2 ⟨e93,List.forall_mem_cons.2 ⟨e96,List.forall_mem_cons.2 ⟨e108,List.forall_mem_cons.2 ⟨afa,List.forall_mem_cons.2 ⟨e9,List.forall_mem_cons.2 ⟨e10,List.forall_mem_cons.2 ⟨e11,List.forall_mem_cons.2 ⟨e12,List.forall_mem_cons.2 ⟨e13,List.forall_mem_cons.2 ⟨e37,List.forall_mem_cons.2 ⟨e38,List.forall_mem_cons.2 ⟨e39,List.forall_mem_cons.2 ⟨e40,List.forall_mem_cons.2 ⟨e41,List.forall_mem_cons.2 ⟨e44,List.forall_mem_cons.2 ⟨e45,List.forall_mem_cons.2 ⟨e46,List.forall_mem_cons.2 ⟨e47,List.forall_mem_cons.2 ⟨e48,List.forall_mem_cons.2 ⟨e49,List.forall_mem_cons.2 ⟨e51,List.forall_mem_cons.2 ⟨e53,List.forall_mem_cons.2 ⟨e54,List.forall_mem_cons.2 ⟨e72,List.forall_mem_cons.2 ⟨e78,List.forall_mem_cons.2 ⟨e79,List.forall_mem_cons.2 ⟨e80,fun _ h=>nomatch h⟩⟩⟩⟩⟩⟩⟩⟩⟩⟩⟩⟩⟩⟩⟩⟩⟩⟩⟩⟩⟩⟩⟩⟩⟩⟩⟩⟩⟩⟩⟩⟩⟩⟩⟩⟩⟩⟩⟩⟩⟩⟩⟩
end Go.Proofs.Ytdkkgecdhapfhaa.Kn
set_option maxRecDepth 100000
namespace Go.Proofs.Ytdkkgecdhapfhaa.Kn
open Go Go.RowKit Go.Proofs Ev
set_option maxHeartbeats 2000000 in
theorem MH (b:Nat) (es:Array MapEntry) (clock:Nat) (w:World) (hb:w.heap[b]? = some (.map es clock)):Calls Try.prog 82 #[.map (some b)] w fun e w'=>e = .returned (.map (some w.heap.size)) ∧ w' = w.alloc (.map es clock):=by
  have hq:=fun w=>run_eql_map_nil_sl (P:=Try.prog) w 120 _ _ (some b) Try.underlying120
  go_enter Try.func82,Try.ntmps82
  go_wp2
  rw [run_callFunc_extern Try.func103 (by kernel_rfl) (by kernel_rfl) (by kernel_rfl) (e:=Extern.MapsClone.clone) (by kernel_rfl),run_maps_clone_sl w 120 hb]
  simp only [Result.andThen]
  rw [Oper.upon_value]
  go_wp2
  rw [run_typeAssert_map_sl _ 120 _ _ _ _ Try.underlying120]
  simp only [Result.andThen]
  rw [Oper.upon_value]
  go_wp2
  go_ret
  exact ⟨rfl,rfl⟩
def gMC (fZ:List AV):Option (List AV × List AV):=match fZ with
  | [.one (.mp sh l)]=>some ([.one (.mp sh l)],[.one (.mp sh l)])
  | _=>none
theorem P7 : Sat Try.prog 82 gMC:=by
  intro fZ rs rU hg Fz w vals bs ha hnd hap hfz
  unfold gMC at hg
  split at hg
  · rename_i sh l
    cases hg
    match vals,ha with
    | [v],⟨b1,b2,h1,h2,e0⟩ =>
      obtain ⟨b,rfl,⟨m,hAt,hRE,hk⟩,rfl⟩:=h1
      obtain rfl:b2 = []:=h2
      subst e0
      obtain ⟨es,clock,m0,m1,m2,m3⟩:=hAt.ex
      refine (MH b es clock w m0).mono fun e' w' ⟨e1,e2⟩=>?_
      subst e2
      obtain ⟨k1,k2,k3,k4⟩:=yO w (.map es clock)
      have hb:=hap b (by simp)
      have hre:iA Fz (w.alloc (.map es clock)) l m:=iA.mono (fun _ h=>h) (fun x hx=>k2 x (hfz x hx)) _ _ hRE
      refine ⟨Fz,[.map (some w.heap.size)],[b],[w.heap.size],e1,fun _ h=>h,fun x hx=>⟨Nat.lt_of_lt_of_le (hfz x hx) k1,.inl hx⟩,k1,fun x hx _=>k2 x hx,⟨rfl,rfl⟩,⟨[b],[],⟨b,rfl,⟨m,hAt.move (k2 b hb.2),hre,hk⟩,rfl⟩,rfl,rfl⟩,⟨[w.heap.size],[],⟨w.heap.size,rfl,⟨m,⟨⟨es,clock,k3,m1,m2,m3⟩⟩,hre,hk⟩,rfl⟩,rfl,rfl⟩,?_,fun x hx=>?_⟩
      · simp only [List.cons_append,List.nil_append,List.nodup_cons,List.mem_singleton,List.not_mem_nil,not_false_eq_true,List.nodup_nil,and_true]
        omega
      · simp only [List.cons_append,List.nil_append,List.mem_cons,List.not_mem_nil,or_false] at hx
        rcases hx with rfl | rfl
        · exact ⟨hb.1,by omega,.inl (by simp)⟩
        · exact ⟨fun hf=>by have:=hfz _ hf;omega,by omega,.inr (Nat.le_refl _)⟩
  · cases hg
theorem MI {ext:Env} (h1:iF Try.prog ext) (h2:eB Try.prog ext) (F n:Nat):Sat Try.prog 50 (Vm ext F n):=by
  obtain ⟨g1,g2⟩:=LP (yx:=yx) (F:=F) mixed ents h1 h2 n
  have hf:Try.prog.funcs[50]? = some Try.f50:=by kernel_rfl
  exact Gh (X:=⟨[3,32],[],[],[33,89]⟩) (ha:=[⟨[0,1],[],[]⟩,⟨[0,1,9],[],[]⟩,⟨[4],[],[]⟩,⟨[0,1,5],[],[]⟩]) (hb:=[⟨[0,1,5,6,20,28],[],[]⟩,⟨[0,1,5,6,20],[],[]⟩,⟨[0,1,5,20],[],[]⟩]) (hc:=[⟨[0,7],[],[]⟩,⟨[0,7,51],[],[]⟩,⟨[7],[],[]⟩,⟨[4],[],[]⟩]) (ra:=[]) (rb:=[]) (rc:=[]) (ca:=rA) (cb:=rB) (cc:=rC) (g4:=rG4) (g6:=Vl) (cf:=cDr) mixed eqs g1 g2 hf rfl rfl rfl Try.underlying120 (by kernel_rfl) (by kernel_rfl) (by kernel_rfl) (by kernel_rfl) (by kernel_rfl) (by kernel_rfl) (by decide) (by decide) (by decide) (by decide) (by decide) (by decide) F
end Go.Proofs.Ytdkkgecdhapfhaa.Kn

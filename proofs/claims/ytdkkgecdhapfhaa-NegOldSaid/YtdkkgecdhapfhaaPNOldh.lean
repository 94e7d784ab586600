/- A part of the proof of NegOld: cut, joined and given short names by a program of this session (wip/tools/pack.py); Lean checks it. No condition. -/
import Derived.Test.YtdkkgecdhapfhaaPNOldg
import Derived.Test.YtdkkgecdhapfhaaPNOldf
import Derived.Below
import Derived.Defers
import Derived.Maps.RangeRun
import Derived.Test.YtdkkgecdhapfhaaPNOldd
import Derived.Laws.StructEq
import Derived.Test.YtdkkgecdhapfhaaProg
import Derived.WalkKit
import Derived.Shelf.SlMaps.Clone
set_option linter.unusedSectionVars false
set_option linter.unusedSimpArgs false
set_option linter.unusedVariables false
set_option maxRecDepth 4000
namespace Go.Proofs.Ytdkkgecdhapfhaa.Kn
open Go Ev
variable {ext : Env} {F n:Nat}
theorem Sb {α:Type} {body:St → Option (Out × St)} {rs:St → St} {k:Out × St → Prop} {u:Tok k} {F:Nat} {σ:St} (N:Nat) (T:α → St) (P:Nat → α → Prop) (hF:N < F) (x:α) (hs:rs σ = T x) (h0:P 0 x)
    (step:∀ i x,i < N → P i x → W (fun p=>match p.1 with
      | .ji=>∃ y,rs p.2 = T y ∧ P (i + 1) y
      | o=>k (o,p.2)) ⟨⟩ (body (T x)))
    (last:∀ x,P N x → W (fun p=>match p.1 with
      | .ji=>False
      | o=>k (o,p.2)) ⟨⟩ (body (T x))):W k u (iter body rs F σ):=by
  refine BQ (fun m σ=>∃ i x,i ≤ N ∧ m = N - i ∧ rs σ = T x ∧ P i x) ?_ F N σ hF ⟨0,x,Nat.zero_le _,rfl,hs,h0⟩
  rintro m σ ⟨i,x,hi,rfl,hr,hP⟩
  rw [hr]
  by_cases hlt:i < N
  · refine uY (step i x hlt hP) fun p hp=>?_
    obtain ⟨o,s⟩:=p
    cases o with
    | ji =>
      obtain ⟨y,h1,h2⟩:=hp
      exact ⟨N - (i + 1),by omega,i + 1,y,by omega,rfl,h1,h2⟩
    | ext j=>exact hp
    | ret=>exact hp
  · have:i = N:=by omega
    subst this
    refine uY (last x hP) fun p hp=>?_
    obtain ⟨o,s⟩:=p
    cases o with
    | ji=>exact hp.elim
    | ext j=>exact hp
    | ret=>exact hp
abbrev Qn.f (k:Qn):List FV:=[.str k.q,.int .i64 k.t,.int .i64 k.c]
abbrev fnQ (k:Qn):AV:=.one (.fn 90 [k.f])
theorem LH (x k:Qn):G ext F (n + 1) 90 [vq x.q x.t x.c,.one (.fp k.f)] = some ([vb (decide (x = k))],[vq x.q x.t x.c,.one (.fp k.f)]):=by
  refine iF (cf:=c90) rfl ?_
  simp only [c90,go_sem,Nat.reduceAdd,Nat.reduceMul,Nat.reduceEqDiff,Nat.reduceBEq,Nat.reduceMod,Nat.reduceDiv,↓reduceIte,reduceCtorEq]
  cases x;cases k;simp
def Sc (l:List Qn) (k:Qn):Int:=match l.findIdx? fun x=>decide (x = k) with | some i=>i | none=>-1
theorem UQ {l:List Qn} {k:Qn} (h:∀ x ∈ l,x ≠ k):Sc l k = -1:=by
  have:l.findIdx? (fun x=>decide (x = k)) = none:=List.findIdx?_eq_none_iff.mpr fun x hx=>by simpa using h x hx
  simp [Sc,this]
theorem UR {l:List Qn} {k:Qn} {i:Nat} {x:Qn} (h:∀ x ∈ l.take i,x ≠ k) (hx:l[i]? = some x) (hk:x = k):Sc l k = i:=by
  have hi:=(List.getElem?_eq_some_iff.mp hx)
  have:l.findIdx? (fun x=>decide (x = k)) = some i:=by
    refine List.findIdx?_eq_some_iff_getElem.mpr ⟨hi.1,by simp [hi.2,hk],fun j hj=>?_⟩
    have:=h (l[j]'(by have:=hi.1;omega)) (by rw [List.mem_take_iff_getElem];exact ⟨j,by have:=hi.1;omega,rfl⟩)
    simpa using this
  simp [Sc,this]
theorem UU (l:List Qn) (k:Qn):(Sc l k = -1 ∧ ∀ x ∈ l,x ≠ k) ∨ ∃ (i:Nat),Sc l k = (i:Int) ∧ ∃ h:i < l.length,(∀ x ∈ l.take i,x ≠ k) ∧ l[i] = k:=by
  have hp:Sc l k = match l.findIdx? fun x=>decide (x = k) with | some i=>(i:Int) | none=>-1:=rfl
  cases h:l.findIdx? fun x=>decide (x = k) with
  | none =>
    rw [h] at hp
    exact .inl ⟨hp,fun x hx=>by simpa using List.findIdx?_eq_none_iff.mp h x hx⟩
  | some i =>
    rw [h] at hp
    obtain ⟨hi,hx,hb⟩:=List.findIdx?_eq_some_iff_getElem.mp h
    refine .inr ⟨i,hp,hi,fun x hx=>?_,by simpa using hx⟩
    obtain ⟨j,hj,rfl⟩:=List.mem_take_iff_getElem.mp hx
    have:=hb j (by omega)
    simpa using this
theorem BR (l:List Qn) (k:Qn) (hl:l.length ≤ 1000000000000) (hF:200000000000001 ≤ F):G ext F (n + 2) 108 [vl (l.map rQ),fnQ k] = some ([vi (Sc l k)],[vl (l.map rQ),fnQ k]):=by
  refine iF (cf:=OW) rfl ?_
  simp only [OW,go_sem,Nat.reduceAdd,Nat.reduceMul,Nat.reduceEqDiff,Nat.reduceBEq,Nat.reduceMod,Nat.reduceDiv,↓reduceIte,reduceCtorEq]
  refine uZ l.length (fun i=>⟨[(0,PV.c (CV.one (PL.f (FV.sl (l.map rQ))))),(1,PV.c (CV.one (PL.fn 90 [k.f]))),(7,PV.c (CV.one (PL.f (FV.int .i64 (l.map rQ).length)))),(8,PV.c (CV.one (PL.f (FV.int .i64 i))))],[]⟩) (fun i=>∀ x ∈ l.take i,x ≠ k) (by omega) rfl (by simp) (fun i hi hP=>?_) (fun hP=>?_)
  · obtain ⟨x,hx,hd,ht,h0⟩:=at_ hi
    have hn:=nx hi (Nat.le_trans hl (by decide))
    have hq:=fun n=>LH (ext:=ext) (F:=F) (n:=n) x k
    simp only [List.length_map,List.getElem?_map,hd,hx,ht,h0,rQ,hq,go_sem,Nat.reduceAdd,Nat.reduceMul,Nat.reduceEqDiff,Nat.reduceBEq,Nat.reduceMod,Nat.reduceDiv,↓reduceIte,reduceCtorEq]
    repeat' (refine fC (fun h=>?_) (fun h=>?_) <;> simp only [h,List.length_map,List.getElem?_map,hd,hx,ht,h0,hn,rQ,hq,go_sem,Nat.reduceAdd,Nat.reduceMul,Nat.reduceEqDiff,Nat.reduceBEq,Nat.reduceMod,Nat.reduceDiv,↓reduceIte,reduceCtorEq])
    · rw [UR hP hx (by simpa using h)]
    · exact all_succ hP hx (by simpa using h)
  · have hd:=@end_ _ l
    simp only [List.length_map,hd,go_sem,Nat.reduceAdd,Nat.reduceMul,Nat.reduceEqDiff,Nat.reduceBEq,Nat.reduceMod,Nat.reduceDiv,↓reduceIte,reduceCtorEq]
    repeat' (refine fC (fun h=>?_) (fun h=>?_) <;> simp only [h,List.length_map,hd,go_sem,Nat.reduceAdd,Nat.reduceMul,Nat.reduceEqDiff,Nat.reduceBEq,Nat.reduceMod,Nat.reduceDiv,↓reduceIte,reduceCtorEq])
    rw [List.take_length] at hP
    rw [UQ hP]
theorem O4 {l:List Qn} {k x:Qn} {i:Nat} (h:l[i]? = some x):(l.take (i + 1)).filter (fun y=>decide (y ≠ k)) = (l.take i).filter (fun y=>decide (y ≠ k)) ++ if x = k then [] else [x]:=by
  rw [List.take_add_one,List.filter_append,h]
  by_cases hx:x = k <;> simp [hx]
theorem zF (l:List Qn) (k:Qn) (hl:l.length ≤ 1000000000000) (hF:200000000000001 ≤ F):G ext F (n + 3) 89 [.one (.own 3 (l.map rQ)),fnQ k] = some ([.one (.own 3 ((l.filter fun x=>decide (x ≠ k)).map rQ))],[.one .any,fnQ k]):=by
  refine iF (cf:=c89) rfl ?_
  have h1:=fun n=>BR (ext:=ext) (F:=F) (n:=n) l k hl hF
  simp only [c89,h1,go_sem,Nat.reduceAdd,Nat.reduceMul,Nat.reduceEqDiff,Nat.reduceBEq,Nat.reduceMod,Nat.reduceDiv,↓reduceIte,reduceCtorEq]
  rcases UU l k with ⟨hp,hno⟩ | ⟨i0,hp,hi0,hpre,hat⟩
  · rw [hp]
    simp only [show decide ((-1:Int) = -1) = true from rfl,go_sem,Nat.reduceAdd,Nat.reduceMul,Nat.reduceEqDiff,Nat.reduceBEq,Nat.reduceMod,Nat.reduceDiv,↓reduceIte,reduceCtorEq]
    rw [List.filter_eq_self.mpr (fun x hx=>by simpa using hno x hx)]
  · rw [hp]
    have hne:decide ((i0:Int) = -1) = false:=by simp
    simp only [hne,nx hi0 (Nat.le_trans hl (by decide)),List.length_map,go_sem,Nat.reduceAdd,Nat.reduceMul,Nat.reduceEqDiff,Nat.reduceBEq,Nat.reduceMod,Nat.reduceDiv,↓reduceIte,reduceCtorEq]
    refine Sb (l.length - (i0 + 1)) (fun x:List Qn × Nat × Nat=>⟨[(0,PV.c (CV.one (PL.own 20202 x.1.length))),(1,PV.c (CV.one (PL.fn 90 [k.f]))),(5,PV.c (CV.one (PL.f (FV.int IntKind.i64 x.2.1)))),(6,PV.c (CV.one (PL.f (FV.int IntKind.i64 x.2.2))))],[(20202,Ob.row 3 (x.1.map rQ))]⟩) (fun r x=>x.2.2 = i0 + 1 + r ∧ x.2.1 < x.2.2 ∧ x.1.length = l.length ∧ x.1.take x.2.1 = (l.take x.2.2).filter (fun y=>decide (y ≠ k)) ∧ x.1.drop x.2.2 = l.drop x.2.2) (by omega) (l,i0,i0 + 1) rfl ⟨rfl,Nat.lt_succ_self _,rfl,?_,rfl⟩ (fun r x hr hP=>?_) (fun x hP=>?_)
    · rw [List.take_add_one,List.filter_append,List.filter_eq_self.mpr (fun x hx=>by simpa using hpre x hx),List.getElem?_eq_getElem hi0]
      simp [hat]
    · obtain ⟨R,c,j⟩:=x
      obtain ⟨rfl,hc,hlen,htk,hdr⟩:=hP
      simp only at hc hlen htk hdr ⊢
      have hj:i0 + 1 + r < R.length:=by omega
      obtain ⟨x,hx,hd,ht,h0⟩:=at_ hj
      have hn:=nx hj (by omega)
      have hq:=fun n=>LH (ext:=ext) (F:=F) (n:=n) x k
      have hlt:((i0 + 1 + r:Nat):Int) < (R.length:Int):=by omega
      have hcR:c < R.length:=by omega
      obtain ⟨y,hy,hcd,hct,hc0⟩:=at_ hcR
      have hcl:(c:Int) < (R.length:Int):=by omega
      have hcn:=nx hcR (by omega)
      simp only [List.length_map,List.getElem?_map,hd,hx,ht,h0,rQ,hq,hlt,go_sem,Nat.reduceAdd,Nat.reduceMul,Nat.reduceEqDiff,Nat.reduceBEq,Nat.reduceMod,Nat.reduceDiv,↓reduceIte,reduceCtorEq]
      repeat' (refine fC (fun h=>?_) (fun h=>?_) <;> simp only [h,List.length_map,List.getElem?_map,hd,hx,ht,h0,hn,rQ,hq,hlt,hy,hct,hc0,hcl,hcn,go_sem,Nat.reduceAdd,Nat.reduceMul,Nat.reduceEqDiff,Nat.reduceBEq,Nat.reduceMod,Nat.reduceDiv,↓reduceIte,reduceCtorEq])
      all_goals
        have hxl:l[i0 + 1 + r]? = some x:=by
          have:=congrArg (fun z:List Qn=>z[0]?) hdr
          simp only [List.getElem?_drop,Nat.add_zero,hx] at this
          exact this.symm
        have hdr':List.drop (i0 + 1 + r + 1) R = List.drop (i0 + 1 + r + 1) l:=by
          have:=congrArg (List.drop 1) hdr
          simpa only [List.drop_drop] using this
        have hft:=O4 (k:=k) hxl
      · simp only [decide_eq_true_eq] at h
        rw [if_pos h,List.append_nil] at hft
        exact ⟨(R,c,i0 + 1 + r + 1),rfl,rfl,by show c < i0 + 1 + r + 1;omega,hlen,by rw [hft];exact htk,hdr'⟩
      · simp only [decide_eq_false_iff_not] at h
        rw [if_neg h] at hft
        refine ⟨(R.set c x,c + 1,i0 + 1 + r + 1),?_,rfl,by show c + 1 < i0 + 1 + r + 1;omega,by simp [hlen],?_,?_⟩
        · simp [List.map_set,rQ]
        · show List.take (c + 1) (R.set c x) = _
          rw [hft,List.take_add_one,List.take_set,List.set_eq_of_length_le (by simp;omega),htk,List.getElem?_set_self hcR]
          rfl
        · show List.drop _ (R.set c x) = _
          rw [List.drop_set_of_lt (show c < i0 + 1 + r + 1 by omega)]
          exact hdr'
    · obtain ⟨R,c,j⟩:=x
      obtain ⟨rfl,hc,hlen,htk,hdr⟩:=hP
      simp only at hc hlen htk hdr ⊢
      have hj:i0 + 1 + (l.length - (i0 + 1)) = R.length:=by omega
      rw [hj]
      rw [hj,List.take_of_length_le (l:=l) (i:=R.length) (by omega)] at htk
      have hd:=@end_ _ R
      have hct:(c:Int).toNat = c:=by simp
      have htt:List.take c (List.take c (List.map rQ R) ++ List.replicate (R.length - c) [FV.str ⟨#[]⟩,FV.int IntKind.i64 0,FV.int IntKind.i64 0]) = (l.filter fun y=>decide (y ≠ k)).map rQ:=by
        rw [List.take_append_of_le_length (by simp;omega),List.take_take,Nat.min_self,← List.map_take,htk]
      simp only [List.length_map,hd,go_sem,Nat.reduceAdd,Nat.reduceMul,Nat.reduceEqDiff,Nat.reduceBEq,Nat.reduceMod,Nat.reduceDiv,↓reduceIte,reduceCtorEq]
      repeat' (refine fC (fun h=>?_) (fun h=>?_) <;> simp only [h,List.length_map,hd,go_sem,Nat.reduceAdd,Nat.reduceMul,Nat.reduceEqDiff,Nat.reduceBEq,Nat.reduceMod,Nat.reduceDiv,↓reduceIte,reduceCtorEq])
      rw [hct]
      exact ⟨by omega,by omega,⟨by omega,by simp;omega⟩,by rw [htt]⟩
structure qF (ext:Env):Prop where
  cq:∀ l:List Qn,l.length ≤ 1000000 → ext 70 [vl (l.map rQ)] = some ([.one (.own 3 (l.map rQ))],[vl (l.map rQ)])
  cs:∀ l:List ByteArray,l.length ≤ 1000000 → ext 88 [vl (l.map iB)] = some ([vl (l.map iB)],[vl (l.map iB)])
theorem G8 (C:qF ext) (l:List Qn) (h:l.length ≤ 1000000):G ext F (n + 1) 70 [vl (l.map rQ)] = some ([.one (.own 3 (l.map rQ))],[vl (l.map rQ)]):=(congrFun (nT rfl) _).trans (C.cq l h)
theorem Y6 (C:qF ext) (l:List ByteArray) (h:l.length ≤ 1000000):G ext F (n + 1) 88 [vl (l.map iB)] = some ([vl (l.map iB)],[vl (l.map iB)]):=(congrFun (nT rfl) _).trans (C.cs l h)
def DZ (l:List Qn) (k:Qn):List Qn:=l.filter fun x=>decide (x ≠ k)
theorem wR {l:List Qn} {k:Qn}:(DZ l k).length ≤ l.length:=List.length_filter_le ..
theorem D5 (C:qF ext) (l:List Qn) (k:Qn) (hl:l.length ≤ 1000000) (hF:200000000000001 ≤ F):G ext F (n + 4) 69 [vl (l.map rQ),vq k.q k.t k.c] = some ([.one (.own 3 ((DZ l k).map rQ))],[vl (l.map rQ),vq k.q k.t k.c]):=by
  refine iF (cf:=c69) rfl ?_
  have h1:=fun n=>G8 (F:=F) (n:=n) C l hl
  have h2:=fun n=>zF (ext:=ext) (F:=F) (n:=n) l k (by omega) hF
  simp only [c69,h1,h2,go_sem,Nat.reduceAdd,Nat.reduceMul,Nat.reduceEqDiff,Nat.reduceBEq,Nat.reduceMod,Nat.reduceDiv,↓reduceIte,reduceCtorEq]
  rfl
theorem LJ (C:qF ext) (l:List Qn) (k:Qn) (hl:l.length ≤ 1000000) (hF:200000000000001 ≤ F):G ext F (n + 5) 67 [vl (l.map rQ),vq k.q k.t k.c] = some ([vl ((DZ l k ++ [k]).map rQ)],[vl (l.map rQ),vq k.q k.t k.c]):=by
  refine iF (cf:=c67) rfl ?_
  have h1:=fun n=>D5 (ext:=ext) (F:=F) (n:=n) C l k hl hF
  have hl2:=@wR l k
  simp only [c67,h1,List.length_map,go_sem,Nat.reduceAdd,Nat.reduceMul,Nat.reduceEqDiff,Nat.reduceBEq,Nat.reduceMod,Nat.reduceDiv,↓reduceIte,reduceCtorEq]
  have hsz:((DZ l k).length + 1) * 32 ≤ 140737488355328:=by omega
  simp [rQ,hsz]
theorem Y7 (l:List Qn):((l.map rQ).all fun r=>r.length == 3) = true:=by
  rw [List.all_eq_true]
  intro r hr
  obtain ⟨x, -,rfl⟩:=List.mem_map.mp hr
  rfl
theorem UW (C:qF ext) (l:List Qn) (most:Int) (hl:l.length ≤ 1000000) (hm:0 ≤ most ∧ most ≤ 1000000000000) (hF:200000000000001 ≤ F):G ext F (n + 2) 66 [vl (l.map rQ),vi most] = some ([vl ((l.drop (l.length - most.toNat)).map rQ),vl ((l.take (l.length - most.toNat)).map rQ)],[vl (l.map rQ),vi most]):=by
  refine iF (cf:=c66) rfl ?_
  have h1:=fun n=>G8 (F:=F) (n:=n) C (l.drop (l.length - most.toNat)) (by simp;omega)
  have h2:=fun n=>G8 (F:=F) (n:=n) C (l.take (l.length - most.toNat)) (by simp;omega)
  obtain ⟨a,ha⟩:∃ a,a = l.length - most.toNat:=⟨_,rfl⟩
  rw [← ha] at h1 h2 ⊢
  have hc:IntKind.i64.wrap ((l.length:Int) - if (if (l.length:Int) < most then (l.length:Int) else most) < 0 then 0 else if (l.length:Int) < most then (l.length:Int) else most) = (a:Int):=by
    rw [zD (by split <;> split <;> omega) (by split <;> split <;> omega)]
    split <;> split <;> omega
  have hat:(a:Int).toNat = a:=by simp
  have hc1:(0:Int) ≤ a ∧ (a:Int) ≤ (l.length:Int):=by omega
  have hk1:List.take (l.length - a) (List.drop a (l.map rQ)) = (l.drop a).map rQ:=by rw [List.take_of_length_le (by simp),List.map_drop]
  have hk2:List.take a (l.map rQ) = (l.take a).map rQ:=List.map_take.symm
  simp only [c66,List.length_map,hc,hat,hc1,hk1,hk2,h1,h2,Y7 l,List.drop_zero,Nat.sub_zero,go_sem,Nat.reduceAdd,Nat.reduceMul,Nat.reduceEqDiff,Nat.reduceBEq,Nat.reduceMod,Nat.reduceDiv,↓reduceIte,reduceCtorEq]
end Go.Proofs.Ytdkkgecdhapfhaa.Kn
set_option maxRecDepth 4000
namespace Go.Proofs.Ytdkkgecdhapfhaa.Kn
open Go Ev
variable {ext : Env} {F n:Nat} {θ:Th}
structure Nt where
  k:Qn
  nx:Bool
  s:Se
  u:Int
  deriving DecidableEq
def rN (x:Nt):List FV:=[.str x.k.q,.int .i64 x.k.t,.int .i64 x.k.c,.bool x.nx,.str x.s.q,.int .i64 x.s.t,.int .i64 x.s.c,.sl (x.s.d.map iB),.int .i64 x.s.ttl,.int .i64 x.u]
abbrev Nt.v (x:Nt):AV:=.agg [.f (.str x.k.q),.f (.int .i64 x.k.t),.f (.int .i64 x.k.c),.f (.bool x.nx),.f (.str x.s.q),.f (.int .i64 x.s.t),.f (.int .i64 x.s.c),.f (.sl (x.s.d.map iB)),.f (.int .i64 x.s.ttl),.f (.int .i64 x.u)]
abbrev Qn.v (k:Qn):AV:=vq k.q k.t k.c
def nt0 : Nt:=⟨⟨⟨#[]⟩,0,0⟩,false,⟨⟨#[]⟩,0,0,[],0⟩,0⟩
structure On where
  o:Int
  now:Int
  k:Qn
  nx:Bool
  s:Se
def Kr (x:On):List FV:=[.int .i64 x.o,.int .i64 x.now,.str x.k.q,.int .i64 x.k.t,.int .i64 x.k.c,.bool x.nx,.str x.s.q,.int .i64 x.s.t,.int .i64 x.s.c,.sl (x.s.d.map iB),.int .i64 x.s.ttl]
abbrev On.v (x:On):AV:=.agg [.f (.int .i64 x.o),.f (.int .i64 x.now),.f (.str x.k.q),.f (.int .i64 x.k.t),.f (.int .i64 x.k.c),.f (.bool x.nx),.f (.str x.s.q),.f (.int .i64 x.s.t),.f (.int .i64 x.s.c),.f (.sl (x.s.d.map iB)),.f (.int .i64 x.s.ttl)]
structure Nv where
  room:Int
  m:List Nt
  o:List Qn
  ch:Int
structure Rn where
  room:Int
  l:List Nt
  ch:Int
abbrev LK : KS:=.agg [.str,.int .i64,.int .i64]
abbrev kq (k:Qn):KV:=.agg [.str k.q,.int .i64 k.t,.int .i64 k.c]
theorem UY {a b:Qn}:kq a = kq b ↔ a = b:=by
  constructor
  · intro h;simp only [kq,KV.agg.injEq,List.cons.injEq,SV.str.injEq,SV.int.injEq] at h
    cases a;cases b;simp_all
  · rintro rfl;rfl
def old (l:List Nt) (k:Qn):Option Nt:=l.find? fun x=>decide (x.k = k)
def rid (l:List Nt) (k:Qn):List Nt:=l.eraseP fun x=>decide (x.k = k)
def ent (x:Nt):KV × FC:=(kq x.k,.agg (rN x))
theorem yh (l:List Nt) (k:Qn):E8 (l.map ent) (kq k) = l.findIdx? fun x=>decide (x.k = k):=by
  unfold E8
  rw [List.map_map,List.findIdx?_map]
  refine congrArg (fun p=>List.findIdx? p l) (funext fun x=>?_)
  simp only [Function.comp,ent]
  by_cases h:x.k = k
  · simp [h]
  · have:¬ kq x.k = kq k:=fun e=>h (UY.mp e)
    simp only [this,h,decide_false]
theorem D6 (l:List Nt) (k:Qn):Db (l.map ent) (kq k) = (old l k).map fun x=>.agg (rN x):=by
  have hf:old l k = (l.findIdx? fun x=>decide (x.k = k)).bind fun i=>l[i]?:=List.find?_eq_bind_findIdx?_getElem? ..
  unfold Db
  rw [yh,hf]
  cases l.findIdx? fun x=>decide (x.k = k) with
  | none=>rfl
  | some i=>simp only [Option.bind_some,List.getElem?_map];cases l[i]? <;> rfl
theorem D7 (l:List Nt) (k:Qn):Fa (l.map ent) (kq k) = (rid l k).map ent:=by
  unfold Fa rid
  rw [yh,List.eraseP_eq_eraseIdx]
  cases l.findIdx? fun x=>decide (x.k = k) with
  | none=>rfl
  | some i=>simp [List.eraseIdx_eq_take_drop_succ,List.map_take,List.map_drop]
def upd (l:List Nt) (x:Nt):List Nt:=match l.findIdx? fun y=>decide (y.k = x.k) with
  | some i=>l.set i x
  | none=>l ++ [x]
theorem LM (l:List Nt) (x:Nt):E9 (l.map ent) (kq x.k) (.agg (rN x)) = (upd l x).map ent:=by
  unfold E9 upd
  rw [yh]
  cases l.findIdx? fun y=>decide (y.k = x.k) with
  | none=>simp [ent]
  | some i=>simp [List.map_set,ent]
abbrev ks (l:List Nt):List Qn:=l.map Nt.k
theorem wS {l:List Nt} {b:Qn} {x:Nt} (h:old l b = some x):x.k = b ∧ x ∈ l:=⟨by simpa using List.find?_some h,List.mem_of_find?_eq_some h⟩
theorem LP {x:Nt} {l:List Nt} {a:Qn}:rid (x :: l) a = if x.k = a then l else x :: rid l a:=by
  unfold rid;rw [List.eraseP_cons];by_cases h:x.k = a <;> simp [h]
theorem G9 {l:List Nt} {a:Qn}:(rid l a).Sublist l:=List.eraseP_sublist ..
theorem Aj {l:List Nt} {a:Qn} (h:(ks l).Nodup):(ks (rid l a)).Nodup:=(G9.map _).nodup h
theorem FN (l:List Nt) (x:Nt):(x.k ∉ ks l ∧ upd l x = l ++ [x]) ∨ ∃ a y b,l = a ++ y :: b ∧ y.k = x.k ∧ x.k ∉ ks a ∧ upd l x = a ++ x :: b:=by
  unfold upd
  cases h:l.findIdx? fun y=>decide (y.k = x.k) with
  | none =>
    refine .inl ⟨fun hm=>?_,rfl⟩
    obtain ⟨y,hy,hk⟩:=List.mem_map.mp hm
    have:=List.findIdx?_eq_none_iff.mp h y hy
    simp [hk] at this
  | some i =>
    obtain ⟨hi,hx,hb⟩:=List.findIdx?_eq_some_iff_getElem.mp h
    refine .inr ⟨l.take i,l[i],l.drop (i + 1),?_,by simpa using hx,fun hm=>?_,?_⟩
    · rw [List.getElem_cons_drop,List.take_append_drop]
    · obtain ⟨y,hy,hk⟩:=List.mem_map.mp hm
      obtain ⟨j,hj,rfl⟩:=List.mem_take_iff_getElem.mp hy
      have:=hb j (by omega)
      simp [hk] at this
    · simp only [List.set_eq_take_append_cons_drop,hi,if_true]
theorem Jh {l:List Nt} {x:Nt} (h:(ks l).Nodup):(ks (upd l x)).Nodup:=by
  rcases FN l x with ⟨hn,hu⟩ | ⟨a,y,c,rfl,hy,ha,hu⟩
  · rw [hu]
    simp only [ks,List.map_append,List.map_cons,List.map_nil]
    refine List.nodup_append.mpr ⟨h,List.pairwise_singleton _ _,fun p hp q hq=>?_⟩
    rw [List.mem_singleton] at hq;subst hq;rintro rfl;exact hn hp
  · rw [hu]
    have:ks (a ++ x :: c) = ks (a ++ y :: c):=by simp [ks,hy]
    rw [this];exact h
theorem O5 {l:List Nt} {x:Nt}:(upd l x).length ≤ l.length + 1:=by
  rcases FN l x with ⟨-,hu⟩ | ⟨a,y,c,rfl, -, -,hu⟩ <;> rw [hu] <;> simp
theorem He {l:List Nt} {x y:Nt} (h:y ∈ upd l x):y = x ∨ y ∈ l:=by
  rcases FN l x with ⟨-,hu⟩ | ⟨a,z,c,rfl, -, -,hu⟩ <;> rw [hu] at h <;> simp at h ⊢
  · rcases h with h | h <;> simp [h]
  · rcases h with h | h | h <;> simp [h]
theorem tu : ∀ {g:List Qn} {l:List Nt},(g.foldl rid l).Sublist l
  | [],l=>List.Sublist.refl _
  | a :: g,l=>(tu (g:=g)).trans G9
abbrev Nv.v (s:Nv):AV:=.one (.ptr [.f (.int .i64 s.room),.mp LK (s.m.map ent),.f (.sl (s.o.map rQ)),.f (.int .i64 s.ch)])
abbrev Rn.v (s:Rn):AV:=.agg [.f (.int .i64 s.room),.f (.sl (s.l.map rN)),.f (.int .i64 s.ch)]
def UZ : Option Nv → AV
  | some s=>s.v
  | none=>.one .jF
theorem yj (s:Nv):UZ (some s) = s.v:=rfl
theorem D8 : UZ none = .one .jF:=rfl
end Go.Proofs.Ytdkkgecdhapfhaa.Kn
set_option maxRecDepth 4000
namespace Go.Proofs.Ytdkkgecdhapfhaa.Kn
open Go Ev
variable {ext : Env} {F n:Nat} {θ:Th} {gt:ByteArray → Int → Int → Int × Bool}
structure Ji (gt:ByteArray → Int → Int → Int × Bool) (ext:Env):Prop where
  og:∀ s a z,s.size ≤ 1000000 → ext 74 [vs s,vi a,vi z] = some ([vi (gt s a z).1,vb (gt s a z).2],[vs s,vi a,vi z])
  rg:∀ s a z,s.size ≤ 1000000 → ext 75 [vs s,vi a,vi z] = some ([vi (gt s a z).1,vb (gt s a z).2],[vs s,vi a,vi z])
  nn:∀ s a z,0 ≤ (gt s a z).1
theorem Y8 (O:Ji gt ext) (s:ByteArray) (a z:Int) (h:s.size ≤ 1000000):G ext F (n + 1) 74 [vs s,vi a,vi z] = some ([vi (gt s a z).1,vb (gt s a z).2],[vs s,vi a,vi z]):=(congrFun (nT rfl) _).trans (O.og s a z h)
theorem BS (room:Int):G ext F (n + 1) 39 [vi room] = some ([UZ (if room < 1 ∨ 1000 < room then none else some ⟨room,[],[],0⟩)],[vi room]):=by
  refine iF (cf:=NM) rfl ?_
  simp only [NM,go_sem,Nat.reduceAdd,Nat.reduceMul,Nat.reduceEqDiff,Nat.reduceBEq,Nat.reduceMod,Nat.reduceDiv,↓reduceIte,reduceCtorEq]
  repeat' (refine fC (fun h=>?_) (fun h=>?_) <;> simp only [h,go_sem,Nat.reduceAdd,Nat.reduceMul,Nat.reduceEqDiff,Nat.reduceBEq,Nat.reduceMod,Nat.reduceDiv,↓reduceIte,reduceCtorEq])
  all_goals (simp only [decide_eq_true_eq,decide_eq_false_iff_not] at *)
  all_goals first | rw [if_pos (by omega)] | rw [if_neg (by omega)]
  all_goals rfl
theorem vP (o:Option Nv):G ext F (n + 1) 53 [UZ o] = some ([vi (match o with | some s=>s.ch | none=>0)],[UZ o]):=by
  refine iF (cf:=c53) rfl ?_
  cases o with
  | none =>
    rw [D8]
    simp only [c53,go_sem,Nat.reduceAdd,Nat.reduceMul,Nat.reduceEqDiff,Nat.reduceBEq,Nat.reduceMod,Nat.reduceDiv,↓reduceIte,reduceCtorEq]
  | some s =>
    rw [yj]
    simp only [c53,go_sem,Nat.reduceAdd,Nat.reduceMul,Nat.reduceEqDiff,Nat.reduceBEq,Nat.reduceMod,Nat.reduceDiv,↓reduceIte,reduceCtorEq]
theorem LQ (C:qF ext) (o:Option Nv) (ho:∀ s,o = some s → s.o.length ≤ 1000000):G ext F (n + 2) 51 [UZ o] = some ([vl ((match o with | some s=>s.o | none=>[]).map rQ)],[UZ o]):=by
  refine iF (cf:=c51) rfl ?_
  cases o with
  | none =>
    rw [D8]
    simp only [c51,go_sem,Nat.reduceAdd,Nat.reduceMul,Nat.reduceEqDiff,Nat.reduceBEq,Nat.reduceMod,Nat.reduceDiv,↓reduceIte,reduceCtorEq]
  | some s =>
    rw [yj]
    have h1:=fun n=>G8 (F:=F) (n:=n) C s.o (ho s rfl)
    simp only [c51,h1,go_sem,Nat.reduceAdd,Nat.reduceMul,Nat.reduceEqDiff,Nat.reduceBEq,Nat.reduceMod,Nat.reduceDiv,↓reduceIte,reduceCtorEq]
theorem nE (C:qF ext) (x:Nt) (hx:x.s.d.length ≤ 1000000):G ext F (n + 2) 80 [x.v] = some ([x.v],[x.v]):=by
  refine iF (cf:=c80) rfl ?_
  have h1:=fun n=>Y6 (F:=F) (n:=n) C x.s.d hx
  simp only [c80,h1,go_sem,Nat.reduceAdd,Nat.reduceMul,Nat.reduceEqDiff,Nat.reduceBEq,Nat.reduceMod,Nat.reduceDiv,↓reduceIte,reduceCtorEq]
theorem D9 (k:Qn):G ext F (n + 1) 79 [k.v] = some ([vq k.q 0 k.c],[k.v]):=by
  refine iF (cf:=c79) rfl ?_
  simp only [c79,go_sem,Nat.reduceAdd,Nat.reduceMul,Nat.reduceEqDiff,Nat.reduceBEq,Nat.reduceMod,Nat.reduceDiv,↓reduceIte,reduceCtorEq]
abbrev Qn.w (k:Qn):Qn:=⟨k.q,0,k.c⟩
def Th.ask (θ:Th) (k:Qn):Bool:=θ.key k.q k.t k.c && !decide (k.t = 0)
theorem LU (T:θ.Ok ext) (k:Qn) (hq:k.q.size ≤ 1000000):G ext F (n + 2) 78 [k.v] = some ([vb (θ.ask k)],[k.v]):=by
  refine iF (cf:=c78) rfl ?_
  have h1:=fun n=>R8 (F:=F) (n:=n) T k.q hq
  have h2:=fun n=>R9 (F:=F) (n:=n) T k.q hq
  simp only [c78,h1,h2,go_sem,Nat.reduceAdd,Nat.reduceMul,Nat.reduceEqDiff,Nat.reduceBEq,Nat.reduceMod,Nat.reduceDiv,↓reduceIte,reduceCtorEq]
  repeat' (refine fC (fun h=>?_) (fun h=>?_) <;> simp only [h,h1,h2,go_sem,Nat.reduceAdd,Nat.reduceMul,Nat.reduceEqDiff,Nat.reduceBEq,Nat.reduceMod,Nat.reduceDiv,↓reduceIte,reduceCtorEq])
  all_goals clear h1 h2
  all_goals simp only [decide_eq_true_eq,decide_eq_false_iff_not] at *
  all_goals (simp [Th.ask,Th.key, *])
  all_goals (try omega)
  all_goals (have a1:0 ≤ k.t:=by omega);(have a2:¬ k.t = 0:=by omega);simp [a1,a2]
theorem uT (o:On):G ext F (n + 1) 54 [o.v] = some ([if o.nx then o.k.w.v else o.k.v],[o.v]):=by
  refine iF (cf:=c54) rfl ?_
  cases hx:o.nx
  all_goals
    simp only [c54,hx,go_sem,Nat.reduceAdd,Nat.reduceMul,Nat.reduceEqDiff,Nat.reduceBEq,Nat.reduceMod,Nat.reduceDiv,↓reduceIte,reduceCtorEq]
    simp only [On.v,Qn.v,Qn.w,vq,hx]
def yt (l:List On):Bool:=l.all fun x=>nV x.s.q x.s.d && decide (x.k.q.size ≤ 300)
theorem Jj {l:List On} {x:On} {i:Nat} (h:l[i]? = some x):yt (l.take (i + 1)) = (yt (l.take i) && (nV x.s.q x.s.d && decide (x.k.q.size ≤ 300))):=by
  unfold yt
  rw [List.take_add_one,h,List.all_append]
  simp
theorem Hf {l:List On} {x:On} {i:Nat} (h:l[i]? = some x) (hx:(nV x.s.q x.s.d && decide (x.k.q.size ≤ 300)) = false):yt l = false:=by
  unfold yt
  refine Bool.eq_false_iff.mpr fun ha=>?_
  rw [List.all_eq_true.mp ha x (List.mem_of_getElem? h)] at hx
  cases hx
theorem FP (l:List On) (m:Int) (hl:l.length ≤ 200000000000000) (hd:∀ x ∈ l,x.s.d.length ≤ 200000000000000) (hF:200000000000001 ≤ F):G ext F (n + 2) 37 [vl (l.map Kr),vi m] = some ([vb (yt l && decide ((l.length:Int) ≤ m))],[vl (l.map Kr),vi m]):=by
  refine iF (cf:=c37) rfl ?_
  simp only [c37,go_sem,Nat.reduceAdd,Nat.reduceMul,Nat.reduceEqDiff,Nat.reduceBEq,Nat.reduceMod,Nat.reduceDiv,↓reduceIte,reduceCtorEq]
  refine uZ l.length (fun i=>⟨[(0,PV.c (CV.one (PL.f (FV.sl (l.map Kr))))),(1,PV.c (CV.one (PL.f (FV.int .i64 m)))),(5,PV.c (CV.one (PL.f (FV.int .i64 i))))],[]⟩) (fun i=>yt (l.take i) = true) (by omega) rfl (by simp [yt]) (fun i hi hP=>?_) (fun hP=>?_)
  · obtain ⟨x,hx,hlt,ht,h0⟩:=at_ hi
    have hn:=nx hi (Nat.le_trans hl (by decide))
    have hs:=fun n=>LD (ext:=ext) (F:=F) (n:=n) x.s.q x.s.t x.s.c x.s.d x.s.ttl (hd x (List.mem_of_getElem? hx)) hF
    cases h1:nV x.s.q x.s.d with
    | false =>
      simp only [List.length_map,List.getElem?_map,hlt,hx,ht,h0,Kr,hs,h1,go_sem,Nat.reduceAdd,Nat.reduceMul,Nat.reduceEqDiff,Nat.reduceBEq,Nat.reduceMod,Nat.reduceDiv,↓reduceIte,reduceCtorEq]
      rw [Hf hx (by rw [h1];rfl)];rfl
    | true =>
      simp only [List.length_map,List.getElem?_map,hlt,hx,ht,h0,Kr,hs,h1,go_sem,Nat.reduceAdd,Nat.reduceMul,Nat.reduceEqDiff,Nat.reduceBEq,Nat.reduceMod,Nat.reduceDiv,↓reduceIte,reduceCtorEq]
      repeat' (refine fC (fun h=>?_) (fun h=>?_) <;> simp only [h,List.length_map,List.getElem?_map,hlt,hx,ht,h0,hn,Kr,hs,h1,go_sem,Nat.reduceAdd,Nat.reduceMul,Nat.reduceEqDiff,Nat.reduceBEq,Nat.reduceMod,Nat.reduceDiv,↓reduceIte,reduceCtorEq])
      all_goals simp only [decide_eq_true_eq,decide_eq_false_iff_not] at *
      · rw [Hf hx (by rw [h1];simp;omega)];rfl
      · rw [Jj hx,hP,h1];simp;omega
  · have hd:=@end_ _ l
    rw [List.take_length] at hP
    simp only [List.length_map,hd,go_sem,Nat.reduceAdd,Nat.reduceMul,Nat.reduceEqDiff,Nat.reduceBEq,Nat.reduceMod,Nat.reduceDiv,↓reduceIte,reduceCtorEq]
    repeat' (refine fC (fun h=>?_) (fun h=>?_) <;> simp only [h,List.length_map,hd,go_sem,Nat.reduceAdd,Nat.reduceMul,Nat.reduceEqDiff,Nat.reduceBEq,Nat.reduceMod,Nat.reduceDiv,↓reduceIte,reduceCtorEq])
    simp [hP]
def tC (θ:Th) (gt:ByteArray → Int → Int → Int × Bool) (x:Se):Int × Bool :=
  if θ.set x.q x.t x.c x.d x.ttl = true ∧ x.t = 6 then (if x.ttl < (gt (x.d.headD ⟨#[]⟩) ((x.d.headD ⟨#[]⟩).size - 4) 4).1 then x.ttl else (gt (x.d.headD ⟨#[]⟩) ((x.d.headD ⟨#[]⟩).size - 4) 4).1,true) else (0,false)
theorem LV {x:Se} (h:θ.set x.q x.t x.c x.d x.ttl = true):∃ y d,x.d = y :: d:=by
  unfold Th.set at h
  rw [decide_eq_true_eq] at h
  exact List.exists_cons_of_ne_nil h.2.2.2
theorem rH (T:θ.Ok ext) (O:Ji gt ext) (x:Se) (hF:200000000000001 ≤ F) (hq:x.q.size ≤ 1000000) (hn:x.d.length ≤ 1000000) (hd:∀ y ∈ x.d,y.size ≤ 1000000):G ext F (n + 4) 41 [x.v] = some ([vi (tC θ gt x).1,vb (tC θ gt x).2],[x.v]):=by
  refine iF (cf:=Kq) rfl ?_
  have h1:=fun n=>Jg (F:=F) (n:=n) T x.q x.t x.c x.d x.ttl (by omega) hF hq hd
  by_cases h6:x.t = 6
  · have h6':decide (x.t = 6) = true:=decide_eq_true h6
    cases hs:θ.set x.q x.t x.c x.d x.ttl with
    | false =>
      rw [hs] at h1
      have e:tC θ gt x = (0,false):=by unfold tC;rw [hs];rfl
      rw [e]
      simp only [Kq,h1,h6',go_sem,Nat.reduceAdd,Nat.reduceMul,Nat.reduceEqDiff,Nat.reduceBEq,Nat.reduceMod,Nat.reduceDiv,↓reduceIte,reduceCtorEq]
    | true =>
      rw [hs] at h1
      obtain ⟨y,ds,hy⟩:=LV hs
      have e:tC θ gt x = (if x.ttl < (gt y (y.size - 4) 4).1 then x.ttl else (gt y (y.size - 4) 4).1,true):=by unfold tC;rw [if_pos ⟨hs,h6⟩,hy];rfl
      rw [e]
      have hys:=hd y (by rw [hy];simp)
      have hw:IntKind.i64.wrap ((y.size:Int) - 4) = y.size - 4:=zD (by omega) (by omega)
      have hg:=fun n=>Y8 (F:=F) (n:=n) O y (y.size - 4) 4 hys
      simp only [Se.v,FJ,hy,List.map_cons,iB] at h1 ⊢
      simp only [Kq,h1,h6',List.map_cons,List.getElem?_cons_zero,iB,hw,hg,Int.toNat_zero,go_sem,Nat.reduceAdd,Nat.reduceMul,Nat.reduceEqDiff,Nat.reduceBEq,Nat.reduceMod,Nat.reduceDiv,↓reduceIte,reduceCtorEq]
      exact ⟨Int.le_refl _,by rw [hy];rfl⟩
  · have h6':decide (x.t = 6) = false:=decide_eq_false h6
    have e:tC θ gt x = (0,false):=by unfold tC;rw [if_neg (fun h=>h6 h.2)]
    rw [e]
    simp only [Kq,h6',go_sem,Nat.reduceAdd,Nat.reduceMul,Nat.reduceEqDiff,Nat.reduceBEq,Nat.reduceMod,Nat.reduceDiv,↓reduceIte,reduceCtorEq]
end Go.Proofs.Ytdkkgecdhapfhaa.Kn
set_option maxRecDepth 4000
namespace Go.Proofs.Ytdkkgecdhapfhaa.Kn
open Go Ev
variable {ext : Env} {F n:Nat} {θ:Th} {gt:ByteArray → Int → Int → Int × Bool}
theorem LW {a b:Qn}:a = b ↔ a.q = b.q ∧ a.t = b.t ∧ a.c = b.c:=by cases a;cases b;simp
def Y9 (o:Option Nt):Nt × Bool:=match o with
  | some x=>(x,true)
  | none=>(nt0,false)
abbrev kn (nx:Bool) (k:Qn):Qn:=if nx then k.w else k
def Th.narg (θ:Th) (gt:ByteArray → Int → Int → Int × Bool) (s:Rn) (now:Int) (k:Qn) (x:Se):Prop:=s.room = 0 ∨ EY now = false ∨ (tC θ gt x).2 = false ∨ θ.key k.q k.t k.c = false ∨ k.t = 0
instance {s : Rn} {now:Int} {k:Qn} {x:Se}:Decidable (θ.narg gt s now k x):=by unfold Th.narg;infer_instance
end Go.Proofs.Ytdkkgecdhapfhaa.Kn
set_option maxRecDepth 4000
namespace Go.Proofs.Ytdkkgecdhapfhaa.Kn
open Go Ev
variable {ext : Env} {F n:Nat} {θ:Th} {gt:ByteArray → Int → Int → Int × Bool}
def nof (m:List Nt) (now:Int) (k:Qn):Option Nt:=match old m k with
  | some x=>if kg now x.u then some x else none
  | none=>none
def iw (s:Nv) (now:Int) (k:Qn):Nt × Bool:=match nof s.m now k.w with
  | some x=>(x,true)
  | none=>Y9 (nof s.m now k)
theorem oZ (C:qF ext) (s:Nv) (now:Int) (k:Qn) (hF:200000000000001 ≤ F) (hd:∀ x ∈ s.m,x.s.d.length ≤ 1000000):G ext F (n + 3) 46 [s.v,vi now,k.v] = some ([(iw s now k).1.v,vb (iw s now k).2],[s.v,vi now,k.v]):=by
  refine iF (cf:=c46) rfl ?_
  have hw:=fun n=>D9 (ext:=ext) (F:=F) (n:=n) k
  simp only [c46,hw,go_sem,Nat.reduceAdd,Nat.reduceMul,Nat.reduceEqDiff,Nat.reduceBEq,Nat.reduceMod,Nat.reduceDiv,↓reduceIte,reduceCtorEq]
  refine uZ 2 (fun i=>⟨[(0,PV.c (CV.one (PL.ptr 20201 0))),(1,PV.c (CV.one (PL.f (FV.int IntKind.i64 now)))),(6,PV.c (CV.one (PL.ptr 140000 0))),(18,PV.c (CV.one (PL.own 380000 2))),(19,PV.c (CV.one (PL.f (FV.int IntKind.i64 ((2:Nat):Int))))),(20,PV.c (CV.one (PL.f (FV.int IntKind.i64 (i:Int)))))],[(20201,Ob.mP [PL.f (FV.int IntKind.i64 s.room),PL.mp 20205,PL.f (FV.sl (List.map rQ s.o)),PL.f (FV.int IntKind.i64 s.ch)]),(20205,Ob.map LK (List.map ent s.m)),(140000,Ob.mP [PL.f (FV.str ⟨#[]⟩),PL.f (FV.int IntKind.i64 0),PL.f (FV.int IntKind.i64 0),PL.f (FV.bool false),PL.f (FV.str ⟨#[]⟩),PL.f (FV.int IntKind.i64 0),PL.f (FV.int IntKind.i64 0),PL.fQ,PL.f (FV.int IntKind.i64 0),PL.f (FV.int IntKind.i64 0)]),(380000,Ob.row 3 [[FV.str k.q,FV.int IntKind.i64 0,FV.int IntKind.i64 k.c],[FV.str k.q,FV.int IntKind.i64 k.t,FV.int IntKind.i64 k.c]])]⟩) (fun i=>(1 ≤ i → nof s.m now k.w = none) ∧ (2 ≤ i → nof s.m now k = none)) (by omega) rfl ⟨by omega,by omega⟩ (fun i hi hP=>?_) (fun hP=>?_)
  · rcases (show i = 0 ∨ i = 1 by omega) with rfl | rfl
    · skip
      have hlt:decide (((0:Nat):Int) < ((2:Nat):Int)) = true:=by decide
      have ht:((0:Nat):Int).toNat = 0:=rfl
      have h0:(0:Int) ≤ ((0:Nat):Int):=by decide
      have hn':IntKind.i64.wrap (((0:Nat):Int) + 1) = ((0 + 1:Nat):Int):=by rw [zD (by omega) (by omega)];rfl
      have hk1:=D6 s.m k.w
      simp only [kq] at hk1
      have hcl:=fun n x hx=>nE (F:=F) (n:=n) C x hx
      cases hold:old s.m k.w with
      | none =>
        rw [hold] at hk1
        simp only [hlt,ht,h0,hn',List.getElem?_cons_zero,List.getElem?_cons_succ,hk1,Option.map_none,Option.isSome_none,go_sem,Nat.reduceAdd,Nat.reduceMul,Nat.reduceEqDiff,Nat.reduceBEq,Nat.reduceMod,Nat.reduceDiv,↓reduceIte,reduceCtorEq]
        first | exact ⟨by decide,fun _=>by unfold nof;simp [hold, *],by omega⟩ | exact ⟨by decide,rfl,fun _=>by unfold nof;simp [hold, *],by omega⟩
      | some x =>
        rw [hold] at hk1
        have hcl:=fun n=>nE (F:=F) (n:=n) C x (hd x (wS hold).2)
        cases hv:kg now x.u with
        | false =>
          simp only [hlt,ht,h0,hn',List.getElem?_cons_zero,List.getElem?_cons_succ,hk1,Option.map_some,Option.isSome_some,rN,qj,hv,go_sem,Nat.reduceAdd,Nat.reduceMul,Nat.reduceEqDiff,Nat.reduceBEq,Nat.reduceMod,Nat.reduceDiv,↓reduceIte,reduceCtorEq]
          first | exact ⟨by decide,fun _=>by unfold nof;simp [hold, *],by omega⟩ | exact ⟨by decide,rfl,fun _=>by unfold nof;simp [hold, *],by omega⟩
        | true =>
          simp only [hlt,ht,h0,hn',List.getElem?_cons_zero,List.getElem?_cons_succ,hk1,Option.map_some,Option.isSome_some,rN,qj,hv,hcl,go_sem,Nat.reduceAdd,Nat.reduceMul,Nat.reduceEqDiff,Nat.reduceBEq,Nat.reduceMod,Nat.reduceDiv,↓reduceIte,reduceCtorEq]
          have e:iw s now k = (x,true):=by unfold iw nof;rw [hold];simp [hv]
          rw [e]
          exact ⟨by decide,rfl⟩
    · have hp:=hP.1 (by decide)
      have hlt:decide (((1:Nat):Int) < ((2:Nat):Int)) = true:=by decide
      have ht:((1:Nat):Int).toNat = 1:=rfl
      have h0:(0:Int) ≤ ((1:Nat):Int):=by decide
      have hn':IntKind.i64.wrap (((1:Nat):Int) + 1) = ((1 + 1:Nat):Int):=by rw [zD (by omega) (by omega)];rfl
      have hk1:=D6 s.m k
      simp only [kq] at hk1
      have hcl:=fun n x hx=>nE (F:=F) (n:=n) C x hx
      cases hold:old s.m k with
      | none =>
        rw [hold] at hk1
        simp only [hlt,ht,h0,hn',List.getElem?_cons_zero,List.getElem?_cons_succ,hk1,Option.map_none,Option.isSome_none,go_sem,Nat.reduceAdd,Nat.reduceMul,Nat.reduceEqDiff,Nat.reduceBEq,Nat.reduceMod,Nat.reduceDiv,↓reduceIte,reduceCtorEq]
        first | exact ⟨by decide,fun _=>hp,fun _=>by unfold nof;simp [hold, *]⟩ | exact ⟨by decide,rfl,fun _=>hp,fun _=>by unfold nof;simp [hold, *]⟩
      | some x =>
        rw [hold] at hk1
        have hcl:=fun n=>nE (F:=F) (n:=n) C x (hd x (wS hold).2)
        cases hv:kg now x.u with
        | false =>
          simp only [hlt,ht,h0,hn',List.getElem?_cons_zero,List.getElem?_cons_succ,hk1,Option.map_some,Option.isSome_some,rN,qj,hv,go_sem,Nat.reduceAdd,Nat.reduceMul,Nat.reduceEqDiff,Nat.reduceBEq,Nat.reduceMod,Nat.reduceDiv,↓reduceIte,reduceCtorEq]
          first | exact ⟨by decide,fun _=>hp,fun _=>by unfold nof;simp [hold, *]⟩ | exact ⟨by decide,rfl,fun _=>hp,fun _=>by unfold nof;simp [hold, *]⟩
        | true =>
          simp only [hlt,ht,h0,hn',List.getElem?_cons_zero,List.getElem?_cons_succ,hk1,Option.map_some,Option.isSome_some,rN,qj,hv,hcl,go_sem,Nat.reduceAdd,Nat.reduceMul,Nat.reduceEqDiff,Nat.reduceBEq,Nat.reduceMod,Nat.reduceDiv,↓reduceIte,reduceCtorEq]
          have e:iw s now k = (x,true):=by unfold iw;rw [hp];unfold nof;rw [hold];simp [hv,Y9]
          rw [e]
          exact ⟨by decide,rfl⟩
  · have hp1:=hP.1 (by decide)
    have hp2:=hP.2 (by decide)
    have hlt:decide (((2:Nat):Int) < ((2:Nat):Int)) = false:=by decide
    have e:iw s now k = (nt0,false):=by unfold iw;rw [hp1,hp2];rfl
    rw [e]
    simp only [hlt,go_sem,Nat.reduceAdd,Nat.reduceMul,Nat.reduceEqDiff,Nat.reduceBEq,Nat.reduceMod,Nat.reduceDiv,↓reduceIte,reduceCtorEq]
    rfl
def lI (θ:Th) (gt:ByteArray → Int → Int → Int × Bool) (s:Nv) (now:Int) (k:Qn) (nx:Bool) (x:Se):Nv × Int :=
  if (tC θ gt x).2 = false ∨ iG now (tC θ gt x).1 = -1 ∨ θ.ask k = false then (s,1)
  else if kg now (iG now (tC θ gt x).1) = false then (s,14)
  else
    let t:=DZ s.o (kn nx k) ++ [kn nx k]
    (⟨s.room,(t.take (t.length - s.room.toNat)).foldl rid (upd s.m ⟨kn nx k,nx,x,iG now (tC θ gt x).1⟩),t.drop (t.length - s.room.toNat),s.ch + 1⟩,0)
theorem tF (T:θ.Ok ext) (O:Ji gt ext) (C:qF ext) (s:Nv) (now:Int) (k:Qn) (nO:Bool) (x:Se) (hF:200000000000001 ≤ F) (hr1:0 ≤ s.room ∧ s.room ≤ 1000000) (hc:0 ≤ s.ch ∧ s.ch ≤ 1000000000000) (ho:s.o.length ≤ 100000) (hk:k.q.size ≤ 1000000) (hq:x.q.size ≤ 1000000) (hn:x.d.length ≤ 1000000) (hd:∀ y ∈ x.d,y.size ≤ 1000000):G ext F (n + 6) 44 [s.v,vi now,k.v,vb nO,x.v] = some ([vi (lI θ gt s now k nO x).2],[(lI θ gt s now k nO x).1.v,vi now,k.v,vb nO,x.v]):=by
  refine iF (cf:=Ai) rfl ?_
  have h1:=fun n=>rH (F:=F) (n:=n) T O x hF hq hn hd
  have h2:=fun n=>LU (F:=F) (n:=n) T k hk
  have hu:=fun n t=>LB (ext:=ext) (F:=F) (n:=n) now t
  cases hm2:(tC θ gt x).2 with
  | false =>
    rw [hm2] at h1
    have e:lI θ gt s now k nO x = (s,1):=by unfold lI;exact if_pos (.inl hm2)
    rw [e]
    simp only [Ai,h1,hu,go_sem,Nat.reduceAdd,Nat.reduceMul,Nat.reduceEqDiff,Nat.reduceBEq,Nat.reduceMod,Nat.reduceDiv,↓reduceIte,reduceCtorEq]
  | true =>
  rw [hm2] at h1
  by_cases hun:iG now (tC θ gt x).1 = -1
  · have e:lI θ gt s now k nO x = (s,1):=by unfold lI;exact if_pos (.inr (.inl hun))
    rw [e]
    have hun':decide (iG now (tC θ gt x).1 = -1) = true:=decide_eq_true hun
    simp only [Ai,h1,hu,hun',go_sem,Nat.reduceAdd,Nat.reduceMul,Nat.reduceEqDiff,Nat.reduceBEq,Nat.reduceMod,Nat.reduceDiv,↓reduceIte,reduceCtorEq]
  have hun':decide (iG now (tC θ gt x).1 = -1) = false:=decide_eq_false hun
  cases ha:θ.ask k with
  | false =>
    have e:lI θ gt s now k nO x = (s,1):=by unfold lI;exact if_pos (.inr (.inr ha))
    rw [e]
    rw [ha] at h2
    simp only [Ai,h1,h2,hu,hun',go_sem,Nat.reduceAdd,Nat.reduceMul,Nat.reduceEqDiff,Nat.reduceBEq,Nat.reduceMod,Nat.reduceDiv,↓reduceIte,reduceCtorEq]
  | true =>
  rw [ha] at h2
  have hno:¬ ((tC θ gt x).2 = false ∨ iG now (tC θ gt x).1 = -1 ∨ θ.ask k = false):=by rw [hm2,ha];simp [hun]
  cases hl:kg now (iG now (tC θ gt x).1) with
  | false =>
    have e:lI θ gt s now k nO x = (s,14):=by unfold lI;rw [if_neg hno,if_pos hl]
    rw [e]
    simp only [Ai,h1,h2,hu,hun',qj,hl,go_sem,Nat.reduceAdd,Nat.reduceMul,Nat.reduceEqDiff,Nat.reduceBEq,Nat.reduceMod,Nat.reduceDiv,↓reduceIte,reduceCtorEq]
  | true =>
  have e:lI θ gt s now k nO x = (⟨s.room,((DZ s.o (kn nO k) ++ [kn nO k]).take ((DZ s.o (kn nO k) ++ [kn nO k]).length - s.room.toNat)).foldl rid (upd s.m ⟨kn nO k,nO,x,iG now (tC θ gt x).1⟩),(DZ s.o (kn nO k) ++ [kn nO k]).drop ((DZ s.o (kn nO k) ++ [kn nO k]).length - s.room.toNat),s.ch + 1⟩,0):=by
    unfold lI;rw [if_neg hno,if_neg (by rw [hl];decide)]
  rw [e]
  have hu':=fun n=>hu n (tC θ gt x).1
  generalize iG now (tC θ gt x).1 = u at hu' hun' hl ⊢
  have hw:IntKind.i64.wrap (s.ch + 1) = s.ch + 1:=zD (by omega) (by omega)
  have hwh:=fun n=>D9 (ext:=ext) (F:=F) (n:=n) k
  have hcl:=fun n=>nE (ext:=ext) (F:=F) (n:=n) C ⟨kn nO k,nO,x,u⟩ hn
  have hqq:=@wR s.o (kn nO k)
  have ht:=fun n=>LJ (ext:=ext) (F:=F) (n:=n) C s.o (kn nO k) (by omega) hF
  have hct:=fun n=>UW (ext:=ext) (F:=F) (n:=n) C (DZ s.o (kn nO k) ++ [kn nO k]) s.room (by simp;omega) (by omega) hF
  have hup:=LM s.m ⟨kn nO k,nO,x,u⟩
  simp only [kq,rN] at hup
  generalize hqt:DZ s.o (kn nO k) ++ [kn nO k] = t at ht hct ⊢
  generalize t.drop (t.length - s.room.toNat) = td at hct ⊢
  generalize htt:t.take (t.length - s.room.toNat) = tt at hct ⊢
  have htl:tt.length ≤ 1000000:=by rw [← htt,List.length_take,← hqt,List.length_append,List.length_singleton];omega
  generalize hM:upd s.m ⟨kn nO k,nO,x,u⟩ = M at hup ⊢
  cases nO
  all_goals
    simp only [kn,if_true,if_false,Bool.false_eq_true] at hup ht hct hcl
    simp only [Ai,h1,h2,hu',hun',qj,hl,hwh,hcl,ht,hct,hup,hw,go_sem,Nat.reduceAdd,Nat.reduceMul,Nat.reduceEqDiff,Nat.reduceBEq,Nat.reduceMod,Nat.reduceDiv,↓reduceIte,reduceCtorEq]
    refine uZ tt.length (fun i=>⟨[(0,PV.c (CV.one (PL.ptr 20201 0))),(14,PV.c (CV.one (PL.f (FV.sl (List.map rQ td))))),(75,PV.c (CV.one (PL.f (FV.sl (List.map rQ tt))))),(76,PV.c (CV.one (PL.f (FV.int IntKind.i64 ↑(List.map rQ tt).length)))),(77,PV.c (CV.one (PL.f (FV.int IntKind.i64 i))))],[(20201,Ob.mP [PL.f (FV.int IntKind.i64 s.room),PL.mp 20205,PL.f (FV.sl (List.map rQ s.o)),PL.f (FV.int IntKind.i64 s.ch)]),(20205,Ob.map LK (((tt.take i).foldl rid M).map ent))]⟩) (fun _=>True) (by omega) rfl trivial (fun i hi _=>?_) (fun _=>?_)
    · obtain ⟨k',hx,hlt,hit,h00⟩:=at_ hi
      have hn':=nx hi (by omega)
      have hdl:=D7 ((tt.take i).foldl rid M) k'
      have hfo:(tt.take (i + 1)).foldl rid M = rid ((tt.take i).foldl rid M) k':=by rw [List.take_add_one,hx,List.foldl_append];rfl
      simp only [List.length_map,List.getElem?_map,hlt,hx,hit,h00,hn',rQ,hdl,go_sem,Nat.reduceAdd,Nat.reduceMul,Nat.reduceEqDiff,Nat.reduceBEq,Nat.reduceMod,Nat.reduceDiv,↓reduceIte,reduceCtorEq]
      rw [hfo]
    · have hd:=@end_ _ tt
      simp only [List.length_map,hd,hw,List.take_length,go_sem,Nat.reduceAdd,Nat.reduceMul,Nat.reduceEqDiff,Nat.reduceBEq,Nat.reduceMod,Nat.reduceDiv,↓reduceIte,reduceCtorEq]
end Go.Proofs.Ytdkkgecdhapfhaa.Kn
namespace Go.Proofs.Ytdkkgecdhapfhaa.Ev
open Go Go.RowKit
def Xd : SV → TV
  | .int k n=>.f (.int k n)
  | .bool b=>.f (.bool b)
  | .str s=>.f (.str s)
def Hg (l:List SV):List AV:=l.map fun x=>.one (Xd x)
section
variable {P : Program} {Fz:Nat → Prop} {w:World}
theorem Hl {x:SV} {v:Value} {bs:List Nat}:nC Fz w (Xd x) v bs ↔ v = encS x ∧ bs = []:=by
  cases x <;> simp only [Xd,nC,eX,encS]
theorem Ea : ∀ {l:List SV} {vs:List Value} {bs:List Nat},fM Fz w (Hg l) vs bs → vs = l.map encS ∧ bs = []
  | [],[],_,h=>⟨rfl,h⟩
  | [],_ :: _,_,h=>h.elim
  | _ :: _,[],_,h=>h.elim
  | x :: l,v :: vs,_,⟨b1,b2,h1,h2,e⟩=>by
    obtain ⟨e1,e2⟩:=Hl.mp h1
    obtain ⟨e3,e4⟩:=Ea (l:=l) h2
    subst e1;subst e2;subst e3;subst e4
    exact ⟨rfl,by rw [e];rfl⟩
theorem yu : ∀ {l:List SV},fM Fz w (Hg l) (l.map encS) []
  | []=>rfl
  | x :: l=>⟨[],[],Hl.mpr ⟨rfl,rfl⟩,yu (l:=l),rfl⟩
theorem Sat.wo {f:FuncId} {g:List AV → Option (List AV × List AV)} (h:∀ fV r,g fV = some r → ∃ ZZ9 rs:List SV,fV = Hg ZZ9 ∧ r = (Hg rs,Hg ZZ9) ∧
    ∀ w:World,Calls P f (ZZ9.map encS).toArray w fun e w'=>e = .returned (ret (rs.map encS)) ∧ Below w.heap.size w w'):Sat P f g:=by
  intro fV rs rG hg Fz w vals bs ha hnd hap hfz
  obtain ⟨ZZ9,rs',rfl,e,hc⟩:=h fV _ hg
  cases e
  obtain ⟨rfl,rfl⟩:=Ea ha
  refine (hc w).mono fun e w' ⟨h1,hb'⟩=>?_
  exact ⟨Fz,rs'.map encS,[],[],h1,fun _ h=>h,fun b hb=>⟨Nat.lt_of_lt_of_le (hfz b hb) hb'.size,.inl hb⟩,hb'.size,fun b hb _=>hb'.block b hb,⟨hb'.os,hb'.output⟩,yu,yu,by simp,fun b hb=>by simp at hb⟩
def pq : List (FuncId × (List AV → Option (List AV × List AV))) → Env
  | []=>fun _ _=>none
  | (k,g) :: l=>fun f fV=>if k = f then g fV else pq l f fV
theorem yw : ∀ {l:List (FuncId × (List AV → Option (List AV × List AV)))},(∀ p ∈ l,Sat P p.1 p.2) → iE P (pq l)
  | [],_=>fun f fV rs rG h=>by cases h
  | (k,g) :: l,h=>fun f fV rs rG he=>by
    unfold pq at he
    split at he
    · rename_i e;subst e;exact h (k,g) (by simp) fV rs rG he
    · exact yw (fun p hp=>h p (List.mem_cons_of_mem _ hp)) f fV rs rG he
theorem rJ : ∀ {l:List (FuncId × (List AV → Option (List AV × List AV)))},(∀ p ∈ l,∃ fn,P.funcs[p.1]? = some fn ∧ (fn.name == "runtime.NumGoroutine") = false ∧ fn.body.isSome = true) → eu P (pq l)
  | [],_=>fun f fV r h=>by cases h
  | (k,g) :: l,h=>fun f fV r he=>by
    unfold pq at he
    split at he
    · rename_i e;subst e;exact h (k,g) (by simp)
    · exact rJ (fun p hp=>h p (List.mem_cons_of_mem _ hp)) f fV r he
end
end Go.Proofs.Ytdkkgecdhapfhaa.Ev
namespace Go.Proofs.Ytdkkgecdhapfhaa.Ev
open Go
open Go.ChangeMaps (setBlock)
def Za : SV → FV
  | .int k n=>.int k n
  | .bool b=>.bool b
  | .str s=>.str s
def Zb : KV → CV
  | .one x=>.one (.f (Za x))
  | .agg xs=>.agg (xs.map fun x=>.f (Za x))
def yx (step:St → KV → Option St) (σ:St):List KV → Option St
  | []=>some σ
  | k :: l=>(step σ k).bind fun τ=>yx step τ l
open Classical in
noncomputable def Ak (step:St → KV → Option St) (σ:St) (l:List KV):Option St :=
  if ∃ τ,∀ m:List KV,m.Perm l → yx step σ m = some τ then yx step σ l else none
def yA (ks os:List Nat) (σ:St):St:=⟨pick ks σ.tm,pick os σ.ob⟩
def yB (σ:St) (os:List Nat) (s:Nat):Option (List KV):=match get σ.tm s with
  | some (.c (.one (.mp key)))=>if os.contains key then none else match get σ.ob key with
    | some (.map _ ents)=>some (ents.map (·.1))
    | _=>none
  | _=>none
noncomputable def pz (Γ:Env) (F:Nat) (ks os:List Nat) (s:Nat) (g6:List G) (k6:List Nat) (cb:CC) (σ:St) (k:KV):Option St :=
  (wK Γ false g6 ⟨put σ.tm s (.c (Zb k)),σ.ob⟩).bind fun t=>(ev Γ F cb ⟨pick k6 t.tm,t.ob⟩).bind fun p=>match p.1 with
    | .ji=>some (yA ks os p.2)
    | _=>none
noncomputable def fin (cf:CF) (mM:List CV) (fV:List AV) (σ:St):Option (List AV × List AV):=(lF σ mM fV).bind fun b=>(slots b.2 cf.res).bind fun l=>(ou cf.ro b.2 l).map fun r=>(r.1,b.1)
noncomputable def LX (Γ:Env) (F:Nat) (ca:CC) (g4:List G) (sm:Nat) (ks os:List Nat) (s:Nat) (g6:List G) (k6:List Nat) (cb cc:CC) (cf:CF) (fV:List AV):Option (List AV × List AV) :=
  if fV.length ≠ cf.np then none else (enter cf.bo 0 [] ⟨[],[]⟩ fV).bind fun e=>(ev Γ F ca e.2).bind fun p=>match p.1 with
    | .ext _=>none
    | .ret=>fin cf e.1 fV p.2
    | .ji=>(wK Γ false g4 p.2).bind fun t=>(yB t os sm).bind fun l=>(Ak (pz Γ F ks os s g6 k6 cb) (yA ks os t) l).bind fun t=>(ev Γ F cc t).bind fun q=>match q.1 with
      | .ext _=>none
      | _=>fin cf e.1 fV q.2
theorem tH {α:Type} (f:α → Nat):∀ (l:List α) (i:Nat) (hi:i < l.length),(l.map f).Nodup → l.filter (fun x=>!(f x == f l[i])) = l.eraseIdx i
  | [],i,hi,_=>by simp at hi
  | x :: l,0,hi,h=>by
    have hc:=List.nodup_cons.mp h
    rw [List.getElem_cons_zero,List.filter_cons,List.eraseIdx_cons_zero]
    simp only [beq_self_eq_true,Bool.not_true,Bool.false_eq_true,if_false]
    refine List.filter_eq_self.mpr fun y hy=>?_
    have:f y ≠ f x:=fun e=>hc.1 (by rw [← e];exact List.mem_map_of_mem hy)
    simp [this]
  | x :: l,i + 1,hi,h=>by
    have hc:=List.nodup_cons.mp h
    have hi':i < l.length:=by simpa using hi
    rw [List.getElem_cons_succ,List.filter_cons,List.eraseIdx_cons_succ,tH f l i hi' hc.2]
    have:f x ≠ f l[i]:=fun e=>hc.1 (by rw [e];exact List.mem_map_of_mem (List.getElem_mem hi'))
    simp [this]
theorem yC {α:Type}:∀ (l:List α) (i:Nat) (h:i < l.length),(l[i] :: l.eraseIdx i).Perm l
  | [],i,h=>by simp at h
  | x :: l,0,h=>List.Perm.refl _
  | x :: l,i + 1,h=>by
    have:=yC l i (by simpa using h)
    rw [List.getElem_cons_succ,List.eraseIdx_cons_succ]
    exact (List.Perm.swap _ _ _).trans (this.cons x)
theorem Jk (es:Array MapEntry) (seen:Array Nat) (b:Nat):(leftOf es (seen.push b)).toList = (leftOf es seen).toList.filter (fun e=>!(e.born == b)):=by
  unfold leftOf
  rw [Array.toList_filter,Array.toList_filter,List.filter_filter]
  refine List.filter_congr fun e _=>?_
  rw [Array.contains_push]
  cases hb:e.born == b <;> cases hs:seen.contains e.born <;> simp_all
section
variable {P : Program} {Γ:Env} {bH Fz bK:Nat → Prop} {w0 w w':World} {bG bs:List Nat} {N N':Fr} {F:Nat} {κ eY jO:Nat → Value} {σ fI σ':St} {a a':Act} {X:Hx}
theorem U0 (k:KV):fZ Fz κ w (Zb k) (l8 k):=by
  have hl:∀ x:SV,d9 Fz κ w (.f (Za x)) (encS x):=fun x=>by cases x <;> simp only [d9,Za,eX,encS]
  cases k with
  | one x=>exact hl x
  | agg xs =>
    refine ⟨_,rfl,?_⟩
    show bA Fz κ w (xs.map fun x=>.f (Za x)) (xs.map encS)
    induction xs with
    | nil=>trivial
    | cons x xs ih=>exact ⟨hl x,ih⟩
def blks (κ:Nat → Value) (ob:List (Nat × Ob)):List Nat:=ob.filterMap fun p=>blk (κ p.1)
theorem nG {b:Nat} {ob:List (Nat × Ob)}:b ∈ blks κ ob ↔ ∃ p ∈ ob,blk (κ p.1) = some b:=List.mem_filterMap
theorem Rel.base (h:Rel bH w0 bG N Fz κ σ a w):Rel Fz w (blks κ σ.ob) N Fz κ σ a w :=
  ⟨h.tm,h.sz,h.l9,h.fs,h.ob,h.sM,fun p hp b hb=>⟨(h.pos p hp b hb).1,(h.pos p hp b hb).2.1,.inl (nG.mpr ⟨p,hp,hb⟩)⟩,fun b hb=>⟨(h.fz b hb).1,.inl hb⟩,fun _ h=>h,Nat.le_refl _,fun _ _ _=>rfl,⟨rfl,rfl⟩⟩
theorem Rel.old (h:Rel bH w0 bG N Fz κ σ a w) {b:Nat} (hb:b ∈ blks κ σ.ob):¬ Fz b ∧ b < w.heap.size ∧ (b ∈ bG ∨ w0.heap.size ≤ b):=by
  obtain ⟨p,hp,hb⟩:=nG.mp hb
  exact h.pos p hp b hb
theorem Rel.U1 (h:Rel bH w0 bG N Fz κ σ a w) (k:Rel Fz w (blks κ σ.ob) N' bK eY σ' a' w'):Rel bH w0 bG N' bK eY σ' a' w' :=
  ⟨k.tm,k.sz,k.l9,k.fs,k.ob,k.sM,fun p hp b hb=>by
    obtain ⟨g1,g2,g3⟩:=k.pos p hp b hb
    refine ⟨g1,g2,?_⟩
    rcases g3 with g | g
    · exact (h.old g).2.2
    · exact .inr (Nat.le_trans h.big g),
  fun b hb=>⟨(k.fz b hb).1,by
    rcases (k.fz b hb).2 with g | g | g
    · exact (h.fz b g).2
    · exact .inr (h.old g).2.2
    · exact .inr (.inr (Nat.le_trans h.big g))⟩,
  fun b hb=>k.wL b (h.wL b hb),Nat.le_trans h.big k.big,fun b h1 h2=>by
    refine (k.ext b (Nat.lt_of_lt_of_le h1 h.big) fun hm=>?_).trans (h.ext b h1 h2)
    rcases (h.old hm).2.2 with g | g
    · exact h2 g
    · exact Nat.not_lt.mpr g h1,h.kp.trans k.kp⟩
theorem Rel.aside (h:Rel bH w0 bG N Fz κ σ a w) {r:Nat} (hs:w'.heap.size = w.heap.size) (hb:∀ b,b ≠ r → w'.heap[b]? = w.heap[b]?) (h0:w0.heap.size ≤ r) (hF:¬ Fz r) (hO:r ∉ blks κ σ.ob) (hkp:Kp w w'):Rel bH w0 bG N Fz κ σ a w':=by
  have hf:∀ b,Fz b → w'.heap[b]? = w.heap[b]?:=fun b hb'=>hb b fun e=>hF (e ▸ hb')
  exact ⟨fun p hp=>jk.mono (fun _ h=>h) hf (fun _ _=>rfl) (h.tm p hp),h.sz,h.l9,h.fs,
    fun p hp=>iC.mono (fun _ h=>h) hf (fun _ _=>rfl) (fun b hb'=>hb b fun e=>hO (nG.mpr ⟨p,hp,e ▸ hb'⟩)) (h.ob p hp),h.sM,
    fun p hp b hb'=>⟨(h.pos p hp b hb').1,by rw [hs];exact (h.pos p hp b hb').2.1,(h.pos p hp b hb').2.2⟩,fun b hb'=>⟨by rw [hs];exact (h.fz b hb').1,(h.fz b hb').2⟩,h.wL,by rw [hs];exact h.big,
    fun b h1 h2=>(hb b (by omega)).trans (h.ext b h1 h2),h.kp.trans hkp⟩
theorem Rel.Jl (h:Rel bH w0 bG N Fz κ σ a w) {d:Nat} (hd:N.ok d = true) (hn:∀ p ∈ σ.tm,p.1 ≠ d) (v:Value):Rel bH w0 bG N Fz κ σ (a.put (some d) v) w:=by
  have h1:=h.put hd (pv:=.c (.one .any)) (v:=v) trivial
  refine ⟨fun p hp=>?_,h1.sz,h1.l9,h1.fs,h1.ob,h1.sM,h1.pos,h1.fz,h1.wL,h1.big,h1.ext,h1.kp⟩
  have:=h.tm p hp
  have hne:=hn p hp
  simp only [Act.put,Array.getD_eq_getD_getElem?,Array.getElem?_setIfInBounds] at this ⊢
  rw [if_neg (fun e=>hne e.symm)]
  exact this
theorem tJ {α:Type} {ks:List Nat} {l:List (Nat × α)} {p:Nat × α} (h:p ∈ pick ks l):p.1 ∈ ks:=by
  obtain ⟨i,h1,h2⟩:=List.mem_filterMap.mp h
  obtain ⟨v,h3,h4⟩:=zmm h2
  subst h4
  exact h1
theorem nH (h:a.tmps.size = N.n) {d:Nat} (hd:d < N.n) (v:Value) (e:Nat):(a.put (some d) v).tmps.getD e undef = if e = d then v else a.tmps.getD e undef:=by
  simp only [Act.put,Array.getD_eq_getD_getElem?,Array.getElem?_setIfInBounds]
  by_cases he:e = d
  · subst he;rw [if_pos rfl,if_pos (by omega),if_pos rfl];rfl
  · rw [if_neg (fun x=>he x.symm),if_neg he]
theorem Ho (heq:∀ t ∈ X.eqs,kX P t) (kL:iE P Γ) (hC:eu P Γ) {ops:Array Oper} {Q:Exit → Act → World → Prop} {rest:List Oper}:∀ {l:List Oper} {gs:List G} {σ:St} {a:Act} {w:World},jG P X ops N.ok l = some gs → Ok bH w0 bG N jO σ a w → wK Γ false gs σ = some σ' → (∀ a' w',Ok bH w0 bG N jO σ' a' w' → wpList P ops Q rest a' w') → wpList P ops Q (l ++ rest) a w
  | [],gs,σ,a,w,hc,h,hE,hQ=>by cases hc;cases hE;exact hQ a w h
  | o :: l,gs,σ,a,w,hc,h,hE,hQ=>by
    obtain ⟨g,h1,h2⟩:=zbm hc
    obtain ⟨r,h3,rfl⟩:=zmm h2
    obtain ⟨s,h4,h5⟩:=zbm hE
    exact xQ heq kL hC h1 h h4 (fun a' w' h'=>Ho heq kL hC h3 h' h5 hQ)
structure Rg (bH:Nat → Prop) (w0:World) (bG:List Nat) (N:Fr) (jO:Nat → Value) (r bm:Nat) (es:Array MapEntry) (clock:Nat) (seen:Array Nat) (lk:List KV) (σ:St) (a:Act) (w:World):Prop where
  ok:∃ Fz κ,Rel bH w0 bG N Fz κ σ a w ∧ (∀ k,k % 2 = 1 → κ k = jO k) ∧ ¬ Fz r ∧ r ∉ blks κ σ.ob ∧ bm ∉ blks κ σ.ob
  it:w.heap[r]? = some (.mapIter (some bm) clock seen clock)
  mp:w.heap[bm]? = some (.map es clock)
  lf:(leftOf es seen).toList.map (·.key) = lk.map l8
  r0:w0.heap.size ≤ r
  ne:bm ≠ r
theorem O6 {w1:World} (h:w1 = w ∨ w1 = w.drew) (r:Nat) (o:Obj):Kp w (setBlock w1 r o) ∧ (setBlock w1 r o).heap.size = w.heap.size ∧ (∀ b,b ≠ r → (setBlock w1 r o).heap[b]? = w.heap[b]?) ∧ (r < w.heap.size → (setBlock w1 r o).heap[r]? = some o):=by
  have e:w1.heap = w.heap ∧ w1.os = w.os ∧ w1.output = w.output:=by rcases h with rfl | rfl <;> exact ⟨rfl,rfl,rfl⟩
  obtain ⟨e1,e2,e3⟩:=e
  refine ⟨⟨e2,e3⟩,by simp [setBlock,e1],fun b hb=>?_,fun hr=>by simp [setBlock,Array.getElem?_setIfInBounds,e1,hr]⟩
  simp only [setBlock,Array.getElem?_setIfInBounds,e1]
  rw [if_neg (fun e=>hb e.symm)]
def Al (d s ty:Nat) (pos:String) (FQ:Array Edge):Oper:={ dst:=some d,op:=.next (.tmp s) false,type:=ty,pos:=pos,after:=FQ,guard:=none }
def Eb (d s i ty:Nat) (pos:String) (FQ:Array Edge):Oper:={ dst:=some d,op:=.extract (.tmp s) i,type:=ty,pos:=pos,after:=FQ,guard:=none }
def BU (d s ty:Nat) (pos:String) (FQ:Array Edge):Oper:={ dst:=some d,op:=.entry (.tmp s),type:=ty,pos:=pos,after:=FQ,guard:=none }
def BX (d s mt ty:Nat) (pos:String) (FQ:Array Edge):Oper:={ dst:=some d,op:=.range mt (.tmp s),type:=ty,pos:=pos,after:=FQ,guard:=none }
theorem rM {o:Oper} {v:Value} {ops:Array Oper} {rest:List Oper} {Q:Exit → Act → World → Prop} (hg:o.guard = none) (hr:(execOp a.eval o).run P w = .ok (.value v) w') (h:wpList P ops Q rest (a.put o.dst v) w'):wpList P ops Q (o :: rest) a w:=by
  unfold wpList
  rw [if_pos (show Region.wanted o _ = true by unfold Region.wanted;rw [hg])]
  left
  unfold Oper.wp
  rw [hr]
  exact h
theorem Ec {d s ty:Nat} {pos:String} {FQ:Array Edge} {v:Value} {r:Nat} (hs:a.tmps.getD s undef = .pointer (some ⟨r,0,none⟩)) (h:(Instr.next (.pointer (some ⟨r,0,none⟩)) false ty).run P w = .ok v w'):(execOp a.eval (Al d s ty pos FQ)).run P w = .ok (.value v) w':=by
  unfold execOp Al
  simp [Act.eval,hs,h]
theorem Jm {d s ty:Nat} {pos:String} {FQ:Array Edge} {v:Value} {r:Nat} (hs:a.tmps.getD s undef = .pointer (some ⟨r,0,none⟩)) (h:(Instr.entry (.pointer (some ⟨r,0,none⟩))).run P w = .ok v w'):(execOp a.eval (BU d s ty pos FQ)).run P w = .ok (.value v) w':=by
  unfold execOp BU
  simp [Act.eval,hs,h]
theorem Jo {d s mt ty b:Nat} {pos:String} {FQ:Array Edge} {v:Value} (hs:a.tmps.getD s undef = .map (some b)) (h:(Instr.range mt (.map (some b))).run P w = .ok v w'):(execOp a.eval (BX d s mt ty pos FQ)).run P w = .ok (.value v) w':=by
  unfold execOp BX
  simp [Act.eval,hs,h]
theorem BZ {d s i ty:Nat} {pos:String} {FQ:Array Edge} {v:Value} {vs:Array Value} (hs:a.tmps.getD s undef = .tuple vs) (h:vs[i]? = some v):(execOp a.eval (Eb d s i ty pos FQ)).run P w = .ok (.value v) w:=by
  unfold execOp Eb
  simp [Act.eval,hs,Instr.extract,h]
theorem vQ {ty r bm clock:Nat} {seen:Array Nat} {es:Array MapEntry} (hr:w.heap[r]? = some (.mapIter (some bm) clock seen clock)) (hb:w.heap[bm]? = some (.map es clock)) (hB:Mq.Bn es clock) :
    ((leftOf es seen).size = 0 ∧ (Instr.next (.pointer (some ⟨r,0,none⟩)) false ty).run P w = .ok (.tuple #[.bool false]) w) ∨
    ∃ e ∈ (leftOf es seen).toList,∃ w1:World,(w1 = w ∨ w1 = w.drew) ∧ (Instr.next (.pointer (some ⟨r,0,none⟩)) false ty).run P w = .ok (.tuple #[.bool true,e.key,e.val]) (setBlock w1 r (.mapIter (some bm) clock (seen.push e.born) clock)) :=
  run_next_at w ty r bm clock clock seen es clock hr hb hB.2 (Nat.le_refl _)
theorem Jp (hm:P.follows .mixedOrders = true) (heq:∀ t ∈ X.eqs,kX P t) (kL:iE P Γ) (hC:eu P Γ) {b:Code} {i5 i6 b0 b1 sit sn sb se sk t1 t2 t3 t4:Nat} {p1 p2 p3 p4:String} {f1 f2 f3 f4:Array Edge} {FR:Array Oper} {l6:List Oper} {g6:List G} {k6 ks os:List Nat} {cb:CC} {hb rb:List Hi}
    (h6:FR.toList = BU se sit t3 p3 f3 :: Eb sk se 0 t4 p4 f4 :: l6) (hc6:jG P X FR N.ok l6 = some g6) (hcb:comp P X N.ok b hb = some (cb,rb))
    (hok:N.ok sn = true ∧ N.ok sb = true ∧ N.ok se = true ∧ N.ok sk = true) (hd1:sn ≠ sb ∧ se ≠ sk) (hks:sn ∉ ks ∧ sb ∉ ks ∧ se ∉ ks) (hos:True)
    {r bm clock:Nat} {es:Array MapEntry} (hB:Mq.Bn es clock) (hit:N.ok sit = false ∧ N.vs sit = .pointer (some ⟨r,0,none⟩)) {τ:St} {Q:Exit → Act → World → Prop} (hQ:∀ a' w',Ok bH w0 bG N jO τ a' w' → Q (.exit b0) a' w') :
    ∀ (n:Nat) (lk:List KV) (seen:Array Nat) (σ:St) (a:Act) (w:World),lk.length = n → Rg bH w0 bG N jO r bm es clock seen lk σ a w → (∀ p ∈ σ.tm,p.1 ∈ ks) → (∀ m:List KV,m.Perm lk → yx (pz Γ F ks os sk g6 k6 cb) σ m = some τ) →
      Code.rounds P (.seq (.region i5 #[Al sn sit t1 p1 f1,Eb sb sn 0 t2 p2 f2] false) (.seq (.cond (.tmp sb) .skip (.exit b0)) (.block b1 (.seq (.region i6 FR false) b)))) Q (n + 1) a w:=by
  intro n
  induction n with
  | zero =>
    intro lk seen σ a w hn hR hσ hf
    obtain ⟨Fz,κ,hr,hk,g1,g2,g3⟩:=hR.ok
    have hits:a.tmps.getD sit undef = .pointer (some ⟨r,0,none⟩):=(hr.fs sit hit.1).trans hit.2
    have hlk:lk = []:=List.length_eq_zero_iff.mp hn
    subst hlk
    have hz:(leftOf es seen).toList = []:=by have:=hR.lf;simpa using this
    rw [rounds_succ]
    refine wp_seq (wp_region_list ?_)
    show wpList P _ _ [Al sn sit t1 p1 f1,Eb sb sn 0 t2 p2 f2] a w
    rcases vQ (P:=P) (ty:=t1) hR.it hR.mp hB with ⟨-,hrun⟩ | ⟨e,he,_⟩
    · refine rM rfl (Ec hits hrun) (rM rfl (BZ (i:=0) (v:=.bool false) (vs:=#[.bool false]) ?_ rfl) ?_)
      · exact (nH hr.sz (N.lt _ hok.1) _ _).trans (if_pos rfl)
      · have h1:=(hr.Jl hok.1 (fun p hp e=>hks.1 (e ▸ hσ p hp)) (.tuple #[.bool false]))
        have h2:=h1.Jl hok.2.1 (fun p hp e=>hks.2.1 (e ▸ hσ p hp)) (.bool false)
        refine wp_seq (wp_cond_false (show _ = _ from (nH h1.sz (N.lt _ hok.2.1) _ _).trans (if_pos rfl)) (wp_exit ?_))
        have:=hf [] (List.Perm.refl _)
        cases this
        exact hQ _ _ ⟨Fz,κ,h2,hk⟩
    · rw [hz] at he;cases he
  | succ n ih =>
    intro lk seen σ a w hn hR hσ hf
    obtain ⟨Fz,κ,hr,hk,g1,g2,g3⟩:=hR.ok
    have hits:a.tmps.getD sit undef = .pointer (some ⟨r,0,none⟩):=(hr.fs sit hit.1).trans hit.2
    have hlen:(leftOf es seen).toList.length = lk.length:=by have:=congrArg List.length hR.lf;simpa using this
    rw [rounds_succ]
    refine wp_seq (wp_region_list ?_)
    show wpList P _ _ [Al sn sit t1 p1 f1,Eb sb sn 0 t2 p2 f2] a w
    rcases vQ (P:=P) (ty:=t1) hR.it hR.mp hB with ⟨hz, -⟩ | ⟨e,he,w1,hw1,hrun⟩
    · rw [Array.length_toList] at hlen;omega
    obtain ⟨i,hi,rfl⟩:=List.getElem_of_mem he
    generalize he':(leftOf es seen).toList[i] = e at hrun he
    have hil:i < lk.length:=by omega
    obtain ⟨k,hkk⟩:∃ k,k = lk[i]:=⟨_,rfl⟩
    have hkey:e.key = l8 k:=by
      have:=congrArg (fun l:List Value=>l[i]?) hR.lf
      simp only [List.getElem?_map,List.getElem?_eq_getElem hi,List.getElem?_eq_getElem hil,Option.map_some,Option.some.injEq] at this
      rw [hkk,← he'];exact this
    have hmem:e ∈ es.toList:=by
      exact (mem_left he).1
    have aeL:r < w.heap.size:=(Array.getElem?_eq_some_iff.mp hR.it).1
    have hblt:bm < w.heap.size:=(Array.getElem?_eq_some_iff.mp hR.mp).1
    obtain ⟨d1,d2,d3,d4⟩:=O6 hw1 r (.mapIter (some bm) clock (seen.push e.born) clock)
    generalize setBlock w1 r (.mapIter (some bm) clock (seen.push e.born) clock) = u at hrun d1 d2 d3 d4
    have hur:=d4 aeL
    have hub:u.heap[bm]? = some (.map es clock):=(d3 bm hR.ne).trans hR.mp
    have hperm:(k :: lk.eraseIdx i).Perm lk:=by rw [hkk];exact yC lk i hil
    obtain ⟨σ',hst,hf'⟩:∃ σ',pz Γ F ks os sk g6 k6 cb σ k = some σ' ∧ ∀ m:List KV,m.Perm (lk.eraseIdx i) → yx (pz Γ F ks os sk g6 k6 cb) σ' m = some τ:=by
      have h0:=hf _ hperm
      obtain ⟨σ',h1,_⟩:=zbm h0
      refine ⟨σ',h1,fun m hm'=>?_⟩
      have h2:=hf (k :: m) ((hm'.cons k).trans hperm)
      obtain ⟨ahq,h3,h4⟩:=zbm h2
      rw [h1] at h3
      cases h3
      exact h4
    obtain ⟨t,Sd,hst⟩:=zbm hst
    obtain ⟨p,hEb,hst⟩:=zbm hst
    cases hp:p.1 with
    | ext j=>rw [hp] at hst;cases hst
    | ret=>rw [hp] at hst;cases hst
    | ji =>
    rw [hp] at hst
    cases hst
    refine rM rfl (Ec hits hrun) (rM rfl (BZ (i:=0) (v:=.bool true) (vs:=#[.bool true,e.key,e.val]) ?_ rfl) ?_)
    · exact (nH hr.sz (N.lt _ hok.1) _ _).trans (if_pos rfl)
    have h0:=hr.aside d2 d3 hR.r0 g1 g2 d1
    have h1:=(h0.Jl hok.1 (fun p hp e=>hks.1 (e ▸ hσ p hp)) (.tuple #[.bool true,e.key,e.val]))
    have h2:=h1.Jl hok.2.1 (fun p hp e=>hks.2.1 (e ▸ hσ p hp)) (.bool true)
    refine wp_seq (wp_cond_true (show _ = _ from (nH h1.sz (N.lt _ hok.2.1) _ _).trans (if_pos rfl)) (wp_skip ?_))
    refine wp_block (wp_seq (wp_region_list ?_))
    rw [h6]
    have Zc:=(h2.fs sit hit.1).trans hit.2
    refine rM rfl (Jm Zc (run_entry_at u r bm clock seen es clock e hur hub hmem hB.1)) (rM rfl (BZ (i:=0) (v:=e.key) (vs:=#[e.key,e.val]) ?_ rfl) ?_)
    · exact (nH h2.sz (N.lt _ hok.2.2.1) _ _).trans (if_pos rfl)
    have h3:=h2.Jl hok.2.2.1 (fun p hp e=>hks.2.2 (e ▸ hσ p hp)) (.tuple #[e.key,e.val])
    have h4:=h3.put hok.2.2.2 (pv:=.c (Zb k)) (v:=e.key) (by rw [hkey];exact U0 k)
    refine Fv heq kL hC hc6 ⟨Fz,κ,h4.base,hk⟩ Sd fun a5 u5 k5=>?_
    show b.wp P _ a5 u5
    refine Ad hm heq kL hC b hcb (k5.keep k6) hEb fun a6 u6 k7=>?_
    rw [hp]
    show Code.rounds P _ Q (n + 1) a6 u6
    obtain ⟨F6,κ6,Zd,hk6⟩:=k7
    have hrb:r ∉ blks κ σ.ob:=g2
    have hbb:bm ∉ blks κ σ.ob:=g3
    have hru:r < u.heap.size:=by omega
    have hbu:bm < u.heap.size:=by omega
    have nob:∀ x,x < u.heap.size → x ∉ blks κ σ.ob → x ∉ blks κ6 (pick os p.2.ob):=fun x hx hnx hmx=>by
      obtain ⟨q,hq,hqb⟩:=nG.mp hmx
      rcases (Zd.pos q (iq hq) x hqb).2.2 with g | g
      · exact hnx g
      · omega
    refine ih (lk.eraseIdx i) (seen.push e.born) _ a6 u6 ?_ ⟨⟨F6,κ6,(h4.U1 Zd).res ks os,hk6,fun hx=>?_,nob r hru hrb,nob bm hbu hbb⟩,?_,?_,?_,hR.r0,hR.ne⟩ (fun q hq=>tJ hq) hf'
    · rw [List.length_eraseIdx,if_pos hil];omega
    · rcases (Zd.fz r hx).2 with g | g | g
      · exact g1 g
      · exact hrb g
      · omega
    · exact (Zd.ext r hru hrb).trans hur
    · exact (Zd.ext bm hbu hbb).trans hub
    · rw [Jk,← he',tH (fun x:MapEntry=>x.born) _ i hi ?_,Mq.kR,Mq.kR,hR.lf]
      have:(leftOf es seen).toList.Sublist es.toList:=by unfold leftOf;rw [Array.toList_filter];exact List.filter_sublist
      exact (this.map _).nodup hB.1
theorem Rel.narrow (h:Rel bH w0 bG N Fz κ σ a w) (hn:N.ds = []) (s:Nat):Rel bH w0 bG ⟨N.n,[],fun d=>N.ok d && !(d == s),fun d hd=>N.lt d (by rw [Bool.and_eq_true] at hd;exact hd.1),fun d=>a.tmps.getD d undef⟩ Fz κ σ a w :=
  ⟨h.tm,h.sz,h.l9.trans hn,fun _ _=>rfl,h.ob,h.sM,h.pos,h.fz,h.wL,h.big,h.ext,h.kp⟩
theorem FT (hm:P.follows .mixedOrders = true) (heq:∀ t ∈ X.eqs,kX P t) (kL:iE P Γ) (hC:eu P Γ) {f:FuncId} {fn:Func} {a1 a2 a3 b c:Code} {i4 i5 i6 b0 b1 sit sn sb se sk sm mt kt et t0 t1 t2 t3 t4:Nat} {p0 p1 p2 p3 p4:String} {f0 f1 f2 f3 f4:Array Edge} {Jq FR:Array Oper} {l6:List Oper} {g4 g6:List G} {k6 ks os:List Nat} {cf:CF} {ca cb cc:CC} {ha hb hc ra rb rc:List Hi}
    (hf:P.funcs[f]? = some fn)
    (hbd:fn.body = some (.seq a1 (.seq a2 (.seq a3 (.seq (.seq (.region i4 Jq false) (.block b0 (.loop (.seq (.region i5 #[Al sn sit t1 p1 f1,Eb sb sn 0 t2 p2 f2] false) (.seq (.cond (.tmp sb) .skip (.exit b0)) (.block b1 (.seq (.region i6 FR false) b))))))) c)))))
    (h4:Jq.toList.getLast? = some (BX sit sm mt t0 p0 f0)) (h6:FR.toList = BU se sit t3 p3 f3 :: Eb sk se 0 t4 p4 f4 :: l6) (hmt:P.underlying mt = some (.map kt et))
    (hca:comp P X (IX fn.ntmps) (.seq a1 (.seq a2 a3)) ha = some (ca,ra)) (hc4:jG P X Jq (IX fn.ntmps) Jq.toList.dropLast = some g4) (hc6:jG P X FR (fun d=>IX fn.ntmps d && !(d == sit)) l6 = some g6)
    (hcb:comp P X (fun d=>IX fn.ntmps d && !(d == sit)) b hb = some (cb,rb)) (hcc:comp P X (fun d=>IX fn.ntmps d && !(d == sit)) c hc = some (cc,rc)) (hr:mU P fn.results.toList = some cf.res) (hnp:cf.np ≤ fn.ntmps)
    (hlt:sit < fn.ntmps ∧ sn < fn.ntmps ∧ sb < fn.ntmps ∧ se < fn.ntmps ∧ sk < fn.ntmps) (hd0:sn ≠ sit ∧ sb ≠ sit ∧ se ≠ sit ∧ sk ≠ sit) (hd1:sn ≠ sb ∧ se ≠ sk) (aeM:sit ∉ ks) (hks:sn ∉ ks ∧ sb ∉ ks ∧ se ∉ ks)
    (F:Nat):Sat P f (LX Γ F ca g4 sm ks os sk g6 k6 cb cc cf):=by
  intro fV rs rG hE Fz w vals bs V7 hnd hap hfz
  unfold LX at hE
  split at hE
  · cases hE
  rename_i hlen
  have hlen':fV.length = cf.np:=Decidable.not_not.mp hlen
  have hvl:vals.length = fV.length:=V7.len
  obtain ⟨e,h1,hE0⟩:=zbm hE
  clear hE
  obtain ⟨p,h2,hE1⟩:=zbm hE0
  clear hE0
  refine calls_of_wp hf hbd ?_
  have hsz:(vals.toArray ++ Array.replicate (fn.ntmps - vals.toArray.size) undef).size = fn.ntmps:=by simp;omega
  obtain ⟨jO,hok,g2⟩:=entered (bo:=cf.bo) V7 hnd hap hfz hsz h1
  have done:∀ (N:Fr) (σ:St) a' w',N.ds = [] → Ok Fz w bs N jO σ a' w' → fin cf e.1 fV σ = some (rs,rG) → a'.defers = [] ∧ ∃ v,(results fn a'.tmps).run P w' = .ok v w' ∧ ∃ bK uW b1 b2,Ending.returned v = .returned (ret uW) ∧ Post Fz w vals bs rs rG bK w' uW b1 b2:=by
    intro N σ a' w' hN hO hF
    obtain ⟨k1,k2⟩:=Ll hr V7 hap hfz g2 a' w' hO hF
    exact ⟨k1.trans hN,k2⟩
  obtain ⟨x1,hx1,hx2⟩:=zbm hca
  obtain ⟨x2,hx3,hx4⟩:=zmm hx2
  cases hx4
  obtain ⟨z1,hz1,hz2⟩:=zbm hx3
  obtain ⟨z2,hz3,hz4⟩:=zmm hz2
  cases hz4
  obtain ⟨y1,hy1,hy2⟩:=zbm h2
  refine wp_seq (Ad hm heq kL hC a1 hx1 hok hy1 fun b1 u1 k1=>?_)
  cases hy:y1.1 with
  | ext j=>rw [hy] at hy2;cases hy2;cases hE1
  | ret=>rw [hy] at hy2;cases hy2;exact done _ _ _ _ rfl k1 hE1
  | ji =>
  rw [hy] at hy2
  obtain ⟨y2,hy3,hy4⟩:=zbm hy2
  refine wp_seq (Ad hm heq kL hC a2 hz1 k1 hy3 fun b2 u2 k2=>?_)
  cases hyy:y2.1 with
  | ext j=>rw [hyy] at hy4;cases hy4;cases hE1
  | ret=>rw [hyy] at hy4;cases hy4;exact done _ _ _ _ rfl k2 hE1
  | ji =>
  rw [hyy] at hy4
  refine wp_seq (Ad hm heq kL hC a3 hz3 k2 hy4 fun b3 u3 k3=>?_)
  cases hp:p.1 with
  | ext j=>rw [hp] at hE1;cases hE1
  | ret=>rw [hp] at hE1;exact done _ _ _ _ rfl k3 hE1
  | ji =>
  rw [hp] at hE1
  obtain ⟨t,hE4,hE2⟩:=zbm hE1
  obtain ⟨l,hl,hE3⟩:=zbm hE2
  obtain ⟨τ,Ze,hE5⟩:=zbm hE3
  obtain ⟨q,hEc,Sd⟩:=zbm hE5
  clear hE1 hE2 hE3 hE5
  show (Code.seq _ c).wp P _ b3 u3
  refine wp_seq (wp_seq (wp_region_list ?_))
  have h4':Jq.toList = Jq.toList.dropLast ++ [BX sit sm mt t0 p0 f0]:=by
    obtain ⟨ys,hy⟩:=List.getLast?_eq_some_iff.mp h4
    rw [hy,List.dropLast_concat]
  rw [h4']
  refine Ho heq kL hC hc4 k3 hE4 fun b4 u4 k4=>?_
  obtain ⟨F4,κ4,hr4,hk4⟩:=k4
  unfold yB at hl
  split at hl
  case h_2=>cases hl
  rename_i key hkey
  split at hl
  · cases hl
  rename_i aeN
  split at hl
  case h_2=>cases hl
  rename_i sh ents fU
  cases hl
  obtain ⟨bm,hb1,m,hAt,hRE, -⟩:=hr4.obj fU
  obtain ⟨es,clock,m0,m1,m2,hB⟩:=hAt.ex
  have hv:b4.tmps.getD sm undef = .map (some bm):=by
    have:jk F4 κ4 u4 (.c (.one (.mp key))) (b4.tmps.getD sm undef):=hr4.val hkey
    exact this.1.trans hb1
  have hpos:=hr4.pos _ (get_mem fU) bm (by rw [hb1];rfl)
  have hgr:∀ x,x < u4.heap.size → (u4.alloc (.mapIter (some bm) clock #[] clock)).heap[x]? = u4.heap[x]?:=fun x hx=>(jV u4 _).2.1 x hx
  have hnew:=(jV u4 (.mapIter (some bm) clock #[] clock)).1
  have ahr:=(jV u4 (.mapIter (some bm) clock #[] clock)).2.2
  refine rM rfl (Jo hv (run_range_map u4 mt kt et bm es clock hmt m0)) ?_
  have h5:=hr4.grow (w':=u4.alloc (.mapIter (some bm) clock #[] clock)) (by omega) hgr ⟨rfl,rfl⟩
  have h6':=(h5.less (σ':=yA ks os t) (fun p hp=>iq hp) (fun p hp=>iq hp)).Jl (show (Fr.of fn.ntmps).ok sit = true by simpa [Fr.of,IX] using hlt.1) (fun p hp e=>aeM (e ▸ tJ hp)) (.pointer (some ⟨u4.heap.size,0,none⟩))
  have aeO:(b4.put (some sit) (.pointer (some ⟨u4.heap.size,0,none⟩))).tmps.getD sit undef = .pointer (some ⟨u4.heap.size,0,none⟩):=(nH h5.sz hlt.1 _ sit).trans (if_pos rfl)
  have h7:=h6'.narrow rfl sit
  unfold Ak at Ze
  split at Ze
  case isFalse=>cases Ze
  rename_i hall
  obtain ⟨τ',hall⟩:=hall
  rw [hall _ (List.Perm.refl _)] at Ze
  cases Ze
  have sl:∀ d,d < fn.ntmps → d ≠ sit → (IX fn.ntmps d && !(d == sit)) = true:=fun d h1 h2=>by simp [IX,h1,h2]
  show (Code.block b0 _).wp P _ _ _
  have hbm:bm < u4.heap.size:=hpos.2.1
  refine wp_block (wp_loop_rounds ((ents.map (·.1)).length + 1) (Jp (τ:=τ) hm heq kL hC h6 hc6 hcb ⟨sl _ hlt.2.1 hd0.1,sl _ hlt.2.2.1 hd0.2.1,sl _ hlt.2.2.2.1 hd0.2.2.1,sl _ hlt.2.2.2.2 hd0.2.2.2⟩ hd1 hks trivial hB ⟨by simp,aeO⟩ (fun a' w' hO=>?_) _ (ents.map (·.1)) #[] (yA ks os t) _ _ rfl
    ⟨⟨F4,κ4,h7,hk4,fun hx=>?_,fun hx=>?_,fun hx=>?_⟩,hnew,(hgr bm hbm).trans m0,?_,hr4.big,Nat.ne_of_lt hbm⟩ (fun p hp=>tJ hp) hall))
  · show if b0 = b0 then _ else _
    rw [if_pos rfl]
    show c.wp P _ a' w'
    refine Ad hm heq kL hC c hcc hO hEc fun a8 w8 k8=>?_
    cases hq:q.1 with
    | ext j=>rw [hq] at Sd;cases Sd
    | ji=>rw [hq] at Sd;exact done _ _ _ _ rfl k8 Sd
    | ret=>rw [hq] at Sd;exact done _ _ _ _ rfl k8 Sd
  · have:=(hr4.fz _ hx).1;omega
  · obtain ⟨z,hz,hzb⟩:=nG.mp hx
    have:=(hr4.pos z (iq hz) _ hzb).2.1;omega
  · obtain ⟨z,hz,hzb⟩:=nG.mp hx
    have hne:z.1 ≠ key:=fun e=>by
      have:=tJ hz
      rw [e] at this
      exact aeN (List.elem_iff.mpr this)
    exact hr4.sM z (iq hz) _ (get_mem fU) bm hne hzb (by rw [hb1];rfl)
  · have he:(leftOf es #[]).toList = es.toList:=by
      unfold leftOf
      rw [Array.toList_filter]
      exact List.filter_eq_self.mpr fun e _=>by simp
    rw [he,m1,hRE.keys,List.map_map]
    rfl
end
end Go.Proofs.Ytdkkgecdhapfhaa.Ev
set_option maxRecDepth 4000
namespace Go.Proofs.Ytdkkgecdhapfhaa.Ev
open Go
section
variable {Γ : Env} {F s sm:Nat} {ks os k6:List Nat} {g4 g6:List G} {ca cb cc:CC} {cf:CF} {fV:List AV} {mM:List CV} {σ:St} {kk:KV}
def Xe : Out → (Unit → Prop) → (Unit → Prop) → Prop
  | .ret,A,_=>A ()
  | .ji,_,B=>B ()
  | .ext _,_,_=>False
@[go_sem] theorem ab5 {A B:Unit → Prop}:Xe .ret A B ↔ A ():=Iff.rfl
@[go_sem] theorem ab6 {A B:Unit → Prop}:Xe .ji A B ↔ B ():=Iff.rfl
def kB : Option Ob → Option (List KV)
  | some (.map _ ents)=>some (ents.map (·.1))
  | _=>none
def kA (os:List Nat) (ob:List (Nat × Ob)):Option PV → Option (List KV)
  | some (.c (.one (.mp key)))=>if os.contains key then none else kB (get ob key)
  | _=>none
@[go_sem] theorem aeP {sh:KS} {ents:List (KV × FC)}:kB (some (.map sh ents)) = some (ents.map (·.1)):=rfl
@[go_sem] theorem Xf : yB σ os s = kA os σ.ob (get σ.tm s):=rfl
@[go_sem] theorem Zf : yA ks os σ = ⟨pick ks σ.tm,pick os σ.ob⟩:=rfl
@[go_sem ↓] theorem agd {k:List AV × List AV → Prop} {u:Tok k}:W k u (fin cf mM fV σ) ↔ W (fun b=>W (fun l=>W (fun r=>k (r.1,b.1)) ⟨⟩ (ou cf.ro b.2 l)) ⟨⟩ (slots b.2 cf.res)) ⟨⟩ (lF σ mM fV):=by
  simp only [fin,dW,bB,cu]
@[go_sem ↓] theorem ab7 {k:St → Prop} {u:Tok k}:W k u (pz Γ F ks os s g6 k6 cb σ kk) ↔ W (fun t=>W (fun p=>p.1 = .ji ∧ k (yA ks os p.2)) ⟨⟩ (ev Γ F cb ⟨pick k6 t.tm,t.ob⟩)) ⟨⟩ (wK Γ false g6 ⟨put σ.tm s (.c (Zb kk)),σ.ob⟩):=by
  simp only [pz,dW,bB]
  refine dx fun t=>dx fun p=>?_
  obtain ⟨o,σ'⟩:=p
  cases o <;> simp [mh,bJ]
@[go_sem ↓] theorem aeQ {k:List AV × List AV → Prop} {u:Tok k}:W k u (LX Γ F ca g4 sm ks os s g6 k6 cb cc cf fV) ↔ fV.length = cf.np ∧ W (fun e=>W (fun p=>Xe p.1 (fun _=>W k ⟨⟩ (fin cf e.1 fV p.2)) (fun _=>W (fun t=>W (fun l=>W (fun t=>W (fun q=>(∀ id,q.1 ≠ .ext id) ∧ W k ⟨⟩ (fin cf e.1 fV q.2)) ⟨⟩ (ev Γ F cc t)) ⟨⟩ (Ak (pz Γ F ks os s g6 k6 cb) (yA ks os t) l)) ⟨⟩ (yB t os sm)) ⟨⟩ (wK Γ false g4 p.2))) ⟨⟩ (ev Γ F ca e.2)) ⟨⟩ (enter cf.bo 0 [] ⟨[],[]⟩ fV):=by
  simp only [LX,dW,dH,bB,ne_eq,Decidable.not_not]
  refine and_congr Iff.rfl (dx fun e=>dx fun p=>?_)
  obtain ⟨o,σ'⟩:=p
  cases o with
  | ext i=>simp [mh,Xe]
  | ret=>simp only [Xe]
  | ji =>
    simp only [Xe,bB]
    refine dx fun t=>dx fun l=>dx fun t'=>dx fun q=>?_
    obtain ⟨o,σ'⟩:=q
    cases o <;> simp [mh]
theorem LY {step:St → KV → Option St} {σ τ:St} {l:List KV} (h:∀ m:List KV,m.Perm l → yx step σ m = some τ):Ak step σ l = some τ:=by
  unfold Ak
  rw [if_pos ⟨τ,h⟩]
  exact h l (List.Perm.refl _)
end
end Go.Proofs.Ytdkkgecdhapfhaa.Ev
namespace Go.Proofs.Ytdkkgecdhapfhaa.Kn
open Go Ev
variable {ext : Env} {F n:Nat} {θ:Th} {gt:ByteArray → Int → Int → Int × Bool}
def rA : CC:=(.seq (.reg [⟨(some 4),none,(.mv (.k (.one (.f (.int .i64 0)))))⟩] [0,1]) (.seq (.seq (.reg [⟨(some 8),none,(.mv (.t 0))⟩,⟨(some 9),none,(.oD false (.t 8))⟩] [0,1,9]) (.cond (.t 9) (.seq (.reg [⟨(some 4),none,(.mv (.k (.one (.f (.int .i64 0)))))⟩] [4]) .ret) .skip)) (.reg [⟨(some 10),none,(.mv (.t 0))⟩,⟨(some 11),none,(.lQ (.t 10))⟩,⟨(some 12),none,(.fa 1 (.t 11))⟩,⟨(some 13),none,(.load 1 false (.t 12))⟩,⟨(some 14),none,(.Da (.t 13))⟩,⟨(some 5),none,(.mv (.t 14))⟩] [0,1,5])))
def rG4 : List Ev.G:=[⟨(some 15),none,(.mv (.t 0))⟩,⟨(some 16),none,(.lQ (.t 15))⟩,⟨(some 17),none,(.fa 1 (.t 16))⟩,⟨(some 18),none,(.load 1 false (.t 17))⟩,⟨(some 19),none,(.call false 82 [(.t 18)])⟩]
def U2 : List Ev.G:=[⟨(some 6),none,(.alloc 32 [(.f (.str ⟨#[]⟩)),(.f (.int .i64 0)),(.f (.int .i64 0))])⟩,⟨none,none,(.store 3 (.t 6) (.t 24))⟩]
def rB : CC:=(.seq (.reg [⟨(some 25),none,(.fa 0 (.t 6))⟩,⟨(some 26),none,(.load 1 false (.t 25))⟩,⟨(some 27),none,(.mv (.t 1))⟩,⟨(some 28),none,(.qN (.one .str) false (.t 26) (.t 27))⟩] [0,1,5,6,20,28]) (.cond (.t 28) (.seq (.wm [⟨⟨(some 29),none,(.mv (.t 0))⟩,[]⟩,⟨⟨(some 30),none,(.lQ (.t 29))⟩,[]⟩,⟨⟨(some 31),none,(.fa 1 (.t 30))⟩,[]⟩,⟨⟨(some 32),none,(.load 1 false (.t 31))⟩,[]⟩,⟨⟨(some 33),none,(.load 3 true (.t 6))⟩,[]⟩] [] [] [⟨none,none,(.del (.agg [.str,(.int .i64),(.int .i64)]) (.t 32) (.t 33))⟩] [0,1,5,6,20]) (.wm [⟨⟨(some 34),none,(.mv (.t 0))⟩,[]⟩,⟨⟨(some 35),none,(.mv (.t 0))⟩,[]⟩,⟨⟨(some 36),none,(.lQ (.t 35))⟩,[]⟩,⟨⟨(some 37),none,(.fa 2 (.t 36))⟩,[]⟩,⟨⟨(some 38),none,(.load 1 false (.t 37))⟩,[]⟩,⟨⟨(some 39),none,(.load 3 true (.t 6))⟩,[]⟩,⟨⟨(some 40),none,(.call false 69 [(.t 38),(.t 39)])⟩,[]⟩] [] [] [⟨(some 41),none,(.lQ (.t 34))⟩,⟨(some 42),none,(.fa 2 (.t 41))⟩,⟨none,none,(.store 1 (.t 42) (.t 40))⟩] [0,1,5,20])) .skip))
def rC : CC:=(.seq (.reg [⟨(some 43),none,(.mv (.t 5))⟩,⟨(some 44),none,(.mv (.t 0))⟩,⟨(some 45),none,(.lQ (.t 44))⟩,⟨(some 46),none,(.fa 1 (.t 45))⟩,⟨(some 47),none,(.load 1 false (.t 46))⟩,⟨(some 48),none,(.Da (.t 47))⟩,⟨(some 49),none,(.ar .sub (.t 43) (.t 48))⟩,⟨(some 7),none,(.mv (.t 49))⟩] [0,7]) (.seq (.seq (.reg [⟨(some 50),none,(.mv (.t 7))⟩,⟨(some 51),none,(.cmp .gt (.t 50) (.k (.one (.f (.int .i64 0)))))⟩] [0,7,51]) (.cond (.t 51) (.reg [⟨(some 52),none,(.mv (.t 0))⟩,⟨(some 53),none,(.lQ (.t 52))⟩,⟨(some 54),none,(.fa 3 (.t 53))⟩,⟨(some 55),none,(.load 1 false (.t 54))⟩,⟨(some 56),none,(.ar .add (.t 55) (.k (.one (.f (.int .i64 1)))))⟩,⟨(some 57),none,(.lQ (.t 52))⟩,⟨(some 58),none,(.fa 3 (.t 57))⟩,⟨none,none,(.store 1 (.t 58) (.t 56))⟩] [7]) .skip)) (.seq (.reg [⟨(some 59),none,(.mv (.t 7))⟩,⟨(some 4),none,(.mv (.t 59))⟩] [4]) .ret)))
def cDr : CF:=⟨2,[(.t 4)],[],[],.skip⟩
noncomputable abbrev U3 (ext:Env) (F n:Nat):List AV → Option (List AV × List AV):=LX (G ext F n) F rA rG4 19 [0,1,5] [20201,20205,20208,820200] 24 U2 [0,1,5,6] rB rC cDr
structure U4 (ext:Env):Prop where
  mc:∀ m:List Nt,ext 82 [.one (.mp LK (m.map ent))] = some ([.one (.mp LK (m.map ent))],[.one (.mp LK (m.map ent))])
theorem Zg (M:U4 ext) (m:List Nt):G ext F (n + 1) 82 [.one (.mp LK (m.map ent))] = some ([.one (.mp LK (m.map ent))],[.one (.mp LK (m.map ent))]):=(congrFun (nT rfl) _).trans (M.mc m)
def dS (s:Nv) (was:Int) (q:ByteArray):St:=⟨[(0,PV.c (CV.one (PL.ptr 20201 0))),(1,PV.c (CV.one (PL.f (FV.str q)))),(5,PV.c (CV.one (PL.f (FV.int IntKind.i64 was))))],[(20201,Ob.mP [PL.f (FV.int IntKind.i64 s.room),PL.mp 20205,PL.f (FV.sl (List.map rQ s.o)),PL.f (FV.int IntKind.i64 s.ch)]),(20205,Ob.map LK (s.m.map ent))]⟩
def qV (q:ByteArray) (s:Nv) (k:Qn):Nv:=if k.q = q then ⟨s.room,rid s.m k,DZ s.o k,s.ch⟩ else s
theorem Ca (k:Qn):Zb (kq k) = .agg [.f (.str k.q),.f (.int .i64 k.t),.f (.int .i64 k.c)]:=rfl
theorem LZ (C:qF ext) (hF:200000000000001 ≤ F) (s:Nv) (was:Int) (q:ByteArray) (k:Qn) (ho:s.o.length ≤ 1000000):pz (G ext F (n + 4)) F [0,1,5] [20201,20205,20208,820200] 24 U2 [0,1,5,6] rB (dS s was q) (kq k) = some (dS (qV q s k) was q):=by
  refine Jc ?_
  have h1:=fun n=>D5 (ext:=ext) (F:=F) (n:=n) C s.o k ho hF
  have hdl:=D7 s.m k
  by_cases h:k.q = q
  · have e:qV q s k = ⟨s.room,rid s.m k,DZ s.o k,s.ch⟩:=if_pos h
    have h':decide (k.q = q) = true:=decide_eq_true h
    rw [e]
    simp only [dS,Ca]
    simp only [U2,rB,Ca,h',h1,hdl,dS,go_sem,Nat.reduceAdd,Nat.reduceMul,Nat.reduceEqDiff,Nat.reduceBEq,Nat.reduceMod,Nat.reduceDiv,↓reduceIte,reduceCtorEq]
  · have e:qV q s k = s:=if_neg h
    have h':decide (k.q = q) = false:=decide_eq_false h
    rw [e]
    simp only [dS,Ca]
    simp only [U2,rB,Ca,h',dS,go_sem,Nat.reduceAdd,Nat.reduceMul,Nat.reduceEqDiff,Nat.reduceBEq,Nat.reduceMod,Nat.reduceDiv,↓reduceIte,reduceCtorEq]
theorem Ed (C:qF ext) (hF:200000000000001 ≤ F) (was:Int) (q:ByteArray):∀ (l:List Qn) (s:Nv),s.o.length ≤ 1000000 → yx (pz (G ext F (n + 4)) F [0,1,5] [20201,20205,20208,820200] 24 U2 [0,1,5,6] rB) (dS s was q) (l.map kq) = some (dS (l.foldl (qV q) s) was q)
  | [],s,_=>rfl
  | k :: l,s,ho=>by
    show (pz _ _ _ _ _ _ _ _ _ _).bind _ = _
    rw [LZ C hF s was q k ho]
    refine Ed C hF was q l (qV q s k) ?_
    unfold qV
    split
    · exact Nat.le_trans wR ho
    · exact ho
theorem FU {l:List Nt} {a:Qn} (h:(ks l).Nodup):rid l a = l.filter fun x=>decide (x.k ≠ a):=by
  induction l with
  | nil=>rfl
  | cons x l ih =>
    have hc:=List.nodup_cons.mp h
    rw [LP,List.filter_cons]
    by_cases hx:x.k = a
    · rw [if_pos hx,if_neg (by simp [hx])]
      exact (List.filter_eq_self.mpr fun y hy=>by
        simp only [decide_eq_true_eq];rintro e;exact hc.1 (by rw [hx,← e];exact List.mem_map_of_mem hy)).symm
    · rw [if_neg hx,if_pos (by simpa using hx),ih hc.2]
theorem yD (q:ByteArray):∀ (l:List Qn) (s:Nv),(ks s.m).Nodup → l.foldl (qV q) s = ⟨s.room,s.m.filter (fun x=>decide (¬ (x.k ∈ l ∧ x.k.q = q))),s.o.filter (fun x=>decide (¬ (x ∈ l ∧ x.q = q))),s.ch⟩
  | [],s,_=>by
    have e1:s.m.filter (fun x=>decide (¬ (x.k ∈ ([]:List Qn) ∧ x.k.q = q))) = s.m:=List.filter_eq_self.mpr fun _ _=>by simp
    have e2:s.o.filter (fun x=>decide (¬ (x ∈ ([]:List Qn) ∧ x.q = q))) = s.o:=List.filter_eq_self.mpr fun _ _=>by simp
    rw [e1,e2];rfl
  | k :: l,s,h=>by
    rw [List.foldl_cons]
    by_cases hk:k.q = q
    · have e:qV q s k = ⟨s.room,rid s.m k,DZ s.o k,s.ch⟩:=if_pos hk
      rw [e,yD q l _ (Aj h),FU h]
      unfold DZ
      simp only [List.filter_filter]
      congr 1
      · refine List.filter_congr fun x _=>?_
        by_cases h1:x.k = k <;> simp [h1,hk]
      · refine List.filter_congr fun x _=>?_
        by_cases h1:x = k <;> simp [h1,hk]
    · have e:qV q s k = s:=if_neg hk
      rw [e,yD q l _ h]
      congr 1
      · refine List.filter_congr fun x _=>?_
        by_cases h1:x.k = k <;> simp [h1,hk]
      · refine List.filter_congr fun x _=>?_
        by_cases h1:x = k <;> simp [h1,hk]
def u7 (s:Nv) (q:ByteArray):Nv:=⟨s.room,s.m.filter (fun x=>decide (x.k.q ≠ q)),s.o.filter (fun x=>decide (¬ (x ∈ ks s.m ∧ x.q = q))),s.ch⟩
theorem FW {q:ByteArray} {l:List Qn} {s:Nv} (h:(ks s.m).Nodup) (hl:l.Perm (ks s.m)):l.foldl (qV q) s = u7 s q:=by
  rw [yD q l s h]
  unfold u7
  congr 1
  · refine List.filter_congr fun x hx=>?_
    have:x.k ∈ l:=hl.mem_iff.mpr (List.mem_map_of_mem hx)
    simp [this]
  · refine List.filter_congr fun x hx=>?_
    simp only [hl.mem_iff]
def L6 : KV → Qn
  | .agg [.str q,.int _ t,.int _ c]=>⟨q,t,c⟩
  | _=>⟨#[]⟩ |> fun b=>⟨b,0,0⟩
theorem O7 (k:Qn):L6 (kq k) = k:=rfl
theorem O8 {m:List KV} {l:List Qn} (h:m.Perm (l.map kq)):∃ m':List Qn,m = m'.map kq ∧ m'.Perm l:=by
  refine ⟨m.map L6,?_,?_⟩
  · rw [List.map_map]
    have:∀ x ∈ m,(kq ∘ L6) x = id x:=fun x hx=>by
      obtain ⟨k,_,rfl⟩:=List.mem_map.mp (h.mem_iff.mp hx)
      rfl
    exact ((List.map_congr_left this).trans (List.map_id m)).symm
  · have:=h.map L6
    rw [List.map_map,show (L6 ∘ kq) = id from funext O7,List.map_id] at this
    exact this
def oz (s:Nv) (q:ByteArray):Nv × Int :=
  (⟨s.room,(u7 s q).m,(u7 s q).o,if 0 < (s.m.length:Int) - (u7 s q).m.length then s.ch + 1 else s.ch⟩,(s.m.length:Int) - (u7 s q).m.length)
theorem L8 (m:List Nt):(m.map ent).map (fun p=>p.1) = (ks m).map kq:=by
  rw [List.map_map,List.map_map];rfl
theorem L9 (q:ByteArray):U3 ext F (n + 4) [.one .jF,vs q] = some ([vi 0],[.one .jF,vs q]):=by
  refine Jc ?_
  simp only [U3,rA,cDr,go_sem,Nat.reduceAdd,Nat.reduceMul,Nat.reduceEqDiff,Nat.reduceBEq,Nat.reduceMod,Nat.reduceDiv,↓reduceIte,reduceCtorEq]
theorem Ma (C:qF ext) (M:U4 ext) (hF:200000000000001 ≤ F) (s:Nv) (q:ByteArray) (h:(ks s.m).Nodup) (ho:s.o.length ≤ 1000000) (hm:s.m.length ≤ 1000000) (hc:0 ≤ s.ch ∧ s.ch ≤ 1000000000000):U3 ext F (n + 4) [s.v,vs q] = some ([vi (oz s q).2],[(oz s q).1.v,vs q]):=by
  refine Jc ?_
  have hmc:=fun n=>Zg (F:=F) (n:=n) M s.m
  have hw:IntKind.i64.wrap (s.ch + 1) = s.ch + 1:=zD (by omega) (by omega)
  have hle:(u7 s q).m.length ≤ s.m.length:=List.length_filter_le ..
  have hw2:IntKind.i64.wrap ((s.m.length:Int) - (u7 s q).m.length) = (s.m.length:Int) - (u7 s q).m.length:=zD (by omega) (by omega)
  have hfo:Ak (pz (G ext F (n + 4)) F [0,1,5] [20201,20205,20208,820200] 24 U2 [0,1,5,6] rB) (dS s s.m.length q) ((s.m.map ent).map (fun p=>p.1)) = some (dS (u7 s q) s.m.length q):=by
    refine LY fun m hp=>?_
    rw [L8] at hp
    obtain ⟨m',rfl,hp'⟩:=O8 hp
    rw [Ed C hF _ q m' s ho,FW h hp']
  have hka:∀ ob,kA [20201,20205,20208,820200] ob (some (.c (.one (.mp 400200)))) = kB (get ob 400200):=fun _=>rfl
  simp only [dS] at hfo
  simp only [U3,rA,rG4,rC,cDr,hmc,hka,List.length_map,hfo,hw2,hw,go_sem,Nat.reduceAdd,Nat.reduceMul,Nat.reduceEqDiff,Nat.reduceBEq,Nat.reduceMod,Nat.reduceDiv,↓reduceIte,reduceCtorEq]
  repeat' (refine fC (fun h=>?_) (fun h=>?_) <;> simp only [h,hw2,hw,go_sem,Nat.reduceAdd,Nat.reduceMul,Nat.reduceEqDiff,Nat.reduceBEq,Nat.reduceMod,Nat.reduceDiv,↓reduceIte,reduceCtorEq])
  all_goals simp only [decide_eq_true_eq,decide_eq_false_iff_not] at *
  · simp only [oz];rw [if_pos h,← hw];rfl
  · simp only [oz];rw [if_neg h];rfl
end Go.Proofs.Ytdkkgecdhapfhaa.Kn
set_option maxRecDepth 4000
namespace Go.Proofs.Ytdkkgecdhapfhaa.Kn
open Go Ev
variable {ext : Env} {F n:Nat} {θ:Th} {gt:ByteArray → Int → Int → Int × Bool}
structure O9 (ext:Env):Prop where
  d0:∀ q,ext 50 [.one .jF,vs q] = some ([vi 0],[.one .jF,vs q])
  d1:∀ (s:Nv) (q:ByteArray),(ks s.m).Nodup → s.o.length ≤ 1000000 → s.m.length ≤ 1000000 → 0 ≤ s.ch ∧ s.ch ≤ 1000000000000 → ext 50 [s.v,vs q] = some ([vi (oz s q).2],[(oz s q).1.v,vs q])
theorem Mc (D:O9 ext) (s:Nv) (q:ByteArray) (h:(ks s.m).Nodup) (ho:s.o.length ≤ 1000000) (hm:s.m.length ≤ 1000000) (hc:0 ≤ s.ch ∧ s.ch ≤ 1000000000000):G ext F (n + 1) 50 [s.v,vs q] = some ([vi (oz s q).2],[(oz s q).1.v,vs q]):=(congrFun (nT rfl) _).trans (D.d1 s q h ho hm hc)
abbrev dz : ByteArray:=⟨#[0,0,48,49,50,51,52,53,54,55,56,57,97,98,99,100,101,102,0,0,0,9]⟩
abbrev rt : ByteArray:=⟨#[0]⟩
abbrev na : ByteArray:=⟨#[1,97,0]⟩
abbrev rO (ttl:Int):Se:=⟨rt,6,1,[dz],ttl⟩
theorem U5 (t:Int):G ext F (n + 1) 72 [vi t] = some ([(rO t).v],[vi t]):=by
  refine iF (cf:=c72) rfl ?_
  simp only [c72,go_sem,Nat.reduceAdd,Nat.reduceMul,Nat.reduceEqDiff,Nat.reduceBEq,Nat.reduceMod,Nat.reduceDiv,↓reduceIte,reduceCtorEq]
  rfl
structure Th.pE (θ:Th) (gt:ByteArray → Int → Int → Int × Bool):Prop where
  r1:θ.jK rt = true
  r2:θ.low rt = rt
  a1:θ.jK na = true
  a2:θ.low na = na
  e1:θ.wQ 6 dz = true
  e2:θ.lw 6 dz = dz
  g:gt dz 18 4 = (9,true)
abbrev ka : Qn:=⟨na,1,1⟩
abbrev kb : Qn:=⟨na,2,1⟩
abbrev i1 : Nt:=⟨ka,false,rO 7,12⟩
abbrev i2 : Nt:=⟨ka.w,true,rO 20,14⟩
abbrev t0 : Nv:=⟨2,[],[],0⟩
abbrev t1 : Nv:=⟨2,[i1],[ka],1⟩
abbrev t2 : Nv:=⟨2,[i1,i2],[ka,ka.w],2⟩
abbrev t3 : Nv:=⟨2,[],[],3⟩
theorem Pb (L:θ.pE gt) (ttl:Int) (h:0 ≤ ttl ∧ ttl < 2147483648):θ.set rt 6 1 [dz] ttl = true:=by simp [Th.set,Th.key,Th.dat,L.r1,L.r2,L.e1,L.e2,h]
theorem tK (L:θ.pE gt) (ttl:Int) (h:0 ≤ ttl ∧ ttl < 2147483648):tC θ gt (rO ttl) = (if ttl < 9 then ttl else 9,true):=by
  unfold tC
  rw [if_pos ⟨Pb L ttl h,rfl⟩]
  have:(((rO ttl).d.headD ⟨#[]⟩).size:Int) - 4 = 18:=by show ((dz.size:Nat):Int) - 4 = 18;decide
  rw [this]
  show (if ttl < (gt dz 18 4).1 then ttl else (gt dz 18 4).1,true) = _
  rw [L.g]
theorem Zh (L:θ.pE gt):tC θ gt (rO 20) = (9,true):=by rw [tK L 20 (by decide)];rfl
theorem Md (L:θ.pE gt):θ.ask ka = true:=by simp [Th.ask,Th.key,L.a1,L.a2]
theorem lv1 (L:θ.pE gt):lI θ gt t0 5 ka false (rO 7) = (t1,0):=by simp [lI,tK L 7 (by decide),Md L,iG,EY,kg,upd,DZ,kn]
theorem lv2 : iw t1 11 ka = (i1,true):=by simp [iw,nof,old,kg,EY,Y9]
theorem lv3 : iw t1 12 ka = (nt0,false):=by simp [iw,nof,old,kg,EY,Y9]
theorem lv4 (L:θ.pE gt):lI θ gt t1 5 ka true (rO 20) = (t2,0):=by simp [lI,tK L 20 (by decide),Md L,iG,EY,kg,upd,DZ,kn,List.findIdx?_cons]
theorem lv5 : iw t2 13 kb = (i2,true):=by simp [iw,nof,old,kg,EY,Y9]
theorem lv6 : oz t2 na = (t3,2):=by simp [oz,u7,ks]
theorem lv7 (L:θ.pE gt):lI θ gt t3 5 ka true (rO 0) = (t3,14):=by simp [lI,tK L 0 (by decide),Md L,iG,EY,kg]
theorem lv8 (L:θ.pE gt):lI θ gt t3 (-1) ka true (rO 1) = (t3,1):=by simp [lI,tK L 1 (by decide),iG,EY]
set_option maxRecDepth 100000 in
set_option maxHeartbeats 16000000 in
theorem Jr (T:θ.Ok ext) (O:Ji gt ext) (C:qF ext) (D:O9 ext) (L:θ.pE gt) (hF:200000000000001 ≤ F):G ext F (n + 7) 38 [] = some ([vb true],[]):=by
  refine iF (cf:=DW) rfl ?_
  have n2:∀ n,G ext F (n + 1) 39 [vi 2] = some ([t0.v],[vi 2]):=fun n=>BS 2
  have n0:∀ n,G ext F (n + 1) 39 [vi 0] = some ([.one .jF],[vi 0]):=fun n=>BS 0
  have s:=fun n t=>U5 (ext:=ext) (F:=F) (n:=n) t
  have m1:=fun n=>rH (F:=F) (n:=n) T O (rO 20) hF (by decide) (by decide) (by decide)
  have m2:=fun n=>rH (F:=F) (n:=n) T O ⟨⟨#[]⟩,0,0,[],0⟩ hF (by decide) (by decide) (by decide)
  have hm2:tC θ gt ⟨⟨#[]⟩,0,0,[],0⟩ = (0,false):=by unfold tC;rw [if_neg (by rintro ⟨-,h⟩;cases h)]
  have p1:=fun n=>tF (F:=F) (n:=n) T O C t0 5 ka false (rO 7) hF (by decide) (by decide) (by decide) (by decide) (by decide) (by decide) (by decide)
  have p2:=fun n=>oZ (F:=F) (n:=n) C t1 11 ka hF (by decide)
  have p3:=fun n=>oZ (F:=F) (n:=n) C t1 12 ka hF (by decide)
  have p4:=fun n=>tF (F:=F) (n:=n) T O C t1 5 ka true (rO 20) hF (by decide) (by decide) (by decide) (by decide) (by decide) (by decide) (by decide)
  have p5:=fun n=>oZ (F:=F) (n:=n) C t2 13 kb hF (by decide)
  have p6:=fun n=>Mc (F:=F) (n:=n) D t2 na (by decide) (by decide) (by decide) (by decide)
  have p7:=fun n=>tF (F:=F) (n:=n) T O C t3 5 ka true (rO 0) hF (by decide) (by decide) (by decide) (by decide) (by decide) (by decide) (by decide)
  have p8:=fun n=>tF (F:=F) (n:=n) T O C t3 (-1) ka true (rO 1) hF (by decide) (by decide) (by decide) (by decide) (by decide) (by decide) (by decide)
  have c2:=fun n=>vP (ext:=ext) (F:=F) (n:=n) (some t2)
  have c3:=fun n=>vP (ext:=ext) (F:=F) (n:=n) (some t3)
  have k2:=fun n=>LQ (ext:=ext) (F:=F) (n:=n) C (some t2) (by rintro s ⟨⟩;decide)
  rw [Zh L] at m1
  rw [hm2] at m2
  rw [lv1 L] at p1
  rw [lv2] at p2
  rw [lv3] at p3
  rw [lv4 L] at p4
  rw [lv5] at p5
  rw [lv6] at p6
  rw [lv7 L] at p7
  rw [lv8 L] at p8
  simp only [yj,List.map_cons,List.map_nil,iB,ent,rN,rQ,Nv.v,Nt.v,Se.v,FJ,Qn.v,Qn.w,vq,kq,nt0] at n2 s m1 m2 p1 p2 p3 p4 p5 p6 p7 p8 c2 c3 k2
  simp only [DW,n2,n0,s,m1,m2,p1,p2,p3,p4,p5,p6,p7,p8,c2,c3,k2,show ((2:Nat):Int) = 2 from rfl,go_sem,Nat.reduceAdd,Nat.reduceMul,Nat.reduceEqDiff,Nat.reduceBEq,Nat.reduceMod,Nat.reduceDiv,↓reduceIte,reduceCtorEq]
end Go.Proofs.Ytdkkgecdhapfhaa.Kn
set_option maxRecDepth 4000
namespace Go.Proofs.Ytdkkgecdhapfhaa.Kn
open Go Ev
variable {ext : Env} {F n:Nat} {θ:Th} {gt:ByteArray → Int → Int → Int × Bool}
theorem Pf {l:List On} {x:On} (h:yt l = true) (hx:x ∈ l):x.k.q.size ≤ 1000000 ∧ x.s.q.size ≤ 1000000 ∧ x.s.d.length ≤ 1000000 ∧ ∀ y ∈ x.s.d,y.size ≤ 1000000:=by
  have h1:=List.all_eq_true.mp h x hx
  unfold nV DY at h1
  rw [Bool.and_eq_true,Bool.and_eq_true,List.all_eq_true,decide_eq_true_eq,decide_eq_true_eq] at h1
  refine ⟨by omega,by omega,?_,fun y hy=>?_⟩
  · cases hd:x.s.d with
    | nil=>simp
    | cons y d =>
      have:=h1.1.1 y (by rw [hd];simp)
      simp only [Bool.and_eq_true,decide_eq_true_eq] at this
      rw [hd] at this;omega
  · have:=h1.1.1 y hy
    simp only [Bool.and_eq_true,decide_eq_true_eq] at this
    omega
end Go.Proofs.Ytdkkgecdhapfhaa.Kn
set_option maxRecDepth 4000
namespace Go.Proofs.Ytdkkgecdhapfhaa.Kn
open Go Ev
variable {ext : Env} {F n:Nat} {θ:Th} {gt:ByteArray → Int → Int → Int × Bool}
structure Sz (i:Nat) (s:Nv):Prop where
  r:0 ≤ s.room ∧ s.room ≤ 1000000
  c:0 ≤ s.ch ∧ s.ch ≤ i
  o:s.o.length ≤ i
  m:s.m.length ≤ i
  d:∀ x ∈ s.m,x.s.d.length ≤ 1000000
  l9:(ks s.m).Nodup
theorem yE : ∀ {g:List Qn} {l:List Nt},(ks l).Nodup → (ks (g.foldl rid l)).Nodup
  | [],l,h=>h
  | a :: g,l,h=>yE (g:=g) (Aj h)
theorem Sz.put {i:Nat} {s:Nv} (h:Sz i s) (now:Int) (k:Qn) (nO:Bool) (x:Se) (hx:x.d.length ≤ 1000000):Sz (i + 1) (lI θ gt s now k nO x).1:=by
  have hc:=h.c
  have hq:=@wR s.o (kn nO k)
  have ho:=h.o
  have hm:=h.m
  have up:Sz (i + 1) s:=⟨h.r,by omega,by omega,by omega,h.d,h.l9⟩
  unfold lI
  split
  · exact up
  split
  · exact up
  have hu:=@O5 s.m ⟨kn nO k,nO,x,iG now (tC θ gt x).1⟩
  refine ⟨h.r,by show 0 ≤ s.ch + 1 ∧ s.ch + 1 ≤ _;omega,?_,?_,fun y hy=>?_,yE (Jh h.l9)⟩
  · show (List.drop _ _).length ≤ _
    rw [List.length_drop,List.length_append,List.length_singleton];omega
  · exact Nat.le_trans tu.length_le (by omega)
  · rcases He (tu.subset hy) with rfl | h1
    · exact hx
    · exact h.d y h1
theorem Sz.up {i:Nat} {s:Nv} (h:Sz i s):Sz (i + 1) s:=⟨h.r,by have:=h.c;omega,by have:=h.o;omega,by have:=h.m;omega,h.d,h.l9⟩
theorem Sz.drop {i:Nat} {s:Nv} (h:Sz i s) (q:ByteArray):Sz (i + 1) (oz s q).1:=by
  have hc:=h.c
  have ho:=h.o
  have hm:=h.m
  refine ⟨h.r,?_,?_,?_,fun x hx=>h.d x ((List.mem_filter.mp hx).1),(List.filter_sublist.map _).nodup h.l9⟩
  · have e:(oz s q).1.ch = if 0 < (s.m.length:Int) - (u7 s q).m.length then s.ch + 1 else s.ch:=rfl
    rw [e]
    by_cases hh:0 < (s.m.length:Int) - (u7 s q).m.length
    · rw [if_pos hh];omega
    · rw [if_neg hh];omega
  · exact Nat.le_trans (List.length_filter_le ..) (by omega)
  · exact Nat.le_trans (List.length_filter_le ..) (by omega)
end Go.Proofs.Ytdkkgecdhapfhaa.Kn
set_option maxRecDepth 4000
namespace Go.Proofs.Ytdkkgecdhapfhaa.Kn
open Go Ev
variable {θ : Th} {gt:ByteArray → Int → Int → Int × Bool}
def Iv (s:Nv):Prop:=∀ x ∈ s.m,x.nx = true ↔ x.k.t = 0
theorem Iv.put {s:Nv} (h:Iv s) (now:Int) (k:Qn) (nO:Bool) (x:Se):Iv (lI θ gt s now k nO x).1:=by
  unfold lI
  split
  · exact h
  rename_i hno
  split
  · exact h
  intro y hy
  rcases He (tu.subset hy) with rfl | h1
  · have ha:θ.ask k = true:=by
      cases ha:θ.ask k with
      | true=>rfl
      | false=>exact absurd (.inr (.inr ha)) hno
    cases nO with
    | true=>exact ⟨fun _=>rfl,fun _=>rfl⟩
    | false =>
      unfold Th.ask at ha
      simp only [Bool.and_eq_true,Bool.not_eq_true',decide_eq_false_iff_not] at ha
      exact ⟨fun e=>(by cases e),fun e=>absurd e ha.2⟩
  · exact h y h1
theorem Cb {m:List Nt} {now:Int} {b:Qn} {y:Nt} (h:nof m now b = some y):y.k = b ∧ y ∈ m ∧ kg now y.u = true:=by
  unfold nof at h
  split at h
  · rename_i y' ho
    split at h
    · rename_i hv
      cases h
      exact ⟨(wS ho).1,(wS ho).2,hv⟩
    · cases h
  · cases h
theorem Js {now u:Int} (h0:0 ≤ now) (h:kg (now + 1) u = true):kg now u = true ∧ now + 1 < u:=by
  unfold kg EY at h ⊢
  simp only [Bool.and_eq_true,decide_eq_true_eq] at h ⊢
  omega
theorem Ee {m:List Nt} {now:Int} {b:Qn} {y:Nt} (h0:0 ≤ now) (h:nof m (now + 1) b = some y):nof m now b = some y:=by
  unfold nof at h ⊢
  cases ho:old m b with
  | none=>rw [ho] at h;cases h
  | some z =>
    rw [ho] at h
    dsimp only at h ⊢
    split at h
    · rename_i hv
      rw [if_pos (Js h0 hv).1]
      exact h
    · cases h
theorem Pg {m:List Nt} {now:Int} {b:Qn} {y:Nt} (h0:0 ≤ now ∧ now + 1 ≤ 1099511627776) (h:nof m now b = some y) (hn:nof m (now + 1) b = none):y.u = now + 1:=by
  unfold nof at h hn
  cases ho:old m b with
  | none=>rw [ho] at h;cases h
  | some z =>
    rw [ho] at h hn
    dsimp only at h hn
    split at h
    · rename_i hv
      cases h
      split at hn
      · cases hn
      · rename_i hv2
        unfold kg EY at hv hv2
        simp only [Bool.and_eq_true,decide_eq_true_eq,not_and] at hv hv2
        have:=hv2 (by omega)
        omega
    · cases h
theorem Jt {s:Nv} (hi:Iv s) {now:Int} {k:Qn} (h0:0 ≤ now ∧ now + 1 ≤ 1099511627776):((iw s (now + 1) k).2 = true → (iw s now k).2 = true ∧ now + 1 < (iw s (now + 1) k).1.u) ∧ ((iw s now k).2 = true → now < (iw s now k).1.u) ∧
    ((iw s now k).2 = true → (iw s (now + 1) k).2 = true → (iw s now k).1.k = (iw s (now + 1) k).1.k ∨ ((iw s now k).1.nx = true ∧ (iw s (now + 1) k).1.nx = false ∧ (iw s now k).1.u = now + 1)):=by
  have hlive:∀ {t b y},nof s.m t b = some y → t < y.u:=fun h=>by
    have:=(Cb h).2.2
    unfold kg at this
    rw [Bool.and_eq_true,decide_eq_true_eq] at this
    exact this.2
  unfold iw
  cases w1:nof s.m (now + 1) k.w with
  | some y =>
    have w0:=Ee h0.1 w1
    rw [w0]
    exact ⟨fun _=>⟨rfl,hlive w1⟩,fun _=>hlive w0,fun _ _=>.inl rfl⟩
  | none =>
    cases w0:nof s.m now k.w with
    | some y =>
      refine ⟨fun h=>⟨rfl,?_⟩,fun _=>hlive w0,fun _ h=>?_⟩
      · cases v1:nof s.m (now + 1) k with
        | none=>rw [v1] at h;cases h
        | some z=>exact hlive v1
      · cases v1:nof s.m (now + 1) k with
        | none=>rw [v1] at h;cases h
        | some z =>
          obtain ⟨y1,y2, -⟩:=Cb w0
          obtain ⟨z1,z2, -⟩:=Cb v1
          by_cases hk:k.t = 0
          · left
            show y.k = z.k
            rw [y1,z1]
            cases k;simp_all
          · right
            refine ⟨(hi y y2).mpr (by rw [y1]),?_,Pg h0 w0 w1⟩
            cases hz:z.nx with
            | false=>exact hz
            | true=>exact absurd ((hi z z2).mp hz) (by rw [z1];exact hk)
    | none =>
      cases v1:nof s.m (now + 1) k with
      | some z =>
        have v0:=Ee h0.1 v1
        rw [v0]
        exact ⟨fun _=>⟨rfl,hlive v1⟩,fun _=>hlive v0,fun _ _=>.inl rfl⟩
      | none =>
        refine ⟨fun h=>(by cases h),fun h=>?_,fun _ h=>(by cases h)⟩
        cases v0:nof s.m now k with
        | none=>rw [v0] at h;cases h
        | some z=>exact hlive v0
end Go.Proofs.Ytdkkgecdhapfhaa.Kn
set_option maxRecDepth 4000
namespace Go.Proofs.Ytdkkgecdhapfhaa.Kn
open Go Ev
variable {ext : Env} {F n:Nat} {θ:Th} {gt:ByteArray → Int → Int → Int × Bool}
theorem sz0 {room:Int} (hr:0 ≤ room ∧ room ≤ 1000000):Sz 0 ⟨room,[],[],0⟩:=⟨hr,⟨Int.le_refl _,Int.le_refl _⟩,Nat.le_refl _,Nat.le_refl _,by simp,List.nodup_nil⟩
set_option maxHeartbeats 16000000 in
theorem Ju (T:θ.Ok ext) (O:Ji gt ext) (C:qF ext) (D:O9 ext) (L:θ.pE gt) (hF:200000000000001 ≤ F) (l:List On) (k:Qn) (now:Int) (hl:l.length ≤ 200000000000000) (hd:∀ x ∈ l,x.s.d.length ≤ 200000000000000):G ext F (n + 8) 12 [vl (l.map Kr),k.v,vi now] = some ([vb true],[vl (l.map Kr),k.v,vi now]):=by
  refine iF (cf:=c12) rfl ?_
  have hs:=fun n=>FP (ext:=ext) (F:=F) (n:=n) l 60 hl hd hF
  have hv:=fun n=>Jr (F:=F) (n:=n) T O C D L hF
  have hn:∀ n,G ext F (n + 1) 39 [vi 50] = some ([(⟨50,[],[],0⟩:Nv).v],[vi 50]):=fun n=>BS 50
  cases hf:yt l && decide ((l.length:Int) ≤ 60) with
  | false =>
    rw [hf] at hs
    simp only [c12,hs,hv,go_sem,Nat.reduceAdd,Nat.reduceMul,Nat.reduceEqDiff,Nat.reduceBEq,Nat.reduceMod,Nat.reduceDiv,↓reduceIte,reduceCtorEq]
  | true =>
  rw [hf] at hs
  have aeR:yt l = true ∧ l.length ≤ 60:=by
    rw [Bool.and_eq_true,decide_eq_true_eq] at hf
    exact ⟨hf.1,by omega⟩
  by_cases b1:300 < (k.q.size:Int)
  · have b1':decide (300 < (k.q.size:Int)) = true:=decide_eq_true b1
    simp only [c12,hs,hv,b1',go_sem,Nat.reduceAdd,Nat.reduceMul,Nat.reduceEqDiff,Nat.reduceBEq,Nat.reduceMod,Nat.reduceDiv,↓reduceIte,reduceCtorEq]
  by_cases b2:now < 0
  · have b1':decide (300 < (k.q.size:Int)) = false:=decide_eq_false b1
    have b2':decide (now < 0) = true:=decide_eq_true b2
    simp only [c12,hs,hv,b1',b2',go_sem,Nat.reduceAdd,Nat.reduceMul,Nat.reduceEqDiff,Nat.reduceBEq,Nat.reduceMod,Nat.reduceDiv,↓reduceIte,reduceCtorEq]
  by_cases b3:549755813888 < now
  · have b1':decide (300 < (k.q.size:Int)) = false:=decide_eq_false b1
    have b2':decide (now < 0) = false:=decide_eq_false b2
    have b3':decide (549755813888 < now) = true:=decide_eq_true b3
    simp only [c12,hs,hv,b1',b2',b3',go_sem,Nat.reduceAdd,Nat.reduceMul,Nat.reduceEqDiff,Nat.reduceBEq,Nat.reduceMod,Nat.reduceDiv,↓reduceIte,reduceCtorEq]
  have b1':decide (300 < (k.q.size:Int)) = false:=decide_eq_false b1
  have b2':decide (now < 0) = false:=decide_eq_false b2
  have b3':decide (549755813888 < now) = false:=decide_eq_false b3
  simp only [c12,hs,hv,hn,b1',b2',b3',go_sem,Nat.reduceAdd,Nat.reduceMul,Nat.reduceEqDiff,Nat.reduceBEq,Nat.reduceMod,Nat.reduceDiv,↓reduceIte,reduceCtorEq]
  refine Sb l.length (fun x:Nat × Nv=>⟨[(0,PV.c (CV.one (PL.f (FV.sl (List.map Kr l))))),(2,PV.c (CV.one (PL.f (FV.int IntKind.i64 now)))),(4,PV.c (CV.one (PL.ptr 100000 0))),(7,PV.c (CV.one (PL.ptr 640200 0))),(8,PV.c (CV.one (PL.f (FV.int IntKind.i64 x.1))))],[(100000,Ob.mP [PL.f (FV.str k.q),PL.f (FV.int IntKind.i64 k.t),PL.f (FV.int IntKind.i64 k.c)]),(640200,Ob.mP [PL.f (FV.int IntKind.i64 x.2.room),PL.mp 640204,PL.f (FV.sl (x.2.o.map rQ)),PL.f (FV.int IntKind.i64 x.2.ch)]),(640204,Ob.map LK (x.2.m.map ent))]⟩) (fun i x=>x.1 = i ∧ Sz i x.2 ∧ Iv x.2) (by omega) (0,⟨50,[],[],0⟩) rfl ⟨rfl,sz0 (by decide),by intro x hx;simp at hx⟩ (fun i x hi hP=>?_) (fun x hP=>?_)
  · obtain ⟨i',s⟩:=x
    obtain ⟨rfl,hsz,hiv⟩:=hP
    obtain ⟨x,hx,hlt,ht,h0⟩:=at_ hi
    have hn':=nx hi (Nat.le_trans hl (by decide))
    obtain ⟨z0,z1,z2,z3⟩:=Pf aeR.1 (List.mem_of_getElem? hx)
    have hc:=hsz.c
    have ho:=hsz.o
    simp only at hsz hiv hc ho hi hlt ht h0 hn' ⊢
    have p1:=fun n=>tF (F:=F) (n:=n) T O C s x.now x.k x.nx x.s hF hsz.r (by omega) (by omega) z0 z1 z2 z3
    simp only [List.length_map,List.getElem?_map,hlt,hx,ht,h0,hn',Kr,p1,go_sem,Nat.reduceAdd,Nat.reduceMul,Nat.reduceEqDiff,Nat.reduceBEq,Nat.reduceMod,Nat.reduceDiv,↓reduceIte,reduceCtorEq]
    exact ⟨(i' + 1,(lI θ gt s x.now x.k x.nx x.s).1),rfl,rfl,hsz.put _ _ _ _ z2,hiv.put _ _ _ _⟩
  · obtain ⟨i',s⟩:=x
    obtain ⟨rfl,hsz,hiv⟩:=hP
    simp only at hsz hiv ⊢
    have hd':=@end_ _ l
    have hw:IntKind.i64.wrap (now + 1) = now + 1:=zD (by omega) (by omega)
    have f1:=fun n=>oZ (F:=F) (n:=n) C s now k hF hsz.d
    have f2:=fun n=>oZ (F:=F) (n:=n) C s (now + 1) k hF hsz.d
    obtain ⟨g1,g2,g3⟩:=Jt hiv (k:=k) (now:=now) (by omega)
    generalize iw s now k = A at f1 g1 g2 g3
    generalize iw s (now + 1) k = B at f2 g1 g3
    obtain ⟨a,is⟩:=A
    obtain ⟨b,st⟩:=B
    simp only at f1 f2 g1 g2 g3
    cases st with
    | false =>
      cases is with
      | false=>simp only [List.length_map,hd',hv,hw,f1,f2,go_sem,Nat.reduceAdd,Nat.reduceMul,Nat.reduceEqDiff,Nat.reduceBEq,Nat.reduceMod,Nat.reduceDiv,↓reduceIte,reduceCtorEq]
      | true =>
        have u1:decide (a.u ≤ now) = false:=decide_eq_false (by have:=g2 rfl;omega)
        simp only [List.length_map,hd',hv,hw,f1,f2,u1,go_sem,Nat.reduceAdd,Nat.reduceMul,Nat.reduceEqDiff,Nat.reduceBEq,Nat.reduceMod,Nat.reduceDiv,↓reduceIte,reduceCtorEq]
    | true =>
      have h1:=(g1 rfl).1
      subst h1
      have u1:decide (a.u ≤ now) = false:=decide_eq_false (by have:=g2 rfl;omega)
      have u2:decide (b.u ≤ now + 1) = false:=decide_eq_false (by have:=(g1 rfl).2;omega)
      by_cases hk:a.k = b.k
      · have e:decide (a.k.q = b.k.q ∧ a.k.t = b.k.t ∧ a.k.c = b.k.c) = true:=decide_eq_true (LW.mp hk)
        simp only [List.length_map,hd',hv,hw,f1,f2,u1,u2,e,go_sem,Nat.reduceAdd,Nat.reduceMul,Nat.reduceEqDiff,Nat.reduceBEq,Nat.reduceMod,Nat.reduceDiv,↓reduceIte,reduceCtorEq]
        try simp only [hk,and_self,decide_true]
      · have e:decide (a.k.q = b.k.q ∧ a.k.t = b.k.t ∧ a.k.c = b.k.c) = false:=decide_eq_false (fun h=>hk (LW.mpr h))
        obtain ⟨n1,n2,n3⟩:=(g3 rfl rfl).resolve_left hk
        have e3:decide (a.u = now + 1) = true:=decide_eq_true n3
        simp only [List.length_map,hd',hv,hw,f1,f2,u1,u2,e,n1,n2,e3,go_sem,Nat.reduceAdd,Nat.reduceMul,Nat.reduceEqDiff,Nat.reduceBEq,Nat.reduceMod,Nat.reduceDiv,↓reduceIte,reduceCtorEq]
end Go.Proofs.Ytdkkgecdhapfhaa.Kn
namespace Go.Proofs.Ytdkkgecdhapfhaa.Ev
open Go
def FX (P:Program):List Field → Nat → Bool
  | [],_=>true
  | f :: fs,i=>(f.name != "_") && (f.offset == i) && (EU P f.type).isSome && FX P fs (i + 1)
def okT (P:Program) (t:TypeId):Bool:=!P.eqGuardType P.depth t && match P.underlying t with
  | some (.struct fs)=>!P.stoodInHeld t && FX P fs.toList 0
  | some (.int _)=>true
  | some .string=>true
  | some .bool=>true
  | _=>false
section
variable {P : Program} {t:TypeId} {w:World}
theorem vk {k:SK} (h:EU P t = some k):(∃ i,P.underlying t = some (.int i) ∧ k = .int i) ∨ (P.underlying t = some .bool ∧ k = .bool) ∨ (P.underlying t = some .string ∧ k = .str):=by
  unfold EU at h
  split at h <;> simp_all
theorem Sg {d:Nat} {k:SK} (h:EU P t = some k) {a b:SV} (ha:a.sk = k) (hb:b.sk = k):(Op.equalIn (d + 1) t (encS a) (encS b)).run P w = .ok (decide (a = b)) w:=by
  rcases vk h with ⟨i,hu,rfl⟩ | ⟨hu,rfl⟩ | ⟨hu,rfl⟩
  · cases a <;> cases b <;> simp_all [SV.sk,encS,Op.equalIn,run_underlying hu]
    rw [Bool.eq_iff_iff];simp
  · cases a <;> cases b <;> simp_all [SV.sk,encS,Op.equalIn,run_underlying hu]
    rw [Bool.eq_iff_iff];simp
  · cases a <;> cases b <;> simp_all [SV.sk,encS,Op.equalIn,run_underlying hu]
    exact Mq.uP _ _
theorem Cc {k:SK} (h:EU P t = some k) {xs:Array Value} {o:Nat} {v:Value} (hx:xs[o]? = some v):(part t xs o).run P w = .ok v w:=by
  rcases vk h with ⟨i,hu,rfl⟩ | ⟨hu,rfl⟩ | ⟨hu,rfl⟩ <;> simp [part,isAgg,run_underlying hu,hx]
theorem Am {d:Nat} {xs ys:Array Value}:∀ {fs:List Field} {i:Nat} {ks:List SK} {ZZ9 bs:List SV},FX P fs i = true → IZ P fs = some ks → ZZ9.map SV.sk = ks → bs.map SV.sk = ks → (∀ j:Nat,xs[i + j]? = ZZ9[j]?.map encS) → (∀ j:Nat,ys[i + j]? = bs[j]?.map encS) →
    (Op.eqFields (d + 1) xs ys fs).run P w = .ok (decide (ZZ9 = bs)) w
  | [],i,ks,ZZ9,bs,_,hk,ha,hb,_,_=>by
    cases hk
    simp only [List.map_eq_nil_iff] at ha hb
    subst ha;subst hb
    simp [Op.eqFields]
  | f :: fs,i,ks,ZZ9,bs,hf,hk,ha,hb,hx,hy=>by
    obtain ⟨k,h1,h2⟩:=zbm hk
    obtain ⟨l,h3,rfl⟩:=zmm h2
    unfold FX at hf
    simp only [Bool.and_eq_true,bne_iff_ne,ne_eq,beq_iff_eq] at hf
    obtain ⟨⟨⟨f1,f2⟩,f3⟩,f4⟩:=hf
    cases ZZ9 with
    | nil=>simp at ha
    | cons a ZZ9 =>
    cases bs with
    | nil=>simp at hb
    | cons b bs =>
    simp only [List.map_cons,List.cons.injEq] at ha hb
    have ex:xs[f.offset]? = some (encS a):=by rw [f2];simpa using hx 0
    have ey:ys[f.offset]? = some (encS b):=by rw [f2];simpa using hy 0
    have ih:=Am (d:=d) f4 h3 ha.2 hb.2 (fun j=>by have:=hx (j + 1);rw [show i + 1 + j = i + (j + 1) from by omega];simpa using this) (fun j=>by have:=hy (j + 1);rw [show i + 1 + j = i + (j + 1) from by omega];simpa using this)
    unfold Op.eqFields
    rw [if_pos f1]
    simp only [Sem.run_bind,Cc h1 ex,Cc h1 ey,Result.andThen_ok,Sg h1 ha.1 hb.1,List.cons.injEq]
    by_cases hab:a = b
    · subst hab;simp [ih]
    · simp [hab]
theorem Ph {e:Bool} {n:Nat} {k:SK} (h:EU P t = some k) {a:SV} (ha:a.sk = k):(Instr.checkKey e (n + 1) t (encS a)).run P w = .ok () w:=by
  rcases vk h with ⟨i,hu,rfl⟩ | ⟨hu,rfl⟩ | ⟨hu,rfl⟩ <;> cases a <;> simp_all [SV.sk,encS,Instr.checkKey,run_underlying hu]
theorem Ef {e:Bool} {n:Nat} {cs:Array Value}:∀ {fs:List Field} {i:Nat} {ks:List SK} {ZZ9:List SV},FX P fs i = true → IZ P fs = some ks → ZZ9.map SV.sk = ks → (∀ j:Nat,cs[i + j]? = ZZ9[j]?.map encS) →
    (forIn fs PUnit.unit (fun (f:Field) (_:PUnit)=>(do
      if f.name ≠ "_" then Instr.checkKey e (n + 1) f.type (← part f.type cs f.offset)
      pure (ForInStep.yield PUnit.unit):Sem (ForInStep PUnit)))).run P w = .ok PUnit.unit w
  | [],i,ks,ZZ9,_,_,_,_=>by simp
  | f :: fs,i,ks,ZZ9,hf,hk,ha,hx=>by
    obtain ⟨k,h1,h2⟩:=zbm hk
    obtain ⟨l,h3,rfl⟩:=zmm h2
    unfold FX at hf
    simp only [Bool.and_eq_true,bne_iff_ne,ne_eq,beq_iff_eq] at hf
    obtain ⟨⟨⟨f1,f2⟩,f3⟩,f4⟩:=hf
    cases ZZ9 with
    | nil=>simp at ha
    | cons a ZZ9 =>
    simp only [List.map_cons,List.cons.injEq] at ha
    have ex:cs[f.offset]? = some (encS a):=by rw [f2];simpa using hx 0
    have ih:=Ef (e:=e) (n:=n) f4 h3 ha.2 (fun j=>by have:=hx (j + 1);rw [show i + 1 + j = i + (j + 1) from by omega];simpa using this)
    rw [List.forIn_cons]
    simp only [if_pos f1,Sem.run_bind,Cc h1 ex,Result.andThen_ok,Ph h1 ha.1,Sem.run_pure]
    exact ih
theorem Pj {e:Bool} {n:Nat} {fs:Array Field} {ks:List SK} {ZZ9:List SV} (hu:P.underlying t = some (.struct fs)) (hf:FX P fs.toList 0 = true) (hk:IZ P fs.toList = some ks) (ha:ZZ9.map SV.sk = ks):(Instr.checkKey e (n + 2) t (.agg (ZZ9.map encS).toArray)).run P w = .ok () w:=by
  have:=Ef (w:=w) (e:=e) (n:=n) hf hk ha (cs:=(ZZ9.map encS).toArray) (fun j=>by simp)
  unfold Instr.checkKey
  simp only [Sem.run_bind,run_underlying hu,Result.andThen_ok]
  rw [← Array.forIn_toList]
  simp only [ne_eq,ite_not] at this ⊢
  simp at this ⊢
  rw [this]
  rfl
theorem Pk {n:Nat} {ZZ9:List SV} (hs:∀ (n:Nat) (a:SV),Instr.sameBits n (encS a) (encS a) = true):Instr.sameBits (n + 1) (.agg (ZZ9.map encS).toArray) (.agg (ZZ9.map encS).toArray) = true:=by
  unfold Instr.sameBits
  simp only [beq_self_eq_true,Bool.true_and,List.all_eq_true]
  intro p hp
  have:∀ (l:List Value) (p:Value × Value),p ∈ l.zip l → p.1 = p.2 ∧ p.1 ∈ l:=by
    intro l
    induction l with
    | nil=>intro p hp;simp at hp
    | cons x l ih =>
      intro p hp
      rcases List.mem_cons.mp hp with rfl | hp
      · exact ⟨rfl,by simp⟩
      · exact ⟨(ih p hp).1,List.mem_cons_of_mem _ (ih p hp).2⟩
  obtain ⟨h1,h2⟩:=this _ _ hp
  obtain ⟨x,y⟩:=p
  simp only at h1 h2
  subst h1
  simp only [List.mem_map] at h2
  obtain ⟨s,_,rfl⟩:=h2
  exact hs _ s
theorem Hq {n:Nat} (a:SV):Instr.sameBits n (encS a) (encS a) = true:=by
  cases a <;> simp [encS,Instr.sameBits]
  rw [Mq.uP];simp
theorem Eh {ks:List SK} {a:KV} (h:a.ks = .agg ks):∃ ZZ9,a = .agg ZZ9 ∧ ZZ9.map SV.sk = ks:=by
  cases a with
  | one x=>cases h
  | agg ZZ9=>exact ⟨ZZ9,rfl,by simpa [KV.ks] using h⟩
theorem Ao {k:SK} {a:KV} (h:a.ks = .one k):∃ x,a = .one x ∧ x.sk = k:=by
  cases a with
  | one x=>exact ⟨x,rfl,by simpa [KV.ks] using h⟩
  | agg ZZ9=>cases h
theorem Pm {n:Nat} {d:TypeDesc} (hu:P.underlying t = some d) (hd:∀ ms,d ≠ .interface ms):(Op.eqGuardIn (n + 1) t .nilIface .nilIface).run P w = .ok false w:=by
  unfold Op.eqGuardIn
  simp only [Sem.run_bind,run_underlying hu,Result.andThen_ok]
  cases d <;> first | rfl | exact absurd rfl (hd _)
theorem Ce {d:TypeDesc} (hu:P.underlying t = some d) (hd:∀ ms,d ≠ .interface ms) (w:World):(Op.eqGuardIn Op.maxDepth t .nilIface .nilIface).run P w = .ok false w:=by
  unfold Op.maxDepth
  exact Pm hu hd
set_option maxHeartbeats 2000000 in
theorem U6 (h:okT P t = true):kX P t:=by
  unfold okT at h
  rw [Bool.and_eq_true] at h
  obtain ⟨hg,h⟩:=h
  have hg':P.eqGuardType P.depth t = false:=by simpa using hg
  have gd:(∀ w,(Op.eqGuardIn Op.maxDepth t .nilIface .nilIface).run P w = .ok false w) → ∀ op x y,∀ (a b:Value) (w:World),(eqGuard op t x y a b).run P w = .ok () w:=by
    intro hn op x y a b w
    have key:(Sem.run P (match a,b with
      | .nilIface,.nilIface=>do
        if (x matches .const _) || (y matches .const _) then return
        if ← Op.eqGuardIn Op.maxDepth t a b then unsupported (.noEntry "binop/eql: two nil values of an interface type with methods, neither of them the literal nil")
      | .agg _,.agg _=>do
        if !(← program).eqGuardType (← program).depth t then return
        if ← Op.eqGuardIn Op.maxDepth t a b then unsupported (.noEntry "binop/eql: two nil values of an interface type with methods, in a part of a struct or an array")
      | _,_=>pure ()) w) = .ok () w:=by
      cases a <;> cases b <;> first | rfl | (simp only [Sem.run_bind,run_program,Result.andThen_ok,hg'];rfl) | skip
      cases x <;> cases y <;> first | rfl | simp [hn]
    unfold eqGuard
    split
    · exact key
    · exact key
    · rfl
  cases hu:P.underlying t with
  | none=>rw [hu] at h;cases h
  | some d =>
    rw [hu] at h
    have sc:∀ k,EU P t = some k → xG P t = some (.one k) → (∀ w,(Op.eqGuardIn Op.maxDepth t .nilIface .nilIface).run P w = .ok false w) → (∀ a:SV,a.sk = k → MapKept.IsKey d (encS a)) → (∀ a b:SV,a.sk = k → b.sk = k → Instr.sameNow d (encS a) (encS b) = some (decide (a = b))) → kX P t:=by
      intro k hk hks hn h1 h2
      have hcase:∀ {sh},xG P t = some sh → sh = .one k:=fun e=>by rw [hks] at e;cases e;rfl
      refine ⟨fun sh e=>?_,fun sh e a b w ha hb=>?_,gd hn⟩
      · obtain rfl:=hcase e
        refine Mq.Key.NW hu (fun a ha=>?_) (fun a b ha hb=>?_) (fun a ha=>?_)
        · obtain ⟨x,rfl,hx⟩:=Ao ha;exact h1 x hx
        · obtain ⟨x,rfl,hx⟩:=Ao ha
          obtain ⟨y,rfl,hy⟩:=Ao hb
          simp only [l8,KV.one.injEq]
          exact h2 x y hx hy
        · obtain ⟨x,rfl,hx⟩:=Ao ha;exact Hq x
      · obtain rfl:=hcase e
        obtain ⟨x,rfl,hx⟩:=Ao ha
        obtain ⟨y,rfl,hy⟩:=Ao hb
        simp only [l8,KV.one.injEq]
        unfold Op.equal Op.maxDepth
        exact Sg hk hx hy
    cases d with
    | int i =>
      refine sc (.int i) (by simp [EU,hu]) (by simp [xG,EU,hu]) (Ce hu (fun _ h=>by cases h)) (fun a ha=>?_) (fun a b ha hb=>?_)
      · cases a <;> simp_all [SV.sk,encS,MapKept.IsKey]
      · cases a <;> cases b <;> simp_all [SV.sk,encS,Instr.sameNow]
        rw [Bool.eq_iff_iff];simp
    | bool =>
      refine sc .bool (by simp [EU,hu]) (by simp [xG,EU,hu]) (Ce hu (fun _ h=>by cases h)) (fun a ha=>?_) (fun a b ha hb=>?_)
      · cases a <;> simp_all [SV.sk,encS,MapKept.IsKey]
      · cases a <;> cases b <;> simp_all [SV.sk,encS,Instr.sameNow]
        rw [Bool.eq_iff_iff];simp
    | string =>
      refine sc .str (by simp [EU,hu]) (by simp [xG,EU,hu]) (Ce hu (fun _ h=>by cases h)) (fun a ha=>?_) (fun a b ha hb=>?_)
      · cases a <;> simp_all [SV.sk,encS,MapKept.IsKey]
      · cases a <;> cases b <;> simp_all [SV.sk,encS,Instr.sameNow]
        exact Mq.uP _ _
    | struct fs =>
      simp only [Bool.and_eq_true,Bool.not_eq_true'] at h
      have hcase:∀ {sh},xG P t = some sh → ∃ ks,IZ P fs.toList = some ks ∧ sh = .agg ks:=fun e=>by
        unfold xG at e
        rw [hu] at e
        obtain ⟨ks,h1,h2⟩:=zmm e
        exact ⟨ks,h1,h2.symm⟩
      have idx:∀ (ZZ9:List SV) (j:Nat),((ZZ9.map encS).toArray)[0 + j]? = ZZ9[j]?.map encS:=fun ZZ9 j=>by simp
      have heq:∀ sh,xG P t = some sh → ∀ (a b:KV) (w:World),a.ks = sh → b.ks = sh → (Op.equal t (l8 a) (l8 b)).run P w = .ok (decide (a = b)) w:=by
        intro sh e a b w ha hb
        obtain ⟨ks,hks,rfl⟩:=hcase e
        obtain ⟨ZZ9,rfl,ha1⟩:=Eh ha
        obtain ⟨bs,rfl,hb1⟩:=Eh hb
        have hf:P.fieldsOf t = fs:=by simp [Program.fieldsOf,hu]
        unfold Op.equal Op.maxDepth
        simp only [l8,KV.agg.injEq]
        rw [run_equalIn_struct (P:=P) w _ t _ _ (by rw [hf];exact hu) h.1,hf]
        exact Am h.2 hks ha1 hb1 (idx ZZ9) (idx bs)
      refine ⟨fun sh e=>?_,heq,gd (Ce hu (fun _ h=>by cases h))⟩
      · obtain ⟨ks,hks,rfl⟩:=hcase e
        refine Mq.Key.KA hu (fun e' a w ha=>?_) (fun a b w ha hb=>heq _ e a b w ha hb) (fun a ha=>?_) (fun a ha=>?_)
        · obtain ⟨ZZ9,rfl,ha1⟩:=Eh ha
          exact Pj (n:=9998) hu h.2 hks ha1
        · obtain ⟨ZZ9,rfl,ha1⟩:=Eh ha
          exact Pk (n:=9999) (fun n a=>Hq a)
        · obtain ⟨ZZ9,rfl,ha1⟩:=Eh ha
          exact ⟨_,rfl⟩
    | _=>simp at h
end
end Go.Proofs.Ytdkkgecdhapfhaa.Ev
set_option maxRecDepth 100000
namespace Go.Proofs.Ytdkkgecdhapfhaa.Kn
open Go Go.RowKit Go.Proofs Ev
theorem eqs : ∀ t ∈ [3,32],kX Try.prog t:=by
  intro t ht
  simp only [List.mem_cons,List.not_mem_nil,or_false] at ht
  rcases ht with rfl | rfl <;> exact U6 (by kernel_rfl)
theorem mixed : Try.prog.follows .mixedOrders = true:=by kernel_rfl
theorem Pn : iE Try.prog fun _ _=>none:=fun f fV rs rG h=>by cases h
theorem Jv : eu Try.prog fun _ _=>none:=fun f fV r h=>by cases h
def U7 : CF:=⟨1,[(.t 2)],[],[],(.seq (.reg [⟨(some 2),none,(.mv (.k (.one .fQ)))⟩] [0]) (.seq (.seq (.reg [⟨(some 3),none,(.mv (.t 0))⟩,⟨(some 4),none,(.Bf false (.t 3))⟩] [0,4]) (.cond (.t 4) (.seq (.reg [⟨(some 2),none,(.mv (.k (.one .fQ)))⟩] [2]) .ret) .skip)) (.seq (.reg [⟨(some 5),none,(.ET 9 1 0 [] [])⟩,⟨(some 6),none,(.mv (.t 0))⟩,⟨(some 7),none,(.app 9 1 16 (.t 5) (.t 6))⟩,⟨(some 2),none,(.mv (.t 7))⟩] [2]) .ret)))⟩
def U8 : CF:=⟨1,[(.t 2)],[some 3],[],(.seq (.reg [⟨(some 2),none,(.mv (.k (.one .fQ)))⟩] [0]) (.seq (.seq (.reg [⟨(some 3),none,(.mv (.t 0))⟩,⟨(some 4),none,(.Bf false (.t 3))⟩] [0,4]) (.cond (.t 4) (.seq (.reg [⟨(some 2),none,(.mv (.k (.one .fQ)))⟩] [2]) .ret) .skip)) (.seq (.reg [⟨(some 5),none,(.ET 32 3 0 [] [])⟩,⟨(some 6),none,(.mv (.t 0))⟩,⟨(some 7),none,(.app 32 3 32 (.t 5) (.t 6))⟩,⟨(some 2),none,(.mv (.t 7))⟩] [2]) .ret)))⟩
theorem Po {f:FuncId} {cf:CF} {Γ:Env} (h:lV Try.prog f cf) (h1:iE Try.prog Γ) (h2:eu Try.prog Γ) (F:Nat):Sat Try.prog f (Kk Γ F cf):=by
  obtain ⟨fn,c,X,hints,rest,e1,_,e2,e3,e4,e5,e6⟩:=h.ok
  exact Ah mixed e3 h1 h2 e1 e2 e4 e5 e6 F
theorem Pp : lV Try.prog 88 U7:=⟨Try.f88,_,⟨[3,32],[],[],[33,89]⟩,[⟨[0],[],[]⟩,⟨[0,4],[],[]⟩,⟨[2],[],[]⟩,⟨[2],[],[]⟩],[],by kernel_rfl,by kernel_rfl,rfl,eqs,by kernel_rfl,by kernel_rfl,by decide⟩
theorem Pq : lV Try.prog 70 U8:=⟨Try.f70,_,⟨[3,32],[],[],[33,89]⟩,[⟨[0],[],[]⟩,⟨[0,4],[],[]⟩,⟨[2],[],[]⟩,⟨[2],[],[]⟩],[],by kernel_rfl,by kernel_rfl,rfl,eqs,by kernel_rfl,by kernel_rfl,by decide⟩
theorem Pt (r:List FV) (l:List (List FV)) (h:l.length < 1000000) (hl:(r :: l).all (fun r=>r.length == 1) = true):Kk (fun _ _=>none) 10 U7 [vl (r :: l)] = some ([vl (r :: l)],[vl (r :: l)]):=by
  refine Jc ?_
  rw [List.all_cons,Bool.and_eq_true] at hl
  simp only [U7,hl.1,hl.2,List.all_cons,go_sem,Nat.reduceAdd,Nat.reduceMul,Nat.reduceEqDiff,Nat.reduceBEq,Nat.reduceMod,Nat.reduceDiv,↓reduceIte,reduceCtorEq]
  omega
theorem Pv (r:List FV) (l:List (List FV)) (h:l.length < 1000000) (hl:(r :: l).all (fun r=>r.length == 3) = true):Kk (fun _ _=>none) 10 U8 [vl (r :: l)] = some ([.one (.own 3 (r :: l))],[vl (r :: l)]):=by
  refine Jc ?_
  rw [List.all_cons,Bool.and_eq_true] at hl
  simp only [U8,hl.1,hl.2,List.all_cons,go_sem,Nat.reduceAdd,Nat.reduceMul,Nat.reduceEqDiff,Nat.reduceBEq,Nat.reduceMod,Nat.reduceDiv,↓reduceIte,reduceCtorEq]
  omega
theorem wT {t e:TypeId} (hu:Try.prog.underlying t = some (.slice e)) (p:Option Addr) (c:Nat) (w:World):(binOp .eql t (.slice p 0 c) (.slice none 0 0)).run Try.prog w = .ok (.bool p.isNone) w:=by
  have:=run_equal_slice_nil w t e p 0 c hu
  simp only [binOp,Sem.run_bind,this,Result.andThen_ok,Sem.run_pure]
theorem Ei {t ty e:TypeId} {i:TypeInfo} (hu:Try.prog.underlying t = some (.slice e)) (hi:Try.prog.info? e = some i) (a b:Addr) (c:Nat) (w:World):(Builtin.append_ #[t,t] ty #[.slice (some b) 0 0,.slice (some a) 0 c]).run Try.prog w = .ok (.slice (some b) 0 0) w:=by
  have h1:∀ w,(Builtin.lenOf (.slice (some a) 0 c)).run Try.prog w = .ok 0 w:=fun _=>rfl
  have h2:=fun w=>run_firstCells_some (P:=Try.prog) w i.size 0 a 0 c [] (by simp) (by simp)
  simp [Builtin.append_,run_underlying hu,sizeOf,typeInfo,hi,storeCells,h1,h2]
theorem Me (c:Nat) (w:World):Calls Try.prog 88 #[.slice none 0 c] w fun e w'=>e = .returned (.slice none 0 0) ∧ w' = w:=by
  have heq:=wT (t:=33) (e:=9) (by kernel_rfl) none c
  go_enter Try.func88,Try.ntmps88
  go_wp2
  go_ret
  exact ⟨rfl,rfl⟩
theorem Mf (a:Addr) (c:Nat) (w:World):Calls Try.prog 88 #[.slice (some a) 0 c] w fun e w'=>e = .returned (.slice (some ⟨w.heap.size,0,none⟩) 0 0) ∧ w' = w.alloc (.cells #[] 9):=by
  have heq:=wT (t:=33) (e:=9) (by kernel_rfl) (some a) c
  obtain ⟨i,hi⟩:=Option.isSome_iff_exists.mp (show (Try.prog.info? 9).isSome = true by kernel_rfl)
  have hap:=fun b w=>Ei (t:=33) (ty:=33) (e:=9) (by kernel_rfl) hi a b c w
  go_enter Try.func88,Try.ntmps88
  go_wp2
  go_ret
  exact ⟨rfl,rfl⟩
theorem Mg (c:Nat) (w:World):Calls Try.prog 70 #[.slice none 0 c] w fun e w'=>e = .returned (.slice none 0 0) ∧ w' = w:=by
  have heq:=wT (t:=57) (e:=32) (by kernel_rfl) none c
  go_enter Try.func70,Try.ntmps70
  go_wp2
  go_ret
  exact ⟨rfl,rfl⟩
theorem Mh (a:Addr) (c:Nat) (w:World):Calls Try.prog 70 #[.slice (some a) 0 c] w fun e w'=>e = .returned (.slice (some ⟨w.heap.size,0,none⟩) 0 0) ∧ w' = w.alloc (.cells #[] 32):=by
  have heq:=wT (t:=57) (e:=32) (by kernel_rfl) (some a) c
  obtain ⟨i,hi⟩:=Option.isSome_iff_exists.mp (show (Try.prog.info? 32).isSome = true by kernel_rfl)
  have hap:=fun b w=>Ei (t:=57) (ty:=57) (e:=32) (by kernel_rfl) hi a b c w
  go_enter Try.func70,Try.ntmps70
  go_wp2
  go_ret
  exact ⟨rfl,rfl⟩
def Pw (sz:Nat) (own:Bool) (fV:List AV):Option (List AV × List AV):=match fV with
  | [.one (.f (.sl rows))]=>if rows.length ≤ 1000000 ∧ rows.all (fun r=>r.length == sz) = true then some ([.one (if own then .own sz rows else .f (.sl rows))],fV) else none
  | _=>none
theorem yF (w:World) (o:Obj):w.heap.size ≤ (w.alloc o).heap.size ∧ (∀ b,b < w.heap.size → (w.alloc o).heap[b]? = w.heap[b]?) ∧ (w.alloc o).heap[w.heap.size]? = some o ∧ (w.alloc o).heap.size = w.heap.size + 1:=by
  obtain ⟨h1,h2,h3⟩:=jV w o
  exact ⟨by omega,h2,h1,h3⟩
theorem Hr {f:FuncId} {cf:CF} {sz e:Nat} {own:Bool} (h0:0 < sz) (he:lV Try.prog f cf) (hrun:∀ (r:List FV) (l:List (List FV)),l.length < 1000000 → (r :: l).all (fun r=>r.length == sz) = true → Kk (fun _ _=>none) 10 cf [vl (r :: l)] = some ([.one (if own then .own sz (r :: l) else .f (.sl (r :: l)))],[vl (r :: l)]))
    (hn:∀ (c:Nat) (w:World),Calls Try.prog f #[.slice none 0 c] w fun e w'=>e = .returned (.slice none 0 0) ∧ w' = w)
    (hs:∀ (a:Addr) (c:Nat) (w:World),Calls Try.prog f #[.slice (some a) 0 c] w fun e' w'=>e' = .returned (.slice (some ⟨w.heap.size,0,none⟩) 0 0) ∧ w' = w.alloc (.cells #[] e)):Sat Try.prog f (Pw sz own):=by
  intro fV rs rG hg
  unfold Pw at hg
  split at hg
  · rename_i rows
    split at hg
    · rename_i hc
      cases hg
      cases rows with
      | cons r l =>
        exact Po he Pn Jv 10 _ _ _ (hrun r l (by have:=hc.1;simp at this;omega) hc.2)
      | nil =>
        intro Fz w vals bs ha hnd hap hfz
        match vals,ha with
        | [v],⟨b1,b2,h1,h2,e0⟩ =>
        obtain ⟨hv,rfl⟩:=h1
        obtain rfl:b2 = []:=h2
        subst e0
        simp only [eX] at hv
        obtain ⟨A,c,rfl,hle,hbig,_⟩:=hv
        have hrep:∀ (w':World) (v:Value),(∃ A,v = .slice A 0 0) → eX Fz w' (.sl []) v:=fun w' v ⟨A,hA⟩=>by
          simp only [eX];exact ⟨A,0,by rw [hA];rfl,Nat.le_refl _,by simp,.inl trivial⟩
        have hbk:∀ (w':World),fM Fz w' [vl []] [.slice A ([]:List (List FV)).length c] []:=fun w' =>
          ⟨[],[],⟨by simp only [eX];exact ⟨A,c,rfl,hle,hbig,.inl trivial⟩,rfl⟩,rfl,rfl⟩
        cases A with
        | none =>
          refine (hn c w).mono fun e' w' ⟨e1,e2⟩=>?_
          subst e2
          refine ⟨Fz,[.slice none 0 0],[],[],e1,fun _ h=>h,fun b hb=>⟨hfz b hb,.inl hb⟩,Nat.le_refl _,fun _ _ _=>rfl,⟨rfl,rfl⟩,hbk w',?_,by simp,fun b hb=>by simp at hb⟩
          cases own with
          | true=>exact ⟨[],[],⟨h0,0,[],none,0,rfl,World.ownsRow_nil w' _ _ _,rfl,rfl⟩,rfl,rfl⟩
          | false=>exact ⟨[],[],⟨hrep w' _ ⟨none,rfl⟩,rfl⟩,rfl,rfl⟩
        | some a =>
          refine (hs a c w).mono fun e' w' ⟨e1,e2⟩=>?_
          subst e2
          obtain ⟨k1,k2,k3,k4⟩:=yF w (.cells #[] e)
          cases own with
          | true =>
            refine ⟨Fz,[.slice (some ⟨w.heap.size,0,none⟩) 0 0],[],[w.heap.size],e1,fun _ h=>h,fun b hb=>⟨Nat.lt_of_lt_of_le (hfz b hb) k1,.inl hb⟩,k1,fun b hb _=>k2 b hb,⟨rfl,rfl⟩,hbk _,?_,by simp,fun b hb=>?_⟩
            · refine ⟨[w.heap.size],[],⟨h0,e,[],_,0,rfl,⟨by simp,.inr ⟨w.heap.size,0,#[],rfl,Nat.zero_le _,k3,Nat.le_refl _,by simp [maxLen],by simp,by simp⟩⟩,rfl,rfl⟩,rfl,rfl⟩
            · simp at hb
              subst hb
              exact ⟨fun hf=>by have:=hfz _ hf;omega,by omega,.inr (Nat.le_refl _)⟩
          | false =>
            exact ⟨Fz,[.slice (some ⟨w.heap.size,0,none⟩) 0 0],[],[],e1,fun _ h=>h,fun b hb=>⟨Nat.lt_of_lt_of_le (hfz b hb) k1,.inl hb⟩,k1,fun b hb _=>k2 b hb,⟨rfl,rfl⟩,hbk _,⟨[],[],⟨hrep _ _ ⟨_,rfl⟩,rfl⟩,rfl,rfl⟩,by simp,fun b hb=>by simp at hb⟩
    · cases hg
  · cases hg
theorem Px : Sat Try.prog 88 (Pw 1 false):=Hr (by decide) Pp Pt Me Mf
theorem Py : Sat Try.prog 70 (Pw 3 true):=Hr (by decide) Pq Pv Mg Mh
end Go.Proofs.Ytdkkgecdhapfhaa.Kn
set_option maxRecDepth 100000
namespace Go.Proofs.Ytdkkgecdhapfhaa.Kn
open Go Go.Proofs Ev
theorem e14 : lV Try.prog 14 c14:=⟨Try.f14,_,⟨[3,32],[],[],[33,89]⟩,[⟨[0,1],[],[]⟩,⟨[0,1,5],[],[]⟩,⟨[0,1,5],[20202],[]⟩,⟨[0,1,5,9],[],[]⟩,⟨[0,1,5,18],[],[]⟩,⟨[4],[],[]⟩,⟨[0,1,5],[],[]⟩,⟨[4],[],[]⟩],[],by kernel_rfl,by kernel_rfl,rfl,eqs,by kernel_rfl,by kernel_rfl,by decide⟩
theorem e17 : lV Try.prog 17 c17:=⟨Try.f17,_,⟨[3,32],[],[],[33,89]⟩,[⟨[0,2],[],[]⟩,⟨[0,2,8],[],[]⟩,⟨[2],[],[]⟩,⟨[2],[],[]⟩],[],by kernel_rfl,by kernel_rfl,rfl,eqs,by kernel_rfl,by kernel_rfl,by decide⟩
theorem e20 : lV Try.prog 20 c20:=⟨Try.f20,_,⟨[3,32],[],[],[33,89]⟩,[⟨[1,3,5,6,7],[],[]⟩,⟨[3,5,6,7,9,10],[],[]⟩,⟨[3,5,6,7,9,10,19],[],[]⟩,⟨[3,6,7,9,10,11],[],[]⟩,⟨[3,6,7,9,10,11],[],[]⟩,⟨[3,6,7,9,10],[],[]⟩,⟨[6,7,8],[],[]⟩],[],by kernel_rfl,by kernel_rfl,rfl,eqs,by kernel_rfl,by kernel_rfl,by decide⟩
theorem e22 : lV Try.prog 22 EX:=⟨Try.f22,_,⟨[3,32],[],[],[33,89]⟩,[⟨[2,3],[],[]⟩,⟨[4],[],[]⟩],[],by kernel_rfl,by kernel_rfl,rfl,eqs,by kernel_rfl,by kernel_rfl,by decide⟩
theorem e33 : lV Try.prog 33 OV:=⟨Try.f33,_,⟨[3,32],[],[],[33,89]⟩,[⟨[0,3,4],[],[]⟩,⟨[0,3,4,5],[],[]⟩,⟨[0,3,4,5,6],[],[]⟩,⟨[0,3,4,5,6],[30201,80000,100000,120000],[]⟩,⟨[0,3,4,5,6,10],[],[]⟩,⟨[0,3,4,5,6,19],[],[]⟩,⟨[0,3,4,5,6],[],[]⟩,⟨[0,3,4,5,6],[],[]⟩,⟨[4],[],[]⟩],[],by kernel_rfl,by kernel_rfl,rfl,eqs,by kernel_rfl,by kernel_rfl,by decide⟩
theorem e34 : lV Try.prog 34 c34:=⟨Try.f34,_,⟨[3,32],[],[],[33,89]⟩,[⟨[0],[],[]⟩,⟨[0,3],[],[]⟩,⟨[0,3],[20202],[]⟩,⟨[0,3,8],[],[]⟩,⟨[0,3,4],[],[]⟩,⟨[0,3,4],[20202],[]⟩,⟨[0,3,4,13],[],[]⟩,⟨[0,3,4,24],[],[]⟩,⟨[2],[],[]⟩,⟨[0,3,4],[],[]⟩,⟨[0,3],[],[]⟩,⟨[2],[],[]⟩],[],by kernel_rfl,by kernel_rfl,rfl,eqs,by kernel_rfl,by kernel_rfl,by decide⟩
theorem e35 : lV Try.prog 35 c35:=⟨Try.f35,_,⟨[3,32],[],[],[33,89]⟩,[⟨[1],[],[]⟩,⟨[1,3],[],[]⟩,⟨[1,3],[20802,40000],[]⟩,⟨[1,3,8],[],[]⟩,⟨[1,3,23],[],[]⟩,⟨[2],[],[]⟩,⟨[1,3],[],[]⟩,⟨[2],[],[]⟩],[],by kernel_rfl,by kernel_rfl,rfl,eqs,by kernel_rfl,by kernel_rfl,by decide⟩
theorem e62 : lV Try.prog 62 c62:=⟨Try.f62,_,⟨[3,32],[],[],[33,89]⟩,[⟨[0,1],[],[]⟩,⟨[0,1,11],[],[]⟩,⟨[4],[],[]⟩,⟨[4],[],[]⟩],[],by kernel_rfl,by kernel_rfl,rfl,eqs,by kernel_rfl,by kernel_rfl,by decide⟩
theorem e66 : lV Try.prog 66 c66:=⟨Try.f66,_,⟨[3,32],[],[],[33,89]⟩,[⟨[0,1],[],[]⟩,⟨[0,6],[],[]⟩,⟨[4,5],[],[]⟩],[],by kernel_rfl,by kernel_rfl,rfl,eqs,by kernel_rfl,by kernel_rfl,by decide⟩
theorem e67 : lV Try.prog 67 c67:=⟨Try.f67,_,⟨[3,32],[7],[],[33,89]⟩,[⟨[0,3],[],[]⟩,⟨[4],[],[]⟩],[],by kernel_rfl,by kernel_rfl,rfl,eqs,by kernel_rfl,by kernel_rfl,by decide⟩
theorem e68 : lV Try.prog 68 c68:=⟨Try.f68,_,⟨[3,32],[],[],[33,89]⟩,[⟨[0,1],[],[]⟩,⟨[4],[],[]⟩],[],by kernel_rfl,by kernel_rfl,rfl,eqs,by kernel_rfl,by kernel_rfl,by decide⟩
theorem e69 : lV Try.prog 69 c69:=⟨Try.f69,_,⟨[3,32],[],[],[33,89]⟩,[⟨[0,3],[],[]⟩,⟨[4],[],[]⟩],[],by kernel_rfl,by kernel_rfl,rfl,eqs,by kernel_rfl,by kernel_rfl,by decide⟩
theorem e73 : lV Try.prog 73 c73:=⟨Try.f73,_,⟨[3,32],[],[],[33,89]⟩,[⟨[1],[],[]⟩,⟨[1,3],[],[]⟩,⟨[1,3,37],[],[]⟩,⟨[2],[],[]⟩,⟨[1,3,39,40,41],[],[]⟩,⟨[1,3,39,40,41],[20802,40000,80000],[]⟩,⟨[1,3,39,40,41,42],[],[]⟩,⟨[1,3,4,5,39,40,41],[],[]⟩,⟨[1,3,39,40,41,66],[],[]⟩,⟨[2],[],[]⟩,⟨[1,3,39,40,41],[],[]⟩,⟨[2],[],[]⟩],[],by kernel_rfl,by kernel_rfl,rfl,eqs,by kernel_rfl,by kernel_rfl,by decide⟩
theorem e86 : lV Try.prog 86 c86:=⟨Try.f86,_,⟨[3,32],[],[],[33,89]⟩,[⟨[0,1],[],[]⟩,⟨[4],[],[]⟩],[],by kernel_rfl,by kernel_rfl,rfl,eqs,by kernel_rfl,by kernel_rfl,by decide⟩
theorem e89 : lV Try.prog 89 c89:=⟨Try.f89,_,⟨[3,32],[41],[38],[33,89]⟩,[⟨[0,1],[],[]⟩,⟨[0,1,5],[],[]⟩,⟨[0,1,5,12],[],[]⟩,⟨[4],[],[]⟩,⟨[0,1,5,6],[],[]⟩,⟨[0,1,5,6],[20202],[]⟩,⟨[0,1,5,6,19],[],[]⟩,⟨[0,1,5,6,7],[],[]⟩,⟨[0,1,5,6,7,29],[],[]⟩,⟨[0,1,5,6],[],[]⟩,⟨[0,1,5,6],[],[]⟩,⟨[0,1,5,6],[],[]⟩,⟨[0,5],[],[]⟩,⟨[4],[],[]⟩],[],by kernel_rfl,by kernel_rfl,rfl,eqs,by kernel_rfl,by kernel_rfl,by decide⟩
theorem e90 : lV Try.prog 90 c90:=⟨Try.f90,_,⟨[3,32],[],[],[33,89]⟩,[⟨[1,2],[],[]⟩,⟨[3],[],[]⟩],[],by kernel_rfl,by kernel_rfl,rfl,eqs,by kernel_rfl,by kernel_rfl,by decide⟩
theorem e93 : lV Try.prog 93 c93:=⟨Try.f93,_,⟨[3,32],[],[],[33,89]⟩,[⟨[0,1],[],[]⟩,⟨[4],[],[]⟩],[],by kernel_rfl,by kernel_rfl,rfl,eqs,by kernel_rfl,by kernel_rfl,by decide⟩
theorem e96 : lV Try.prog 96 c96:=⟨Try.f96,_,⟨[3,32],[],[],[33,89]⟩,[⟨[0,1],[],[]⟩,⟨[4],[],[]⟩],[],by kernel_rfl,by kernel_rfl,rfl,eqs,by kernel_rfl,by kernel_rfl,by decide⟩
theorem e108 : lV Try.prog 108 OW:=⟨Try.f108,_,⟨[3,32],[],[],[33,89]⟩,[⟨[0,1],[],[]⟩,⟨[0,1,7,8],[],[]⟩,⟨[0,1,7,8],[20202],[]⟩,⟨[0,1,7,8,9],[],[]⟩,⟨[0,1,5,7,8],[],[]⟩,⟨[0,1,5,7,8,16],[],[]⟩,⟨[4],[],[]⟩,⟨[0,1,7,8],[],[]⟩,⟨[4],[],[]⟩],[],by kernel_rfl,by kernel_rfl,rfl,eqs,by kernel_rfl,by kernel_rfl,by decide⟩
theorem aeS : lV Try.prog 114 OX:=⟨Try.f114,_,⟨[3,32],[],[],[33,89]⟩,[⟨[0,1],[],[]⟩,⟨[0,1,7,8],[],[]⟩,⟨[0,1,7,8],[20202],[]⟩,⟨[0,1,7,8,9],[],[]⟩,⟨[0,1,5,7,8],[],[]⟩,⟨[0,1,5,7,8,16],[],[]⟩,⟨[4],[],[]⟩,⟨[0,1,7,8],[],[]⟩,⟨[4],[],[]⟩],[],by kernel_rfl,by kernel_rfl,rfl,eqs,by kernel_rfl,by kernel_rfl,by decide⟩
theorem e9 : lV Try.prog 9 c9:=⟨Try.f9,_,⟨[3,32],[],[],[33,89]⟩,[⟨[0,1],[],[]⟩,⟨[0,1,23],[],[]⟩,⟨[4],[],[]⟩,⟨[0,1,5],[],[]⟩,⟨[1,5,6],[],[]⟩,⟨[1,5,6,34],[],[]⟩,⟨[4],[],[]⟩,⟨[1,5,6,7],[],[]⟩,⟨[1,5,6,7],[40202,140000,540200,540204,540206,580400,1600400,2660400],[]⟩,⟨[1,5,6,7,38],[],[]⟩,⟨[1,5,6,7,8],[],[]⟩,⟨[1,5,6,7,8,9,10],[],[]⟩,⟨[1,5,6,7,8,9,10,11,12],[],[]⟩,⟨[1,5,6,7,8,64],[],[]⟩,⟨[4],[],[]⟩,⟨[1,5,6,7,8,66],[],[]⟩,⟨[1,5,6,7,8,66,67],[],[]⟩,⟨[1,5,6,7,8,13,14],[],[]⟩,⟨[1,5,6,7,8,14],[],[]⟩,⟨[1,5,6,7,94],[],[]⟩,⟨[4],[],[]⟩,⟨[1,5,6,7,8,66,95],[],[]⟩,⟨[1,5,6,7,8,15,16],[],[]⟩,⟨[1,5,6,7,15,16,17,18],[],[]⟩,⟨[1,5,6,7,124],[],[]⟩,⟨[4],[],[]⟩,⟨[1,5,6,7,8,125],[],[]⟩,⟨[1,5,6,7,8,19,20],[],[]⟩,⟨[1,5,6,7,8,20],[],[]⟩,⟨[1,5,6,7,142],[],[]⟩,⟨[4],[],[]⟩,⟨[1,5,6,7,155],[40202,140000,540200,540204,540206,580400,1600400,2660400],[]⟩,⟨[4],[],[]⟩,⟨[1,5,6,7],[],[]⟩,⟨[4],[],[]⟩],[],by kernel_rfl,by kernel_rfl,rfl,eqs,by kernel_rfl,by kernel_rfl,by decide⟩
theorem e10 : lV Try.prog 10 c10:=⟨Try.f10,_,⟨[3,32],[],[],[33,89]⟩,[⟨[0,1,2],[],[]⟩,⟨[0,1,2,27],[],[]⟩,⟨[6],[],[]⟩,⟨[0,1,2,7],[],[]⟩,⟨[0,1,2,7,32],[],[]⟩,⟨[6],[],[]⟩,⟨[0,1,2,7,8],[],[]⟩,⟨[0,1,2,7,8],[40202,620200,620204,620206],[]⟩,⟨[0,1,2,7,8,36],[],[]⟩,⟨[0,1,2,7,8,9],[],[]⟩,⟨[0,1,2,7,8,9,53],[],[]⟩,⟨[0,1,2,7,8,9,10,11],[],[]⟩,⟨[0,1,2,7,8,9,10,11,12,13],[],[]⟩,⟨[0,1,2,7,8,9,103],[],[]⟩,⟨[6],[],[]⟩,⟨[0,1,2,7,8,9,105],[],[]⟩,⟨[0,1,2,7,8,9,14],[],[]⟩,⟨[0,1,2,7,8,9,14],[],[]⟩,⟨[0,1,2,7,8,15,16],[],[]⟩,⟨[0,1,2,7,8,130],[],[]⟩,⟨[6],[],[]⟩,⟨[0,1,2,7,8,141],[],[]⟩,⟨[6],[],[]⟩,⟨[0,1,2,7,8],[],[]⟩,⟨[6],[],[]⟩],[],by kernel_rfl,by kernel_rfl,rfl,eqs,by kernel_rfl,by kernel_rfl,by decide⟩
theorem e11 : lV Try.prog 11 c11:=⟨Try.f11,_,⟨[3,32],[],[],[33,89]⟩,[⟨[1],[],[]⟩,⟨[1,9],[],[]⟩,⟨[2],[],[]⟩,⟨[1,3],[],[]⟩,⟨[1,3,4,5],[],[]⟩,⟨[2],[],[]⟩],[],by kernel_rfl,by kernel_rfl,rfl,eqs,by kernel_rfl,by kernel_rfl,by decide⟩
theorem e12 : lV Try.prog 12 c12:=⟨Try.f12,_,⟨[3,32],[],[],[33,89]⟩,[⟨[0,2,4],[],[]⟩,⟨[0,2,4,29],[],[]⟩,⟨[6],[],[]⟩,⟨[0,2,4,7],[],[]⟩,⟨[0,2,4,7,33],[],[]⟩,⟨[6],[],[]⟩,⟨[0,2,4,7,8],[],[]⟩,⟨[0,2,4,7,8],[20202,100000,640200,640204,640206],[]⟩,⟨[0,2,4,7,8,37],[],[]⟩,⟨[0,2,4,7,8],[],[]⟩,⟨[0,2,4,7,8],[],[]⟩,⟨[2,4,7,9,10],[],[]⟩,⟨[2,9,10,11,12],[],[]⟩,⟨[2,9,10,11,12,88],[],[]⟩,⟨[6],[],[]⟩,⟨[2,9,10,11,12,95],[],[]⟩,⟨[6],[],[]⟩,⟨[6],[],[]⟩],[],by kernel_rfl,by kernel_rfl,rfl,eqs,by kernel_rfl,by kernel_rfl,by decide⟩
theorem e13 : lV Try.prog 13 c13:=⟨Try.f13,_,⟨[3,32],[],[],[33,89]⟩,[⟨[0,1,5],[],[]⟩,⟨[0,1,5,29],[],[]⟩,⟨[6],[],[]⟩,⟨[0,1,5,7],[],[]⟩,⟨[0,1,5,7,33],[],[]⟩,⟨[6],[],[]⟩,⟨[0,1,5,7,8],[],[]⟩,⟨[0,1,5,7,8,9],[],[]⟩,⟨[0,1,5,7,8,9],[20202,120000,640200,640204,640206],[]⟩,⟨[0,1,5,7,8,9,37],[],[]⟩,⟨[0,1,5,7,8,9],[],[]⟩,⟨[0,1,5,7,8,9],[],[]⟩,⟨[0,1,5,7,8,9],[],[]⟩,⟨[1,5,7,8,10,11],[],[]⟩,⟨[1,5,7,8,10,11,12],[],[]⟩,⟨[1,5,7,8,10,11,12,13],[],[]⟩,⟨[1,5,7,10,11,12,13,14,15],[],[]⟩,⟨[1,5,10,11,14,15,99],[],[]⟩,⟨[6],[],[]⟩,⟨[10,11,14,15,103],[],[]⟩,⟨[6],[],[]⟩,⟨[6],[],[]⟩],[],by kernel_rfl,by kernel_rfl,rfl,eqs,by kernel_rfl,by kernel_rfl,by decide⟩
theorem e37 : lV Try.prog 37 c37:=⟨Try.f37,_,⟨[3,32],[],[],[33,89]⟩,[⟨[0,1],[],[]⟩,⟨[0,1,5],[],[]⟩,⟨[0,1,5],[20202],[]⟩,⟨[0,1,5,9],[],[]⟩,⟨[0,1,5,28],[],[]⟩,⟨[4],[],[]⟩,⟨[0,1,5],[],[]⟩,⟨[4],[],[]⟩],[],by kernel_rfl,by kernel_rfl,rfl,eqs,by kernel_rfl,by kernel_rfl,by decide⟩
theorem e38 : lV Try.prog 38 DW:=⟨Try.f38,_,⟨[3,32],[],[],[33,89]⟩,[⟨[],[],[]⟩,⟨[1],[],[]⟩,⟨[1,22],[],[]⟩,⟨[0],[],[]⟩,⟨[1,2],[],[]⟩,⟨[1,2,3],[],[]⟩,⟨[1,2,3,4,5],[],[]⟩,⟨[1,2,3,4,5,7],[],[]⟩,⟨[1,2,3,4,5,7,8],[],[]⟩,⟨[1,2,3,4,5,7,8,9,10],[],[]⟩,⟨[1,2,3,4,5,7,8,9,10,12],[],[]⟩,⟨[1,2,3,4,5,7,8,9,10,12,13],[],[]⟩,⟨[1,2,4,5,7,8,9,10,12,13,14,15],[],[]⟩,⟨[0],[861600,1181600],[]⟩],[],by kernel_rfl,by kernel_rfl,rfl,eqs,by kernel_rfl,by kernel_rfl,by decide⟩
theorem e39 : lV Try.prog 39 NM:=⟨Try.f39,_,⟨[3,32],[],[],[33,89]⟩,[⟨[0],[],[]⟩,⟨[0,8],[],[]⟩,⟨[2],[],[]⟩,⟨[2],[],[]⟩],[],by kernel_rfl,by kernel_rfl,rfl,eqs,by kernel_rfl,by kernel_rfl,by decide⟩
theorem e40 : lV Try.prog 40 c40:=⟨Try.f40,_,⟨[3,32],[],[],[33,89]⟩,[⟨[0,2],[],[]⟩,⟨[0,2,8],[],[]⟩,⟨[2],[],[]⟩,⟨[2],[],[]⟩],[],by kernel_rfl,by kernel_rfl,rfl,eqs,by kernel_rfl,by kernel_rfl,by decide⟩
theorem e41 : lV Try.prog 41 Kq:=⟨Try.f41,_,⟨[3,32],[],[],[33,89]⟩,[⟨[1],[],[]⟩,⟨[1,15],[],[]⟩,⟨[2,3],[],[]⟩,⟨[1,4],[],[]⟩,⟨[1,5],[],[]⟩,⟨[2,3],[],[]⟩],[],by kernel_rfl,by kernel_rfl,rfl,eqs,by kernel_rfl,by kernel_rfl,by decide⟩
theorem e44 : lV Try.prog 44 Ai:=⟨Try.f44,_,⟨[3,32],[],[],[33,89]⟩,[⟨[0,1,3,7,9],[],[]⟩,⟨[0,1,3,7,9,11,12],[],[]⟩,⟨[0,1,3,7,9,12,13],[],[]⟩,⟨[0,1,3,7,9,13,26],[],[]⟩,⟨[10],[],[]⟩,⟨[0,3,7,9,13,42],[],[]⟩,⟨[10],[],[]⟩,⟨[0,3,7,9,13,47],[],[]⟩,⟨[0,3,7,9,13],[],[]⟩,⟨[0,7],[],[]⟩,⟨[0,14,15],[],[]⟩,⟨[0,14,75,76,77],[],[]⟩,⟨[0,14,75,76,77],[20201,20205,20208,1460200,1462200],[]⟩,⟨[0,14,75,76,77,78],[],[]⟩,⟨[0,14,17,75,76,77],[],[]⟩,⟨[0,14,75,76,77],[],[]⟩,⟨[0,14,75,76,77],[],[]⟩,⟨[0],[],[]⟩,⟨[],[],[]⟩,⟨[10],[],[]⟩],[],by kernel_rfl,by kernel_rfl,rfl,eqs,by kernel_rfl,by kernel_rfl,by decide⟩
theorem e45 : lV Try.prog 45 R5:=⟨Try.f45,_,⟨[3,32],[],[],[33,89]⟩,[⟨[1,3,5,6],[],[]⟩,⟨[1,3,5,6,8,9],[],[]⟩,⟨[1,3,5,6,8,21],[],[]⟩,⟨[6,7],[],[]⟩,⟨[6,7],[],[]⟩],[],by kernel_rfl,by kernel_rfl,rfl,eqs,by kernel_rfl,by kernel_rfl,by decide⟩
theorem e46 : lV Try.prog 46 c46:=⟨Try.f46,_,⟨[3,32],[],[],[33,89]⟩,[⟨[0,1,5,6],[],[]⟩,⟨[0,1,5,6,13],[],[]⟩,⟨[6,7],[],[]⟩,⟨[0,1,6,18,19,20],[],[]⟩,⟨[0,1,6,18,19,20],[20201,20205,20208,140000,380000,841600],[]⟩,⟨[0,1,6,18,19,20,21],[],[]⟩,⟨[0,1,6,9,18,19,20],[],[]⟩,⟨[0,1,6,10,11,18,19,20],[],[]⟩,⟨[0,1,6,10,18,19,20,39],[],[]⟩,⟨[6,7],[],[]⟩,⟨[0,1,6,18,19,20],[],[]⟩,⟨[6,7],[],[]⟩],[],by kernel_rfl,by kernel_rfl,rfl,eqs,by kernel_rfl,by kernel_rfl,by decide⟩
theorem e47 : lV Try.prog 47 UN:=⟨Try.f47,_,⟨[3,32],[],[],[33,89]⟩,[⟨[2,3],[],[]⟩,⟨[4],[],[]⟩],[],by kernel_rfl,by kernel_rfl,rfl,eqs,by kernel_rfl,by kernel_rfl,by decide⟩
theorem e48 : lV Try.prog 48 R6:=⟨Try.f48,_,⟨[3,32],[],[],[33,89]⟩,[⟨[1,2],[],[]⟩,⟨[2],[],[]⟩],[],by kernel_rfl,by kernel_rfl,rfl,eqs,by kernel_rfl,by kernel_rfl,by decide⟩
theorem e49 : lV Try.prog 49 c49:=⟨Try.f49,_,⟨[3,32],[],[],[33,89]⟩,[⟨[1,2,4],[],[]⟩,⟨[1,2,4,6],[],[]⟩,⟨[1,2,4,6,7],[],[]⟩,⟨[1,2,4,6,7],[20402,60000,100000,140000],[(6,10)]⟩,⟨[1,2,4,6,7,13],[],[]⟩,⟨[1,2,4,6,7,24],[],[]⟩,⟨[1,2,4,6,7],[],[]⟩,⟨[1,2,4,6,7],[],[]⟩,⟨[2,4,6,8],[],[]⟩,⟨[2,4,8],[],[]⟩,⟨[2,4,8,42],[],[]⟩,⟨[2,4,8],[],[]⟩,⟨[4,5],[],[]⟩],[],by kernel_rfl,by kernel_rfl,rfl,eqs,by kernel_rfl,by kernel_rfl,by decide⟩
theorem e51 : lV Try.prog 51 c51:=⟨Try.f51,_,⟨[3,32],[],[],[33,89]⟩,[⟨[0],[],[]⟩,⟨[0,4],[],[]⟩,⟨[2],[],[]⟩,⟨[2],[],[]⟩],[],by kernel_rfl,by kernel_rfl,rfl,eqs,by kernel_rfl,by kernel_rfl,by decide⟩
theorem e53 : lV Try.prog 53 c53:=⟨Try.f53,_,⟨[3,32],[],[],[33,89]⟩,[⟨[0],[],[]⟩,⟨[0,4],[],[]⟩,⟨[2],[],[]⟩,⟨[2],[],[]⟩],[],by kernel_rfl,by kernel_rfl,rfl,eqs,by kernel_rfl,by kernel_rfl,by decide⟩
theorem e54 : lV Try.prog 54 c54:=⟨Try.f54,_,⟨[3,32],[],[],[33,89]⟩,[⟨[1,2],[],[]⟩,⟨[1,2,4],[],[]⟩,⟨[2],[],[]⟩,⟨[2],[],[]⟩],[],by kernel_rfl,by kernel_rfl,rfl,eqs,by kernel_rfl,by kernel_rfl,by decide⟩
theorem e72 : lV Try.prog 72 c72:=⟨Try.f72,_,⟨[3,32],[],[],[33,89]⟩,[⟨[0,2],[],[]⟩,⟨[2],[],[]⟩],[],by kernel_rfl,by kernel_rfl,rfl,eqs,by kernel_rfl,by kernel_rfl,by decide⟩
theorem e78 : lV Try.prog 78 c78:=⟨Try.f78,_,⟨[3,32],[],[],[33,89]⟩,[⟨[1],[],[]⟩,⟨[2],[],[]⟩],[],by kernel_rfl,by kernel_rfl,rfl,eqs,by kernel_rfl,by kernel_rfl,by decide⟩
theorem e79 : lV Try.prog 79 c79:=⟨Try.f79,_,⟨[3,32],[],[],[33,89]⟩,[⟨[1,2],[],[]⟩,⟨[1,2],[],[]⟩,⟨[2],[],[]⟩],[],by kernel_rfl,by kernel_rfl,rfl,eqs,by kernel_rfl,by kernel_rfl,by decide⟩
theorem e80 : lV Try.prog 80 c80:=⟨Try.f80,_,⟨[3,32],[],[],[33,89]⟩,[⟨[1,2],[],[]⟩,⟨[1,2],[],[]⟩,⟨[2],[],[]⟩],[],by kernel_rfl,by kernel_rfl,rfl,eqs,by kernel_rfl,by kernel_rfl,by decide⟩
theorem ents : ∀ p ∈ yc,lV Try.prog p.1 p.2:=List.forall_mem_cons.2 ⟨e14,List.forall_mem_cons.2 ⟨e17,List.forall_mem_cons.2 ⟨e20,List.forall_mem_cons.2 ⟨e22,List.forall_mem_cons.2 ⟨e33,List.forall_mem_cons.2 ⟨e34,List.forall_mem_cons.2 ⟨e35,List.forall_mem_cons.2 ⟨e62,List.forall_mem_cons.2 ⟨e66,List.forall_mem_cons.2 ⟨e67,List.forall_mem_cons.2 ⟨e68,List.forall_mem_cons.2 ⟨e69,List.forall_mem_cons.2 ⟨e73,List.forall_mem_cons.2 ⟨e86,List.forall_mem_cons.2 ⟨e89,List.forall_mem_cons.2 ⟨e90,List.forall_mem_cons.2 ⟨e93,List.forall_mem_cons.2 ⟨e96,List.forall_mem_cons.2 ⟨e108,List.forall_mem_cons.2 ⟨aeS,List.forall_mem_cons.2 ⟨e9,List.forall_mem_cons.2 ⟨e10,List.forall_mem_cons.2 ⟨e11,List.forall_mem_cons.2 ⟨e12,List.forall_mem_cons.2 ⟨e13,List.forall_mem_cons.2 ⟨e37,List.forall_mem_cons.2 ⟨e38,List.forall_mem_cons.2 ⟨e39,List.forall_mem_cons.2 ⟨e40,List.forall_mem_cons.2 ⟨e41,List.forall_mem_cons.2 ⟨e44,List.forall_mem_cons.2 ⟨e45,List.forall_mem_cons.2 ⟨e46,List.forall_mem_cons.2 ⟨e47,List.forall_mem_cons.2 ⟨e48,List.forall_mem_cons.2 ⟨e49,List.forall_mem_cons.2 ⟨e51,List.forall_mem_cons.2 ⟨e53,List.forall_mem_cons.2 ⟨e54,List.forall_mem_cons.2 ⟨e72,List.forall_mem_cons.2 ⟨e78,List.forall_mem_cons.2 ⟨e79,List.forall_mem_cons.2 ⟨e80,fun _ h=>nomatch h⟩⟩⟩⟩⟩⟩⟩⟩⟩⟩⟩⟩⟩⟩⟩⟩⟩⟩⟩⟩⟩⟩⟩⟩⟩⟩⟩⟩⟩⟩⟩⟩⟩⟩⟩⟩⟩⟩⟩⟩⟩⟩⟩
end Go.Proofs.Ytdkkgecdhapfhaa.Kn
set_option maxRecDepth 100000
namespace Go.Proofs.Ytdkkgecdhapfhaa.Kn
open Go Go.RowKit Go.Proofs Ev
set_option maxHeartbeats 2000000 in
theorem Mj (b:Nat) (es:Array MapEntry) (clock:Nat) (w:World) (hb:w.heap[b]? = some (.map es clock)):Calls Try.prog 82 #[.map (some b)] w fun e w'=>e = .returned (.map (some w.heap.size)) ∧ w' = w.alloc (.map es clock):=by
  have hq:=fun w=>run_eql_map_nil_sl (P:=Try.prog) w 120 _ _ (some b) Try.underlying120
  go_enter Try.func82,Try.ntmps82
  go_wp2
  rw [run_callFunc_extern Try.func103 (by kernel_rfl) (by kernel_rfl) (by kernel_rfl) (e:=Extern.MapsClone.clone) (by kernel_rfl),run_maps_clone_sl w 120 hb]
  simp only [Result.andThen]
  rw [Oper.upon_value]
  go_wp2
  rw [run_typeAssert_map_sl _ 120 _ _ _ _ Try.underlying120]
  simp only [Result.andThen]
  rw [Oper.upon_value]
  go_wp2
  go_ret
  exact ⟨rfl,rfl⟩
def gMC (fV:List AV):Option (List AV × List AV):=match fV with
  | [.one (.mp sh l)]=>some ([.one (.mp sh l)],[.one (.mp sh l)])
  | _=>none
theorem Pz : Sat Try.prog 82 gMC:=by
  intro fV rs rG hg Fz w vals bs ha hnd hap hfz
  unfold gMC at hg
  split at hg
  · rename_i sh l
    cases hg
    match vals,ha with
    | [v],⟨b1,b2,h1,h2,e0⟩ =>
      obtain ⟨b,rfl,⟨m,hAt,hRE,hk⟩,rfl⟩:=h1
      obtain rfl:b2 = []:=h2
      subst e0
      obtain ⟨es,clock,m0,m1,m2,m3⟩:=hAt.ex
      refine (Mj b es clock w m0).mono fun e' w' ⟨e1,e2⟩=>?_
      subst e2
      obtain ⟨k1,k2,k3,k4⟩:=yF w (.map es clock)
      have hb:=hap b (by simp)
      have hre:iA Fz (w.alloc (.map es clock)) l m:=iA.mono (fun _ h=>h) (fun x hx=>k2 x (hfz x hx)) _ _ hRE
      refine ⟨Fz,[.map (some w.heap.size)],[b],[w.heap.size],e1,fun _ h=>h,fun x hx=>⟨Nat.lt_of_lt_of_le (hfz x hx) k1,.inl hx⟩,k1,fun x hx _=>k2 x hx,⟨rfl,rfl⟩,⟨[b],[],⟨b,rfl,⟨m,hAt.move (k2 b hb.2),hre,hk⟩,rfl⟩,rfl,rfl⟩,⟨[w.heap.size],[],⟨w.heap.size,rfl,⟨m,⟨⟨es,clock,k3,m1,m2,m3⟩⟩,hre,hk⟩,rfl⟩,rfl,rfl⟩,?_,fun x hx=>?_⟩
      · simp only [List.cons_append,List.nil_append,List.nodup_cons,List.mem_singleton,List.not_mem_nil,not_false_eq_true,List.nodup_nil,and_true]
        omega
      · simp only [List.cons_append,List.nil_append,List.mem_cons,List.not_mem_nil,or_false] at hx
        rcases hx with rfl | rfl
        · exact ⟨hb.1,by omega,.inl (by simp)⟩
        · exact ⟨fun hf=>by have:=hfz _ hf;omega,by omega,.inr (Nat.le_refl _)⟩
  · cases hg
theorem Mk {ext:Env} (h1:iE Try.prog ext) (h2:eu Try.prog ext) (F n:Nat):Sat Try.prog 50 (U3 ext F n):=by
  obtain ⟨g1,g2⟩:=Lr (yc:=yc) (F:=F) mixed ents h1 h2 n
  have hf:Try.prog.funcs[50]? = some Try.f50:=by kernel_rfl
  exact FT (X:=⟨[3,32],[],[],[33,89]⟩) (ha:=[⟨[0,1],[],[]⟩,⟨[0,1,9],[],[]⟩,⟨[4],[],[]⟩,⟨[0,1,5],[],[]⟩]) (hb:=[⟨[0,1,5,6,20,28],[],[]⟩,⟨[0,1,5,6,20],[],[]⟩,⟨[0,1,5,20],[],[]⟩]) (hc:=[⟨[0,7],[],[]⟩,⟨[0,7,51],[],[]⟩,⟨[7],[],[]⟩,⟨[4],[],[]⟩]) (ra:=[]) (rb:=[]) (rc:=[]) (ca:=rA) (cb:=rB) (cc:=rC) (g4:=rG4) (g6:=U2) (cf:=cDr) mixed eqs g1 g2 hf rfl rfl rfl Try.underlying120 (by kernel_rfl) (by kernel_rfl) (by kernel_rfl) (by kernel_rfl) (by kernel_rfl) (by kernel_rfl) (by decide) (by decide) (by decide) (by decide) (by decide) (by decide) F
end Go.Proofs.Ytdkkgecdhapfhaa.Kn

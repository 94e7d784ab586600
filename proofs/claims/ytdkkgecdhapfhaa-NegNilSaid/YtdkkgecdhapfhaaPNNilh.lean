/- A part of the proof of NegNil: cut, joined and given short names by a program of this session (wip/tools/pack.py); Lean checks it. No condition. -/
import Derived.Test.YtdkkgecdhapfhaaPNNilg
import Derived.Test.YtdkkgecdhapfhaaPNNilf
import Derived.Below
import Derived.Defers
import Derived.Maps.RangeRun
import Derived.Test.YtdkkgecdhapfhaaPNNild
import Derived.Laws.StructEq
import Derived.Test.YtdkkgecdhapfhaaProg
import Derived.WalkKit
import Derived.Shelf.SlMaps.Clone
set_option linter.unusedSectionVars false
set_option linter.unusedSimpArgs false
set_option linter.unusedVariables false
set_option maxRecDepth 4000
namespace Go.Proofs.Ytdkkgecdhapfhaa.Kn
open Go Ev
variable {ext : Env} {F n:Nat}
theorem YU {α:Type} {body:St → Option (Out × St)} {rs:St → St} {k:Out × St → Prop} {u:Tok k} {F:Nat} {σ:St} (N:Nat) (T:α → St) (P:Nat → α → Prop) (hF:N < F) (x:α) (hs:rs σ = T x) (h0:P 0 x)
    (step:∀ i x,i < N → P i x → W (fun p=>match p.1 with
      | .ji=>∃ y,rs p.2 = T y ∧ P (i + 1) y
      | o=>k (o,p.2)) ⟨⟩ (body (T x)))
    (last:∀ x,P N x → W (fun p=>match p.1 with
      | .ji=>False
      | o=>k (o,p.2)) ⟨⟩ (body (T x))):W k u (iter body rs F σ):=by
  refine BI (fun m σ=>∃ i x,i ≤ N ∧ m = N - i ∧ rs σ = T x ∧ P i x) ?_ F N σ hF ⟨0,x,Nat.zero_le _,rfl,hs,h0⟩
  rintro m σ ⟨i,x,hi,rfl,hr,hP⟩
  rw [hr]
  by_cases hlt:i < N
  · refine uU (step i x hlt hP) fun p hp=>?_
    obtain ⟨o,s⟩:=p
    cases o with
    | ji =>
      obtain ⟨y,h1,h2⟩:=hp
      exact ⟨N - (i + 1),by omega,i + 1,y,by omega,rfl,h1,h2⟩
    | ext j=>exact hp
    | ret=>exact hp
  · have:i = N:=by omega
    subst this
    refine uU (last x hP) fun p hp=>?_
    obtain ⟨o,s⟩:=p
    cases o with
    | ji=>exact hp.elim
    | ext j=>exact hp
    | ret=>exact hp
abbrev Qn.f (k:Qn):List FV:=[.str k.q,.int .i64 k.t,.int .i64 k.c]
abbrev fnQ (k:Qn):AV:=.one (.fn 90 [k.f])
theorem Lu (x k:Qn):G ext F (n + 1) 90 [vq x.q x.t x.c,.one (.fp k.f)] = some ([vb (decide (x = k))],[vq x.q x.t x.c,.one (.fp k.f)]):=by
  refine iw (cf:=c90) rfl ?_
  simp only [c90,go_sem,Nat.reduceAdd,Nat.reduceMul,Nat.reduceEqDiff,Nat.reduceBEq,Nat.reduceMod,Nat.reduceDiv,↓reduceIte,reduceCtorEq]
  cases x;cases k;simp
def RX (l:List Qn) (k:Qn):Int:=match l.findIdx? fun x=>decide (x = k) with | some i=>i | none=>-1
theorem UC {l:List Qn} {k:Qn} (h:∀ x ∈ l,x ≠ k):RX l k = -1:=by
  have:l.findIdx? (fun x=>decide (x = k)) = none:=List.findIdx?_eq_none_iff.mpr fun x hx=>by simpa using h x hx
  simp [RX,this]
theorem UD {l:List Qn} {k:Qn} {i:Nat} {x:Qn} (h:∀ x ∈ l.take i,x ≠ k) (hx:l[i]? = some x) (hk:x = k):RX l k = i:=by
  have hi:=(List.getElem?_eq_some_iff.mp hx)
  have:l.findIdx? (fun x=>decide (x = k)) = some i:=by
    refine List.findIdx?_eq_some_iff_getElem.mpr ⟨hi.1,by simp [hi.2,hk],fun j hj=>?_⟩
    have:=h (l[j]'(by have:=hi.1;omega)) (by rw [List.mem_take_iff_getElem];exact ⟨j,by have:=hi.1;omega,rfl⟩)
    simpa using this
  simp [RX,this]
theorem UE (l:List Qn) (k:Qn):(RX l k = -1 ∧ ∀ x ∈ l,x ≠ k) ∨ ∃ (i:Nat),RX l k = (i:Int) ∧ ∃ h:i < l.length,(∀ x ∈ l.take i,x ≠ k) ∧ l[i] = k:=by
  have hp:RX l k = match l.findIdx? fun x=>decide (x = k) with | some i=>(i:Int) | none=>-1:=rfl
  cases h:l.findIdx? fun x=>decide (x = k) with
  | none =>
    rw [h] at hp
    exact .inl ⟨hp,fun x hx=>by simpa using List.findIdx?_eq_none_iff.mp h x hx⟩
  | some i =>
    rw [h] at hp
    obtain ⟨hi,hx,hb⟩:=List.findIdx?_eq_some_iff_getElem.mp h
    refine .inr ⟨i,hp,hi,fun x hx=>?_,by simpa using hx⟩
    obtain ⟨j,hj,rfl⟩:=List.mem_take_iff_getElem.mp hx
    have:=hb j (by omega)
    simpa using this
theorem BK (l:List Qn) (k:Qn) (hl:l.length ≤ 1000000000000) (hF:200000000000001 ≤ F):G ext F (n + 2) 108 [vl (l.map rQ),fnQ k] = some ([vi (RX l k)],[vl (l.map rQ),fnQ k]):=by
  refine iw (cf:=OJ) rfl ?_
  simp only [OJ,go_sem,Nat.reduceAdd,Nat.reduceMul,Nat.reduceEqDiff,Nat.reduceBEq,Nat.reduceMod,Nat.reduceDiv,↓reduceIte,reduceCtorEq]
  refine uV l.length (fun i=>⟨[(0,PV.c (CV.one (PL.f (FV.sl (l.map rQ))))),(1,PV.c (CV.one (PL.fn 90 [k.f]))),(7,PV.c (CV.one (PL.f (FV.int .i64 (l.map rQ).length)))),(8,PV.c (CV.one (PL.f (FV.int .i64 i))))],[]⟩) (fun i=>∀ x ∈ l.take i,x ≠ k) (by omega) rfl (by simp) (fun i hi hP=>?_) (fun hP=>?_)
  · obtain ⟨x,hx,hd,ht,h0⟩:=at_ hi
    have hn:=nx hi (Nat.le_trans hl (by decide))
    have hq:=fun n=>Lu (ext:=ext) (F:=F) (n:=n) x k
    simp only [List.length_map,List.getElem?_map,hd,hx,ht,h0,rQ,hq,go_sem,Nat.reduceAdd,Nat.reduceMul,Nat.reduceEqDiff,Nat.reduceBEq,Nat.reduceMod,Nat.reduceDiv,↓reduceIte,reduceCtorEq]
    repeat' (refine fC (fun h=>?_) (fun h=>?_) <;> simp only [h,List.length_map,List.getElem?_map,hd,hx,ht,h0,hn,rQ,hq,go_sem,Nat.reduceAdd,Nat.reduceMul,Nat.reduceEqDiff,Nat.reduceBEq,Nat.reduceMod,Nat.reduceDiv,↓reduceIte,reduceCtorEq])
    · rw [UD hP hx (by simpa using h)]
    · exact all_succ hP hx (by simpa using h)
  · have hd:=@end_ _ l
    simp only [List.length_map,hd,go_sem,Nat.reduceAdd,Nat.reduceMul,Nat.reduceEqDiff,Nat.reduceBEq,Nat.reduceMod,Nat.reduceDiv,↓reduceIte,reduceCtorEq]
    repeat' (refine fC (fun h=>?_) (fun h=>?_) <;> simp only [h,List.length_map,hd,go_sem,Nat.reduceAdd,Nat.reduceMul,Nat.reduceEqDiff,Nat.reduceBEq,Nat.reduceMod,Nat.reduceDiv,↓reduceIte,reduceCtorEq])
    rw [List.take_length] at hP
    rw [UC hP]
theorem OQ {l:List Qn} {k x:Qn} {i:Nat} (h:l[i]? = some x):(l.take (i + 1)).filter (fun y=>decide (y ≠ k)) = (l.take i).filter (fun y=>decide (y ≠ k)) ++ if x = k then [] else [x]:=by
  rw [List.take_add_one,List.filter_append,h]
  by_cases hx:x = k <;> simp [hx]
theorem zx (l:List Qn) (k:Qn) (hl:l.length ≤ 1000000000000) (hF:200000000000001 ≤ F):G ext F (n + 3) 89 [.one (.own 3 (l.map rQ)),fnQ k] = some ([.one (.own 3 ((l.filter fun x=>decide (x ≠ k)).map rQ))],[.one .any,fnQ k]):=by
  refine iw (cf:=c89) rfl ?_
  have h1:=fun n=>BK (ext:=ext) (F:=F) (n:=n) l k hl hF
  simp only [c89,h1,go_sem,Nat.reduceAdd,Nat.reduceMul,Nat.reduceEqDiff,Nat.reduceBEq,Nat.reduceMod,Nat.reduceDiv,↓reduceIte,reduceCtorEq]
  rcases UE l k with ⟨hp,hno⟩ | ⟨i0,hp,hi0,hpre,hat⟩
  · rw [hp]
    simp only [show decide ((-1:Int) = -1) = true from rfl,go_sem,Nat.reduceAdd,Nat.reduceMul,Nat.reduceEqDiff,Nat.reduceBEq,Nat.reduceMod,Nat.reduceDiv,↓reduceIte,reduceCtorEq]
    rw [List.filter_eq_self.mpr (fun x hx=>by simpa using hno x hx)]
  · rw [hp]
    have hne:decide ((i0:Int) = -1) = false:=by simp
    simp only [hne,nx hi0 (Nat.le_trans hl (by decide)),List.length_map,go_sem,Nat.reduceAdd,Nat.reduceMul,Nat.reduceEqDiff,Nat.reduceBEq,Nat.reduceMod,Nat.reduceDiv,↓reduceIte,reduceCtorEq]
    refine YU (l.length - (i0 + 1)) (fun x:List Qn × Nat × Nat=>⟨[(0,PV.c (CV.one (PL.own 20202 x.1.length))),(1,PV.c (CV.one (PL.fn 90 [k.f]))),(5,PV.c (CV.one (PL.f (FV.int IntKind.i64 x.2.1)))),(6,PV.c (CV.one (PL.f (FV.int IntKind.i64 x.2.2))))],[(20202,Ob.row 3 (x.1.map rQ))]⟩) (fun r x=>x.2.2 = i0 + 1 + r ∧ x.2.1 < x.2.2 ∧ x.1.length = l.length ∧ x.1.take x.2.1 = (l.take x.2.2).filter (fun y=>decide (y ≠ k)) ∧ x.1.drop x.2.2 = l.drop x.2.2) (by omega) (l,i0,i0 + 1) rfl ⟨rfl,Nat.lt_succ_self _,rfl,?_,rfl⟩ (fun r x hr hP=>?_) (fun x hP=>?_)
    · rw [List.take_add_one,List.filter_append,List.filter_eq_self.mpr (fun x hx=>by simpa using hpre x hx),List.getElem?_eq_getElem hi0]
      simp [hat]
    · obtain ⟨R,c,j⟩:=x
      obtain ⟨rfl,hc,hlen,htk,hdr⟩:=hP
      simp only at hc hlen htk hdr ⊢
      have hj:i0 + 1 + r < R.length:=by omega
      obtain ⟨x,hx,hd,ht,h0⟩:=at_ hj
      have hn:=nx hj (by omega)
      have hq:=fun n=>Lu (ext:=ext) (F:=F) (n:=n) x k
      have hlt:((i0 + 1 + r:Nat):Int) < (R.length:Int):=by omega
      have hcR:c < R.length:=by omega
      obtain ⟨y,hy,hcd,hct,hc0⟩:=at_ hcR
      have hcl:(c:Int) < (R.length:Int):=by omega
      have hcn:=nx hcR (by omega)
      simp only [List.length_map,List.getElem?_map,hd,hx,ht,h0,rQ,hq,hlt,go_sem,Nat.reduceAdd,Nat.reduceMul,Nat.reduceEqDiff,Nat.reduceBEq,Nat.reduceMod,Nat.reduceDiv,↓reduceIte,reduceCtorEq]
      repeat' (refine fC (fun h=>?_) (fun h=>?_) <;> simp only [h,List.length_map,List.getElem?_map,hd,hx,ht,h0,hn,rQ,hq,hlt,hy,hct,hc0,hcl,hcn,go_sem,Nat.reduceAdd,Nat.reduceMul,Nat.reduceEqDiff,Nat.reduceBEq,Nat.reduceMod,Nat.reduceDiv,↓reduceIte,reduceCtorEq])
      all_goals
        have hxl:l[i0 + 1 + r]? = some x:=by
          have:=congrArg (fun z:List Qn=>z[0]?) hdr
          simp only [List.getElem?_drop,Nat.add_zero,hx] at this
          exact this.symm
        have hdr':List.drop (i0 + 1 + r + 1) R = List.drop (i0 + 1 + r + 1) l:=by
          have:=congrArg (List.drop 1) hdr
          simpa only [List.drop_drop] using this
        have hft:=OQ (k:=k) hxl
      · simp only [decide_eq_true_eq] at h
        rw [if_pos h,List.append_nil] at hft
        exact ⟨(R,c,i0 + 1 + r + 1),rfl,rfl,by show c < i0 + 1 + r + 1;omega,hlen,by rw [hft];exact htk,hdr'⟩
      · simp only [decide_eq_false_iff_not] at h
        rw [if_neg h] at hft
        refine ⟨(R.set c x,c + 1,i0 + 1 + r + 1),?_,rfl,by show c + 1 < i0 + 1 + r + 1;omega,by simp [hlen],?_,?_⟩
        · simp [List.map_set,rQ]
        · show List.take (c + 1) (R.set c x) = _
          rw [hft,List.take_add_one,List.take_set,List.set_eq_of_length_le (by simp;omega),htk,List.getElem?_set_self hcR]
          rfl
        · show List.drop _ (R.set c x) = _
          rw [List.drop_set_of_lt (show c < i0 + 1 + r + 1 by omega)]
          exact hdr'
    · obtain ⟨R,c,j⟩:=x
      obtain ⟨rfl,hc,hlen,htk,hdr⟩:=hP
      simp only at hc hlen htk hdr ⊢
      have hj:i0 + 1 + (l.length - (i0 + 1)) = R.length:=by omega
      rw [hj]
      rw [hj,List.take_of_length_le (l:=l) (i:=R.length) (by omega)] at htk
      have hd:=@end_ _ R
      have hct:(c:Int).toNat = c:=by simp
      have htt:List.take c (List.take c (List.map rQ R) ++ List.replicate (R.length - c) [FV.str ⟨#[]⟩,FV.int IntKind.i64 0,FV.int IntKind.i64 0]) = (l.filter fun y=>decide (y ≠ k)).map rQ:=by
        rw [List.take_append_of_le_length (by simp;omega),List.take_take,Nat.min_self,← List.map_take,htk]
      simp only [List.length_map,hd,go_sem,Nat.reduceAdd,Nat.reduceMul,Nat.reduceEqDiff,Nat.reduceBEq,Nat.reduceMod,Nat.reduceDiv,↓reduceIte,reduceCtorEq]
      repeat' (refine fC (fun h=>?_) (fun h=>?_) <;> simp only [h,List.length_map,hd,go_sem,Nat.reduceAdd,Nat.reduceMul,Nat.reduceEqDiff,Nat.reduceBEq,Nat.reduceMod,Nat.reduceDiv,↓reduceIte,reduceCtorEq])
      rw [hct]
      exact ⟨by omega,by omega,⟨by omega,by simp;omega⟩,by rw [htt]⟩
structure qE (ext:Env):Prop where
  cq:∀ l:List Qn,l.length ≤ 1000000 → ext 70 [vl (l.map rQ)] = some ([.one (.own 3 (l.map rQ))],[vl (l.map rQ)])
  cs:∀ l:List ByteArray,l.length ≤ 1000000 → ext 88 [vl (l.map iB)] = some ([vl (l.map iB)],[vl (l.map iB)])
theorem GV (C:qE ext) (l:List Qn) (h:l.length ≤ 1000000):G ext F (n + 1) 70 [vl (l.map rQ)] = some ([.one (.own 3 (l.map rQ))],[vl (l.map rQ)]):=(congrFun (mY rfl) _).trans (C.cq l h)
theorem YV (C:qE ext) (l:List ByteArray) (h:l.length ≤ 1000000):G ext F (n + 1) 88 [vl (l.map iB)] = some ([vl (l.map iB)],[vl (l.map iB)]):=(congrFun (mY rfl) _).trans (C.cs l h)
def DR (l:List Qn) (k:Qn):List Qn:=l.filter fun x=>decide (x ≠ k)
theorem BL {l:List Qn} {k:Qn}:(DR l k).length ≤ l.length:=List.length_filter_le ..
theorem DT (C:qE ext) (l:List Qn) (k:Qn) (hl:l.length ≤ 1000000) (hF:200000000000001 ≤ F):G ext F (n + 4) 69 [vl (l.map rQ),vq k.q k.t k.c] = some ([.one (.own 3 ((DR l k).map rQ))],[vl (l.map rQ),vq k.q k.t k.c]):=by
  refine iw (cf:=c69) rfl ?_
  have h1:=fun n=>GV (F:=F) (n:=n) C l hl
  have h2:=fun n=>zx (ext:=ext) (F:=F) (n:=n) l k (by omega) hF
  simp only [c69,h1,h2,go_sem,Nat.reduceAdd,Nat.reduceMul,Nat.reduceEqDiff,Nat.reduceBEq,Nat.reduceMod,Nat.reduceDiv,↓reduceIte,reduceCtorEq]
  rfl
theorem Lv (C:qE ext) (l:List Qn) (k:Qn) (hl:l.length ≤ 1000000) (hF:200000000000001 ≤ F):G ext F (n + 5) 67 [vl (l.map rQ),vq k.q k.t k.c] = some ([vl ((DR l k ++ [k]).map rQ)],[vl (l.map rQ),vq k.q k.t k.c]):=by
  refine iw (cf:=c67) rfl ?_
  have h1:=fun n=>DT (ext:=ext) (F:=F) (n:=n) C l k hl hF
  have hl2:=@BL l k
  simp only [c67,h1,List.length_map,go_sem,Nat.reduceAdd,Nat.reduceMul,Nat.reduceEqDiff,Nat.reduceBEq,Nat.reduceMod,Nat.reduceDiv,↓reduceIte,reduceCtorEq]
  have hsz:((DR l k).length + 1) * 32 ≤ 140737488355328:=by omega
  simp [rQ,hsz]
theorem YW (l:List Qn):((l.map rQ).all fun r=>r.length == 3) = true:=by
  rw [List.all_eq_true]
  intro r hr
  obtain ⟨x, -,rfl⟩:=List.mem_map.mp hr
  rfl
theorem UF (C:qE ext) (l:List Qn) (most:Int) (hl:l.length ≤ 1000000) (hm:0 ≤ most ∧ most ≤ 1000000000000) (hF:200000000000001 ≤ F):G ext F (n + 2) 66 [vl (l.map rQ),vi most] = some ([vl ((l.drop (l.length - most.toNat)).map rQ),vl ((l.take (l.length - most.toNat)).map rQ)],[vl (l.map rQ),vi most]):=by
  refine iw (cf:=c66) rfl ?_
  have h1:=fun n=>GV (F:=F) (n:=n) C (l.drop (l.length - most.toNat)) (by simp;omega)
  have h2:=fun n=>GV (F:=F) (n:=n) C (l.take (l.length - most.toNat)) (by simp;omega)
  obtain ⟨a,ha⟩:∃ a,a = l.length - most.toNat:=⟨_,rfl⟩
  rw [← ha] at h1 h2 ⊢
  have hc:IntKind.i64.wrap ((l.length:Int) - if (if (l.length:Int) < most then (l.length:Int) else most) < 0 then 0 else if (l.length:Int) < most then (l.length:Int) else most) = (a:Int):=by
    rw [BJ (by split <;> split <;> omega) (by split <;> split <;> omega)]
    split <;> split <;> omega
  have hat:(a:Int).toNat = a:=by simp
  have hc1:(0:Int) ≤ a ∧ (a:Int) ≤ (l.length:Int):=by omega
  have hk1:List.take (l.length - a) (List.drop a (l.map rQ)) = (l.drop a).map rQ:=by rw [List.take_of_length_le (by simp),List.map_drop]
  have hk2:List.take a (l.map rQ) = (l.take a).map rQ:=List.map_take.symm
  simp only [c66,List.length_map,hc,hat,hc1,hk1,hk2,h1,h2,YW l,List.drop_zero,Nat.sub_zero,go_sem,Nat.reduceAdd,Nat.reduceMul,Nat.reduceEqDiff,Nat.reduceBEq,Nat.reduceMod,Nat.reduceDiv,↓reduceIte,reduceCtorEq]
end Go.Proofs.Ytdkkgecdhapfhaa.Kn
set_option maxRecDepth 4000
namespace Go.Proofs.Ytdkkgecdhapfhaa.Kn
open Go Ev
variable {ext : Env} {F n:Nat} {θ:Th}
structure Nt where
  k:Qn
  nx:Bool
  s:Se
  u:Int
  deriving DecidableEq
def rN (x:Nt):List FV:=[.str x.k.q,.int .i64 x.k.t,.int .i64 x.k.c,.bool x.nx,.str x.s.q,.int .i64 x.s.t,.int .i64 x.s.c,.sl (x.s.d.map iB),.int .i64 x.s.ttl,.int .i64 x.u]
abbrev Nt.v (x:Nt):AV:=.agg [.f (.str x.k.q),.f (.int .i64 x.k.t),.f (.int .i64 x.k.c),.f (.bool x.nx),.f (.str x.s.q),.f (.int .i64 x.s.t),.f (.int .i64 x.s.c),.f (.sl (x.s.d.map iB)),.f (.int .i64 x.s.ttl),.f (.int .i64 x.u)]
abbrev Qn.v (k:Qn):AV:=vq k.q k.t k.c
def WS : Nt:=⟨⟨⟨#[]⟩,0,0⟩,false,⟨⟨#[]⟩,0,0,[],0⟩,0⟩
structure On where
  o:Int
  now:Int
  k:Qn
  nx:Bool
  s:Se
def OT (x:On):List FV:=[.int .i64 x.o,.int .i64 x.now,.str x.k.q,.int .i64 x.k.t,.int .i64 x.k.c,.bool x.nx,.str x.s.q,.int .i64 x.s.t,.int .i64 x.s.c,.sl (x.s.d.map iB),.int .i64 x.s.ttl]
abbrev On.v (x:On):AV:=.agg [.f (.int .i64 x.o),.f (.int .i64 x.now),.f (.str x.k.q),.f (.int .i64 x.k.t),.f (.int .i64 x.k.c),.f (.bool x.nx),.f (.str x.s.q),.f (.int .i64 x.s.t),.f (.int .i64 x.s.c),.f (.sl (x.s.d.map iB)),.f (.int .i64 x.s.ttl)]
structure Nv where
  room:Int
  m:List Nt
  o:List Qn
  ch:Int
structure Rn where
  room:Int
  l:List Nt
  ch:Int
abbrev Ny : KS:=.agg [.str,.int .i64,.int .i64]
abbrev kq (k:Qn):KV:=.agg [.str k.q,.int .i64 k.t,.int .i64 k.c]
theorem UG {a b:Qn}:kq a = kq b ↔ a = b:=by
  constructor
  · intro h;simp only [kq,KV.agg.injEq,List.cons.injEq,SV.str.injEq,SV.int.injEq] at h
    cases a;cases b;simp_all
  · rintro rfl;rfl
def old (l:List Nt) (k:Qn):Option Nt:=l.find? fun x=>decide (x.k = k)
def rid (l:List Nt) (k:Qn):List Nt:=l.eraseP fun x=>decide (x.k = k)
def ent (x:Nt):KV × FC:=(kq x.k,.agg (rN x))
theorem xV (l:List Nt) (k:Qn):ER (l.map ent) (kq k) = l.findIdx? fun x=>decide (x.k = k):=by
  unfold ER
  rw [List.map_map,List.findIdx?_map]
  refine congrArg (fun p=>List.findIdx? p l) (funext fun x=>?_)
  simp only [Function.comp,ent]
  by_cases h:x.k = k
  · simp [h]
  · have:¬ kq x.k = kq k:=fun e=>h (UG.mp e)
    simp only [this,h,decide_false]
theorem DU (l:List Nt) (k:Qn):CU (l.map ent) (kq k) = (old l k).map fun x=>.agg (rN x):=by
  have hf:old l k = (l.findIdx? fun x=>decide (x.k = k)).bind fun i=>l[i]?:=List.find?_eq_bind_findIdx?_getElem? ..
  unfold CU
  rw [xV,hf]
  cases l.findIdx? fun x=>decide (x.k = k) with
  | none=>rfl
  | some i=>simp only [Option.bind_some,List.getElem?_map];cases l[i]? <;> rfl
theorem DV (l:List Nt) (k:Qn):ET (l.map ent) (kq k) = (rid l k).map ent:=by
  unfold ET rid
  rw [xV,List.eraseP_eq_eraseIdx]
  cases l.findIdx? fun x=>decide (x.k = k) with
  | none=>rfl
  | some i=>simp [List.eraseIdx_eq_take_drop_succ,List.map_take,List.map_drop]
def upd (l:List Nt) (x:Nt):List Nt:=match l.findIdx? fun y=>decide (y.k = x.k) with
  | some i=>l.set i x
  | none=>l ++ [x]
theorem Lx (l:List Nt) (x:Nt):ES (l.map ent) (kq x.k) (.agg (rN x)) = (upd l x).map ent:=by
  unfold ES upd
  rw [xV]
  cases l.findIdx? fun y=>decide (y.k = x.k) with
  | none=>simp [ent]
  | some i=>simp [List.map_set,ent]
abbrev ks (l:List Nt):List Qn:=l.map Nt.k
theorem GX {l:List Nt} {b:Qn} {x:Nt} (h:old l b = some x):x.k = b ∧ x ∈ l:=⟨by simpa using List.find?_some h,List.mem_of_find?_eq_some h⟩
theorem LA {x:Nt} {l:List Nt} {a:Qn}:rid (x :: l) a = if x.k = a then l else x :: rid l a:=by
  unfold rid;rw [List.eraseP_cons];by_cases h:x.k = a <;> simp [h]
theorem OU {l:List Nt} {a:Qn}:(rid l a).Sublist l:=List.eraseP_sublist ..
theorem Jb {l:List Nt} {a:Qn} (h:(ks l).Nodup):(ks (rid l a)).Nodup:=(OU.map _).nodup h
abbrev Nv.v (s:Nv):AV:=.one (.ptr [.f (.int .i64 s.room),.mp Ny (s.m.map ent),.f (.sl (s.o.map rQ)),.f (.int .i64 s.ch)])
abbrev Rn.v (s:Rn):AV:=.agg [.f (.int .i64 s.room),.f (.sl (s.l.map rN)),.f (.int .i64 s.ch)]
def UH : Option Nv → AV
  | some s=>s.v
  | none=>.one .je
theorem xW (s:Nv):UH (some s) = s.v:=rfl
theorem xX : UH none = .one .je:=rfl
end Go.Proofs.Ytdkkgecdhapfhaa.Kn
set_option maxRecDepth 4000
namespace Go.Proofs.Ytdkkgecdhapfhaa.Kn
open Go Ev
variable {ext : Env} {F n:Nat} {θ:Th} {gt:ByteArray → Int → Int → Int × Bool}
structure Fy (gt:ByteArray → Int → Int → Int × Bool) (ext:Env):Prop where
  og:∀ s a z,s.size ≤ 1000000 → ext 74 [vs s,vi a,vi z] = some ([vi (gt s a z).1,vb (gt s a z).2],[vs s,vi a,vi z])
  rg:∀ s a z,s.size ≤ 1000000 → ext 75 [vs s,vi a,vi z] = some ([vi (gt s a z).1,vb (gt s a z).2],[vs s,vi a,vi z])
  nn:∀ s a z,0 ≤ (gt s a z).1
theorem YX (O:Fy gt ext) (s:ByteArray) (a z:Int) (h:s.size ≤ 1000000):G ext F (n + 1) 74 [vs s,vi a,vi z] = some ([vi (gt s a z).1,vb (gt s a z).2],[vs s,vi a,vi z]):=(congrFun (mY rfl) _).trans (O.og s a z h)
theorem GY (room:Int):G ext F (n + 1) 39 [vi room] = some ([UH (if room < 1 ∨ 1000 < room then none else some ⟨room,[],[],0⟩)],[vi room]):=by
  refine iw (cf:=Nw) rfl ?_
  simp only [Nw,go_sem,Nat.reduceAdd,Nat.reduceMul,Nat.reduceEqDiff,Nat.reduceBEq,Nat.reduceMod,Nat.reduceDiv,↓reduceIte,reduceCtorEq]
  repeat' (refine fC (fun h=>?_) (fun h=>?_) <;> simp only [h,go_sem,Nat.reduceAdd,Nat.reduceMul,Nat.reduceEqDiff,Nat.reduceBEq,Nat.reduceMod,Nat.reduceDiv,↓reduceIte,reduceCtorEq])
  all_goals (simp only [decide_eq_true_eq,decide_eq_false_iff_not] at *)
  all_goals first | rw [if_pos (by omega)] | rw [if_neg (by omega)]
  all_goals rfl
theorem oV (o:Option Nv):G ext F (n + 1) 53 [UH o] = some ([vi (match o with | some s=>s.ch | none=>0)],[UH o]):=by
  refine iw (cf:=c53) rfl ?_
  cases o with
  | none =>
    rw [xX]
    simp only [c53,go_sem,Nat.reduceAdd,Nat.reduceMul,Nat.reduceEqDiff,Nat.reduceBEq,Nat.reduceMod,Nat.reduceDiv,↓reduceIte,reduceCtorEq]
  | some s =>
    rw [xW]
    simp only [c53,go_sem,Nat.reduceAdd,Nat.reduceMul,Nat.reduceEqDiff,Nat.reduceBEq,Nat.reduceMod,Nat.reduceDiv,↓reduceIte,reduceCtorEq]
theorem DW (C:qE ext) (o:Option Nv) (ho:∀ s,o = some s → s.o.length ≤ 1000000):G ext F (n + 2) 51 [UH o] = some ([vl ((match o with | some s=>s.o | none=>[]).map rQ)],[UH o]):=by
  refine iw (cf:=c51) rfl ?_
  cases o with
  | none =>
    rw [xX]
    simp only [c51,go_sem,Nat.reduceAdd,Nat.reduceMul,Nat.reduceEqDiff,Nat.reduceBEq,Nat.reduceMod,Nat.reduceDiv,↓reduceIte,reduceCtorEq]
  | some s =>
    rw [xW]
    have h1:=fun n=>GV (F:=F) (n:=n) C s.o (ho s rfl)
    simp only [c51,h1,go_sem,Nat.reduceAdd,Nat.reduceMul,Nat.reduceEqDiff,Nat.reduceBEq,Nat.reduceMod,Nat.reduceDiv,↓reduceIte,reduceCtorEq]
theorem nE (C:qE ext) (x:Nt) (hx:x.s.d.length ≤ 1000000):G ext F (n + 2) 80 [x.v] = some ([x.v],[x.v]):=by
  refine iw (cf:=c80) rfl ?_
  have h1:=fun n=>YV (F:=F) (n:=n) C x.s.d hx
  simp only [c80,h1,go_sem,Nat.reduceAdd,Nat.reduceMul,Nat.reduceEqDiff,Nat.reduceBEq,Nat.reduceMod,Nat.reduceDiv,↓reduceIte,reduceCtorEq]
theorem DX (k:Qn):G ext F (n + 1) 79 [k.v] = some ([vq k.q 0 k.c],[k.v]):=by
  refine iw (cf:=c79) rfl ?_
  simp only [c79,go_sem,Nat.reduceAdd,Nat.reduceMul,Nat.reduceEqDiff,Nat.reduceBEq,Nat.reduceMod,Nat.reduceDiv,↓reduceIte,reduceCtorEq]
abbrev Qn.w (k:Qn):Qn:=⟨k.q,0,k.c⟩
def Th.ask (θ:Th) (k:Qn):Bool:=θ.key k.q k.t k.c && !decide (k.t = 0)
theorem LB (T:θ.Ok ext) (k:Qn) (hq:k.q.size ≤ 1000000):G ext F (n + 2) 78 [k.v] = some ([vb (θ.ask k)],[k.v]):=by
  refine iw (cf:=c78) rfl ?_
  have h1:=fun n=>RU (F:=F) (n:=n) T k.q hq
  have h2:=fun n=>RV (F:=F) (n:=n) T k.q hq
  simp only [c78,h1,h2,go_sem,Nat.reduceAdd,Nat.reduceMul,Nat.reduceEqDiff,Nat.reduceBEq,Nat.reduceMod,Nat.reduceDiv,↓reduceIte,reduceCtorEq]
  repeat' (refine fC (fun h=>?_) (fun h=>?_) <;> simp only [h,h1,h2,go_sem,Nat.reduceAdd,Nat.reduceMul,Nat.reduceEqDiff,Nat.reduceBEq,Nat.reduceMod,Nat.reduceDiv,↓reduceIte,reduceCtorEq])
  all_goals clear h1 h2
  all_goals simp only [decide_eq_true_eq,decide_eq_false_iff_not] at *
  all_goals (simp [Th.ask,Th.key, *])
  all_goals (try omega)
  all_goals (have a1:0 ≤ k.t:=by omega);(have a2:¬ k.t = 0:=by omega);simp [a1,a2]
theorem uP (o:On):G ext F (n + 1) 54 [o.v] = some ([if o.nx then o.k.w.v else o.k.v],[o.v]):=by
  refine iw (cf:=c54) rfl ?_
  cases hx:o.nx
  all_goals
    simp only [c54,hx,go_sem,Nat.reduceAdd,Nat.reduceMul,Nat.reduceEqDiff,Nat.reduceBEq,Nat.reduceMod,Nat.reduceDiv,↓reduceIte,reduceCtorEq]
    simp only [On.v,Qn.v,Qn.w,vq,hx]
def zy (l:List On):Bool:=l.all fun x=>nU x.s.q x.s.d && decide (x.k.q.size ≤ 300)
theorem Jc {l:List On} {x:On} {i:Nat} (h:l[i]? = some x):zy (l.take (i + 1)) = (zy (l.take i) && (nU x.s.q x.s.d && decide (x.k.q.size ≤ 300))):=by
  unfold zy
  rw [List.take_add_one,h,List.all_append]
  simp
theorem GZ {l:List On} {x:On} {i:Nat} (h:l[i]? = some x) (hx:(nU x.s.q x.s.d && decide (x.k.q.size ≤ 300)) = false):zy l = false:=by
  unfold zy
  refine Bool.eq_false_iff.mpr fun ha=>?_
  rw [List.all_eq_true.mp ha x (List.mem_of_getElem? h)] at hx
  cases hx
theorem FB (l:List On) (m:Int) (hl:l.length ≤ 200000000000000) (hd:∀ x ∈ l,x.s.d.length ≤ 200000000000000) (hF:200000000000001 ≤ F):G ext F (n + 2) 37 [vl (l.map OT),vi m] = some ([vb (zy l && decide ((l.length:Int) ≤ m))],[vl (l.map OT),vi m]):=by
  refine iw (cf:=c37) rfl ?_
  simp only [c37,go_sem,Nat.reduceAdd,Nat.reduceMul,Nat.reduceEqDiff,Nat.reduceBEq,Nat.reduceMod,Nat.reduceDiv,↓reduceIte,reduceCtorEq]
  refine uV l.length (fun i=>⟨[(0,PV.c (CV.one (PL.f (FV.sl (l.map OT))))),(1,PV.c (CV.one (PL.f (FV.int .i64 m)))),(5,PV.c (CV.one (PL.f (FV.int .i64 i))))],[]⟩) (fun i=>zy (l.take i) = true) (by omega) rfl (by simp [zy]) (fun i hi hP=>?_) (fun hP=>?_)
  · obtain ⟨x,hx,hlt,ht,h0⟩:=at_ hi
    have hn:=nx hi (Nat.le_trans hl (by decide))
    have hs:=fun n=>Lr (ext:=ext) (F:=F) (n:=n) x.s.q x.s.t x.s.c x.s.d x.s.ttl (hd x (List.mem_of_getElem? hx)) hF
    cases h1:nU x.s.q x.s.d with
    | false =>
      simp only [List.length_map,List.getElem?_map,hlt,hx,ht,h0,OT,hs,h1,go_sem,Nat.reduceAdd,Nat.reduceMul,Nat.reduceEqDiff,Nat.reduceBEq,Nat.reduceMod,Nat.reduceDiv,↓reduceIte,reduceCtorEq]
      rw [GZ hx (by rw [h1];rfl)];rfl
    | true =>
      simp only [List.length_map,List.getElem?_map,hlt,hx,ht,h0,OT,hs,h1,go_sem,Nat.reduceAdd,Nat.reduceMul,Nat.reduceEqDiff,Nat.reduceBEq,Nat.reduceMod,Nat.reduceDiv,↓reduceIte,reduceCtorEq]
      repeat' (refine fC (fun h=>?_) (fun h=>?_) <;> simp only [h,List.length_map,List.getElem?_map,hlt,hx,ht,h0,hn,OT,hs,h1,go_sem,Nat.reduceAdd,Nat.reduceMul,Nat.reduceEqDiff,Nat.reduceBEq,Nat.reduceMod,Nat.reduceDiv,↓reduceIte,reduceCtorEq])
      all_goals simp only [decide_eq_true_eq,decide_eq_false_iff_not] at *
      · rw [GZ hx (by rw [h1];simp;omega)];rfl
      · rw [Jc hx,hP,h1];simp;omega
  · have hd:=@end_ _ l
    rw [List.take_length] at hP
    simp only [List.length_map,hd,go_sem,Nat.reduceAdd,Nat.reduceMul,Nat.reduceEqDiff,Nat.reduceBEq,Nat.reduceMod,Nat.reduceDiv,↓reduceIte,reduceCtorEq]
    repeat' (refine fC (fun h=>?_) (fun h=>?_) <;> simp only [h,List.length_map,hd,go_sem,Nat.reduceAdd,Nat.reduceMul,Nat.reduceEqDiff,Nat.reduceBEq,Nat.reduceMod,Nat.reduceDiv,↓reduceIte,reduceCtorEq])
    simp [hP]
def uI (θ:Th) (gt:ByteArray → Int → Int → Int × Bool) (x:Se):Int × Bool :=
  if θ.set x.q x.t x.c x.d x.ttl = true ∧ x.t = 6 then (if x.ttl < (gt (x.d.headD ⟨#[]⟩) ((x.d.headD ⟨#[]⟩).size - 4) 4).1 then x.ttl else (gt (x.d.headD ⟨#[]⟩) ((x.d.headD ⟨#[]⟩).size - 4) 4).1,true) else (0,false)
theorem LC {x:Se} (h:θ.set x.q x.t x.c x.d x.ttl = true):∃ y d,x.d = y :: d:=by
  unfold Th.set at h
  rw [decide_eq_true_eq] at h
  exact List.exists_cons_of_ne_nil h.2.2.2
theorem nV (T:θ.Ok ext) (O:Fy gt ext) (x:Se) (hF:200000000000001 ≤ F) (hq:x.q.size ≤ 1000000) (hn:x.d.length ≤ 1000000) (hd:∀ y ∈ x.d,y.size ≤ 1000000):G ext F (n + 4) 41 [x.v] = some ([vi (uI θ gt x).1,vb (uI θ gt x).2],[x.v]):=by
  refine iw (cf:=Ki) rfl ?_
  have h1:=fun n=>Ja (F:=F) (n:=n) T x.q x.t x.c x.d x.ttl (by omega) hF hq hd
  by_cases h6:x.t = 6
  · have h6':decide (x.t = 6) = true:=decide_eq_true h6
    cases hs:θ.set x.q x.t x.c x.d x.ttl with
    | false =>
      rw [hs] at h1
      have e:uI θ gt x = (0,false):=by unfold uI;rw [hs];rfl
      rw [e]
      simp only [Ki,h1,h6',go_sem,Nat.reduceAdd,Nat.reduceMul,Nat.reduceEqDiff,Nat.reduceBEq,Nat.reduceMod,Nat.reduceDiv,↓reduceIte,reduceCtorEq]
    | true =>
      rw [hs] at h1
      obtain ⟨y,ds,hy⟩:=LC hs
      have e:uI θ gt x = (if x.ttl < (gt y (y.size - 4) 4).1 then x.ttl else (gt y (y.size - 4) 4).1,true):=by unfold uI;rw [if_pos ⟨hs,h6⟩,hy];rfl
      rw [e]
      have hys:=hd y (by rw [hy];simp)
      have hw:IntKind.i64.wrap ((y.size:Int) - 4) = y.size - 4:=BJ (by omega) (by omega)
      have hg:=fun n=>YX (F:=F) (n:=n) O y (y.size - 4) 4 hys
      simp only [Se.v,Fv,hy,List.map_cons,iB] at h1 ⊢
      simp only [Ki,h1,h6',List.map_cons,List.getElem?_cons_zero,iB,hw,hg,Int.toNat_zero,go_sem,Nat.reduceAdd,Nat.reduceMul,Nat.reduceEqDiff,Nat.reduceBEq,Nat.reduceMod,Nat.reduceDiv,↓reduceIte,reduceCtorEq]
      exact ⟨Int.le_refl _,by rw [hy];rfl⟩
  · have h6':decide (x.t = 6) = false:=decide_eq_false h6
    have e:uI θ gt x = (0,false):=by unfold uI;rw [if_neg (fun h=>h6 h.2)]
    rw [e]
    simp only [Ki,h6',go_sem,Nat.reduceAdd,Nat.reduceMul,Nat.reduceEqDiff,Nat.reduceBEq,Nat.reduceMod,Nat.reduceDiv,↓reduceIte,reduceCtorEq]
end Go.Proofs.Ytdkkgecdhapfhaa.Kn
set_option maxRecDepth 4000
namespace Go.Proofs.Ytdkkgecdhapfhaa.Kn
open Go Ev
variable {ext : Env} {F n:Nat} {θ:Th} {gt:ByteArray → Int → Int → Int × Bool}
def YZ (o:Option Nt):Nt × Bool:=match o with
  | some x=>(x,true)
  | none=>(WS,false)
abbrev kn (nx:Bool) (k:Qn):Qn:=if nx then k.w else k
def Th.narg (θ:Th) (gt:ByteArray → Int → Int → Int × Bool) (s:Rn) (now:Int) (k:Qn) (x:Se):Prop:=s.room = 0 ∨ GQ now = false ∨ (uI θ gt x).2 = false ∨ θ.key k.q k.t k.c = false ∨ k.t = 0
instance {s : Rn} {now:Int} {k:Qn} {x:Se}:Decidable (θ.narg gt s now k x):=by unfold Th.narg;infer_instance
end Go.Proofs.Ytdkkgecdhapfhaa.Kn
set_option maxRecDepth 4000
namespace Go.Proofs.Ytdkkgecdhapfhaa.Kn
open Go Ev
variable {ext : Env} {F n:Nat} {θ:Th} {gt:ByteArray → Int → Int → Int × Bool}
def nof (m:List Nt) (now:Int) (k:Qn):Option Nt:=match old m k with
  | some x=>if nD now x.u then some x else none
  | none=>none
def mO (s:Nv) (now:Int) (k:Qn):Nt × Bool:=match nof s.m now k.w with
  | some x=>(x,true)
  | none=>YZ (nof s.m now k)
theorem FD (now:Int) (k:Qn):G ext F (n + 3) 46 [.one .je,vi now,k.v] = some ([WS.v,vb false],[.one .je,vi now,k.v]):=by
  refine iw (cf:=c46) rfl ?_
  simp only [c46,go_sem,Nat.reduceAdd,Nat.reduceMul,Nat.reduceEqDiff,Nat.reduceBEq,Nat.reduceMod,Nat.reduceDiv,↓reduceIte,reduceCtorEq]
  rfl
theorem xY (C:qE ext) (s:Nv) (now:Int) (k:Qn) (hF:200000000000001 ≤ F) (hd:∀ x ∈ s.m,x.s.d.length ≤ 1000000):G ext F (n + 3) 46 [s.v,vi now,k.v] = some ([(mO s now k).1.v,vb (mO s now k).2],[s.v,vi now,k.v]):=by
  refine iw (cf:=c46) rfl ?_
  have hw:=fun n=>DX (ext:=ext) (F:=F) (n:=n) k
  simp only [c46,hw,go_sem,Nat.reduceAdd,Nat.reduceMul,Nat.reduceEqDiff,Nat.reduceBEq,Nat.reduceMod,Nat.reduceDiv,↓reduceIte,reduceCtorEq]
  refine uV 2 (fun i=>⟨[(0,PV.c (CV.one (PL.ptr 20201 0))),(1,PV.c (CV.one (PL.f (FV.int IntKind.i64 now)))),(6,PV.c (CV.one (PL.ptr 140000 0))),(18,PV.c (CV.one (PL.own 380000 2))),(19,PV.c (CV.one (PL.f (FV.int IntKind.i64 ((2:Nat):Int))))),(20,PV.c (CV.one (PL.f (FV.int IntKind.i64 (i:Int)))))],[(20201,Ob.ni [PL.f (FV.int IntKind.i64 s.room),PL.mp 20205,PL.f (FV.sl (List.map rQ s.o)),PL.f (FV.int IntKind.i64 s.ch)]),(20205,Ob.map Ny (List.map ent s.m)),(140000,Ob.ni [PL.f (FV.str ⟨#[]⟩),PL.f (FV.int IntKind.i64 0),PL.f (FV.int IntKind.i64 0),PL.f (FV.bool false),PL.f (FV.str ⟨#[]⟩),PL.f (FV.int IntKind.i64 0),PL.f (FV.int IntKind.i64 0),PL.fQ,PL.f (FV.int IntKind.i64 0),PL.f (FV.int IntKind.i64 0)]),(380000,Ob.row 3 [[FV.str k.q,FV.int IntKind.i64 0,FV.int IntKind.i64 k.c],[FV.str k.q,FV.int IntKind.i64 k.t,FV.int IntKind.i64 k.c]])]⟩) (fun i=>(1 ≤ i → nof s.m now k.w = none) ∧ (2 ≤ i → nof s.m now k = none)) (by omega) rfl ⟨by omega,by omega⟩ (fun i hi hP=>?_) (fun hP=>?_)
  · rcases (show i = 0 ∨ i = 1 by omega) with rfl | rfl
    · skip
      have hlt:decide (((0:Nat):Int) < ((2:Nat):Int)) = true:=by decide
      have ht:((0:Nat):Int).toNat = 0:=rfl
      have h0:(0:Int) ≤ ((0:Nat):Int):=by decide
      have hn':IntKind.i64.wrap (((0:Nat):Int) + 1) = ((0 + 1:Nat):Int):=by rw [BJ (by omega) (by omega)];rfl
      have hk1:=DU s.m k.w
      simp only [kq] at hk1
      have hcl:=fun n x hx=>nE (F:=F) (n:=n) C x hx
      cases hold:old s.m k.w with
      | none =>
        rw [hold] at hk1
        simp only [hlt,ht,h0,hn',List.getElem?_cons_zero,List.getElem?_cons_succ,hk1,Option.map_none,Option.isSome_none,go_sem,Nat.reduceAdd,Nat.reduceMul,Nat.reduceEqDiff,Nat.reduceBEq,Nat.reduceMod,Nat.reduceDiv,↓reduceIte,reduceCtorEq]
        first | exact ⟨by decide,fun _=>by unfold nof;simp [hold, *],by omega⟩ | exact ⟨by decide,rfl,fun _=>by unfold nof;simp [hold, *],by omega⟩
      | some x =>
        rw [hold] at hk1
        have hcl:=fun n=>nE (F:=F) (n:=n) C x (hd x (GX hold).2)
        cases hv:nD now x.u with
        | false =>
          simp only [hlt,ht,h0,hn',List.getElem?_cons_zero,List.getElem?_cons_succ,hk1,Option.map_some,Option.isSome_some,rN,qg,hv,go_sem,Nat.reduceAdd,Nat.reduceMul,Nat.reduceEqDiff,Nat.reduceBEq,Nat.reduceMod,Nat.reduceDiv,↓reduceIte,reduceCtorEq]
          first | exact ⟨by decide,fun _=>by unfold nof;simp [hold, *],by omega⟩ | exact ⟨by decide,rfl,fun _=>by unfold nof;simp [hold, *],by omega⟩
        | true =>
          simp only [hlt,ht,h0,hn',List.getElem?_cons_zero,List.getElem?_cons_succ,hk1,Option.map_some,Option.isSome_some,rN,qg,hv,hcl,go_sem,Nat.reduceAdd,Nat.reduceMul,Nat.reduceEqDiff,Nat.reduceBEq,Nat.reduceMod,Nat.reduceDiv,↓reduceIte,reduceCtorEq]
          have e:mO s now k = (x,true):=by unfold mO nof;rw [hold];simp [hv]
          rw [e]
          exact ⟨by decide,rfl⟩
    · have hp:=hP.1 (by decide)
      have hlt:decide (((1:Nat):Int) < ((2:Nat):Int)) = true:=by decide
      have ht:((1:Nat):Int).toNat = 1:=rfl
      have h0:(0:Int) ≤ ((1:Nat):Int):=by decide
      have hn':IntKind.i64.wrap (((1:Nat):Int) + 1) = ((1 + 1:Nat):Int):=by rw [BJ (by omega) (by omega)];rfl
      have hk1:=DU s.m k
      simp only [kq] at hk1
      have hcl:=fun n x hx=>nE (F:=F) (n:=n) C x hx
      cases hold:old s.m k with
      | none =>
        rw [hold] at hk1
        simp only [hlt,ht,h0,hn',List.getElem?_cons_zero,List.getElem?_cons_succ,hk1,Option.map_none,Option.isSome_none,go_sem,Nat.reduceAdd,Nat.reduceMul,Nat.reduceEqDiff,Nat.reduceBEq,Nat.reduceMod,Nat.reduceDiv,↓reduceIte,reduceCtorEq]
        first | exact ⟨by decide,fun _=>hp,fun _=>by unfold nof;simp [hold, *]⟩ | exact ⟨by decide,rfl,fun _=>hp,fun _=>by unfold nof;simp [hold, *]⟩
      | some x =>
        rw [hold] at hk1
        have hcl:=fun n=>nE (F:=F) (n:=n) C x (hd x (GX hold).2)
        cases hv:nD now x.u with
        | false =>
          simp only [hlt,ht,h0,hn',List.getElem?_cons_zero,List.getElem?_cons_succ,hk1,Option.map_some,Option.isSome_some,rN,qg,hv,go_sem,Nat.reduceAdd,Nat.reduceMul,Nat.reduceEqDiff,Nat.reduceBEq,Nat.reduceMod,Nat.reduceDiv,↓reduceIte,reduceCtorEq]
          first | exact ⟨by decide,fun _=>hp,fun _=>by unfold nof;simp [hold, *]⟩ | exact ⟨by decide,rfl,fun _=>hp,fun _=>by unfold nof;simp [hold, *]⟩
        | true =>
          simp only [hlt,ht,h0,hn',List.getElem?_cons_zero,List.getElem?_cons_succ,hk1,Option.map_some,Option.isSome_some,rN,qg,hv,hcl,go_sem,Nat.reduceAdd,Nat.reduceMul,Nat.reduceEqDiff,Nat.reduceBEq,Nat.reduceMod,Nat.reduceDiv,↓reduceIte,reduceCtorEq]
          have e:mO s now k = (x,true):=by unfold mO;rw [hp];unfold nof;rw [hold];simp [hv,YZ]
          rw [e]
          exact ⟨by decide,rfl⟩
  · have hp1:=hP.1 (by decide)
    have hp2:=hP.2 (by decide)
    have hlt:decide (((2:Nat):Int) < ((2:Nat):Int)) = false:=by decide
    have e:mO s now k = (WS,false):=by unfold mO;rw [hp1,hp2];rfl
    rw [e]
    simp only [hlt,go_sem,Nat.reduceAdd,Nat.reduceMul,Nat.reduceEqDiff,Nat.reduceBEq,Nat.reduceMod,Nat.reduceDiv,↓reduceIte,reduceCtorEq]
    rfl
def nG (θ:Th) (gt:ByteArray → Int → Int → Int × Bool) (s:Nv) (now:Int) (k:Qn) (nx:Bool) (x:Se):Nv × Int :=
  if (uI θ gt x).2 = false ∨ iL now (uI θ gt x).1 = -1 ∨ θ.ask k = false then (s,1)
  else if nD now (iL now (uI θ gt x).1) = false then (s,14)
  else
    let t:=DR s.o (kn nx k) ++ [kn nx k]
    (⟨s.room,(t.take (t.length - s.room.toNat)).foldl rid (upd s.m ⟨kn nx k,nx,x,iL now (uI θ gt x).1⟩),t.drop (t.length - s.room.toNat),s.ch + 1⟩,0)
theorem Jd (T:θ.Ok ext) (O:Fy gt ext) (now:Int) (k:Qn) (nx:Bool) (x:Se) (hF:200000000000001 ≤ F) (hq:x.q.size ≤ 1000000) (hn:x.d.length ≤ 1000000) (hd:∀ y ∈ x.d,y.size ≤ 1000000):G ext F (n + 6) 44 [.one .je,vi now,k.v,vb nx,x.v] = some ([vi 1],[.one .je,vi now,k.v,vb nx,x.v]):=by
  refine iw (cf:=zh) rfl ?_
  have h1:=fun n=>nV (F:=F) (n:=n) T O x hF hq hn hd
  have hu:=fun n t=>DK (ext:=ext) (F:=F) (n:=n) now t
  simp only [zh,h1,hu,go_sem,Nat.reduceAdd,Nat.reduceMul,Nat.reduceEqDiff,Nat.reduceBEq,Nat.reduceMod,Nat.reduceDiv,↓reduceIte,reduceCtorEq]
theorem wL (T:θ.Ok ext) (O:Fy gt ext) (C:qE ext) (s:Nv) (now:Int) (k:Qn) (qU:Bool) (x:Se) (hF:200000000000001 ≤ F) (hr1:0 ≤ s.room ∧ s.room ≤ 1000000) (hc:0 ≤ s.ch ∧ s.ch ≤ 1000000000000) (ho:s.o.length ≤ 100000) (hk:k.q.size ≤ 1000000) (hq:x.q.size ≤ 1000000) (hn:x.d.length ≤ 1000000) (hd:∀ y ∈ x.d,y.size ≤ 1000000):G ext F (n + 6) 44 [s.v,vi now,k.v,vb qU,x.v] = some ([vi (nG θ gt s now k qU x).2],[(nG θ gt s now k qU x).1.v,vi now,k.v,vb qU,x.v]):=by
  refine iw (cf:=zh) rfl ?_
  have h1:=fun n=>nV (F:=F) (n:=n) T O x hF hq hn hd
  have h2:=fun n=>LB (F:=F) (n:=n) T k hk
  have hu:=fun n t=>DK (ext:=ext) (F:=F) (n:=n) now t
  cases hm2:(uI θ gt x).2 with
  | false =>
    rw [hm2] at h1
    have e:nG θ gt s now k qU x = (s,1):=by unfold nG;exact if_pos (.inl hm2)
    rw [e]
    simp only [zh,h1,hu,go_sem,Nat.reduceAdd,Nat.reduceMul,Nat.reduceEqDiff,Nat.reduceBEq,Nat.reduceMod,Nat.reduceDiv,↓reduceIte,reduceCtorEq]
  | true =>
  rw [hm2] at h1
  by_cases hun:iL now (uI θ gt x).1 = -1
  · have e:nG θ gt s now k qU x = (s,1):=by unfold nG;exact if_pos (.inr (.inl hun))
    rw [e]
    have hun':decide (iL now (uI θ gt x).1 = -1) = true:=decide_eq_true hun
    simp only [zh,h1,hu,hun',go_sem,Nat.reduceAdd,Nat.reduceMul,Nat.reduceEqDiff,Nat.reduceBEq,Nat.reduceMod,Nat.reduceDiv,↓reduceIte,reduceCtorEq]
  have hun':decide (iL now (uI θ gt x).1 = -1) = false:=decide_eq_false hun
  cases ha:θ.ask k with
  | false =>
    have e:nG θ gt s now k qU x = (s,1):=by unfold nG;exact if_pos (.inr (.inr ha))
    rw [e]
    rw [ha] at h2
    simp only [zh,h1,h2,hu,hun',go_sem,Nat.reduceAdd,Nat.reduceMul,Nat.reduceEqDiff,Nat.reduceBEq,Nat.reduceMod,Nat.reduceDiv,↓reduceIte,reduceCtorEq]
  | true =>
  rw [ha] at h2
  have hno:¬ ((uI θ gt x).2 = false ∨ iL now (uI θ gt x).1 = -1 ∨ θ.ask k = false):=by rw [hm2,ha];simp [hun]
  cases hl:nD now (iL now (uI θ gt x).1) with
  | false =>
    have e:nG θ gt s now k qU x = (s,14):=by unfold nG;rw [if_neg hno,if_pos hl]
    rw [e]
    simp only [zh,h1,h2,hu,hun',qg,hl,go_sem,Nat.reduceAdd,Nat.reduceMul,Nat.reduceEqDiff,Nat.reduceBEq,Nat.reduceMod,Nat.reduceDiv,↓reduceIte,reduceCtorEq]
  | true =>
  have e:nG θ gt s now k qU x = (⟨s.room,((DR s.o (kn qU k) ++ [kn qU k]).take ((DR s.o (kn qU k) ++ [kn qU k]).length - s.room.toNat)).foldl rid (upd s.m ⟨kn qU k,qU,x,iL now (uI θ gt x).1⟩),(DR s.o (kn qU k) ++ [kn qU k]).drop ((DR s.o (kn qU k) ++ [kn qU k]).length - s.room.toNat),s.ch + 1⟩,0):=by
    unfold nG;rw [if_neg hno,if_neg (by rw [hl];decide)]
  rw [e]
  have hu':=fun n=>hu n (uI θ gt x).1
  generalize iL now (uI θ gt x).1 = u at hu' hun' hl ⊢
  have hw:IntKind.i64.wrap (s.ch + 1) = s.ch + 1:=BJ (by omega) (by omega)
  have hwh:=fun n=>DX (ext:=ext) (F:=F) (n:=n) k
  have hcl:=fun n=>nE (ext:=ext) (F:=F) (n:=n) C ⟨kn qU k,qU,x,u⟩ hn
  have hqq:=@BL s.o (kn qU k)
  have ht:=fun n=>Lv (ext:=ext) (F:=F) (n:=n) C s.o (kn qU k) (by omega) hF
  have hct:=fun n=>UF (ext:=ext) (F:=F) (n:=n) C (DR s.o (kn qU k) ++ [kn qU k]) s.room (by simp;omega) (by omega) hF
  have hup:=Lx s.m ⟨kn qU k,qU,x,u⟩
  simp only [kq,rN] at hup
  generalize hqt:DR s.o (kn qU k) ++ [kn qU k] = t at ht hct ⊢
  generalize t.drop (t.length - s.room.toNat) = td at hct ⊢
  generalize htt:t.take (t.length - s.room.toNat) = tt at hct ⊢
  have htl:tt.length ≤ 1000000:=by rw [← htt,List.length_take,← hqt,List.length_append,List.length_singleton];omega
  generalize hM:upd s.m ⟨kn qU k,qU,x,u⟩ = M at hup ⊢
  cases qU
  all_goals
    simp only [kn,if_true,if_false,Bool.false_eq_true] at hup ht hct hcl
    simp only [zh,h1,h2,hu',hun',qg,hl,hwh,hcl,ht,hct,hup,hw,go_sem,Nat.reduceAdd,Nat.reduceMul,Nat.reduceEqDiff,Nat.reduceBEq,Nat.reduceMod,Nat.reduceDiv,↓reduceIte,reduceCtorEq]
    refine uV tt.length (fun i=>⟨[(0,PV.c (CV.one (PL.ptr 20201 0))),(14,PV.c (CV.one (PL.f (FV.sl (List.map rQ td))))),(75,PV.c (CV.one (PL.f (FV.sl (List.map rQ tt))))),(76,PV.c (CV.one (PL.f (FV.int IntKind.i64 ↑(List.map rQ tt).length)))),(77,PV.c (CV.one (PL.f (FV.int IntKind.i64 i))))],[(20201,Ob.ni [PL.f (FV.int IntKind.i64 s.room),PL.mp 20205,PL.f (FV.sl (List.map rQ s.o)),PL.f (FV.int IntKind.i64 s.ch)]),(20205,Ob.map Ny (((tt.take i).foldl rid M).map ent))]⟩) (fun _=>True) (by omega) rfl trivial (fun i hi _=>?_) (fun _=>?_)
    · obtain ⟨k',hx,hlt,hit,h00⟩:=at_ hi
      have hn':=nx hi (by omega)
      have hdl:=DV ((tt.take i).foldl rid M) k'
      have hfo:(tt.take (i + 1)).foldl rid M = rid ((tt.take i).foldl rid M) k':=by rw [List.take_add_one,hx,List.foldl_append];rfl
      simp only [List.length_map,List.getElem?_map,hlt,hx,hit,h00,hn',rQ,hdl,go_sem,Nat.reduceAdd,Nat.reduceMul,Nat.reduceEqDiff,Nat.reduceBEq,Nat.reduceMod,Nat.reduceDiv,↓reduceIte,reduceCtorEq]
      rw [hfo]
    · have hd:=@end_ _ tt
      simp only [List.length_map,hd,hw,List.take_length,go_sem,Nat.reduceAdd,Nat.reduceMul,Nat.reduceEqDiff,Nat.reduceBEq,Nat.reduceMod,Nat.reduceDiv,↓reduceIte,reduceCtorEq]
end Go.Proofs.Ytdkkgecdhapfhaa.Kn
namespace Go.Proofs.Ytdkkgecdhapfhaa.Ev
open Go Go.RowKit
def WT : SV → TV
  | .int k n=>.f (.int k n)
  | .bool b=>.f (.bool b)
  | .str s=>.f (.str s)
def G5 (l:List SV):List AV:=l.map fun x=>.one (WT x)
section
variable {P : Program} {Fz:Nat → Prop} {w:World}
theorem G6 {x:SV} {v:Value} {bs:List Nat}:nA Fz w (WT x) v bs ↔ v = encS x ∧ bs = []:=by
  cases x <;> simp only [WT,nA,fu,encS]
theorem DY : ∀ {l:List SV} {vs:List Value} {bs:List Nat},fM Fz w (G5 l) vs bs → vs = l.map encS ∧ bs = []
  | [],[],_,h=>⟨rfl,h⟩
  | [],_ :: _,_,h=>h.elim
  | _ :: _,[],_,h=>h.elim
  | x :: l,v :: vs,_,⟨b1,b2,h1,h2,e⟩=>by
    obtain ⟨e1,e2⟩:=G6.mp h1
    obtain ⟨e3,e4⟩:=DY (l:=l) h2
    subst e1;subst e2;subst e3;subst e4
    exact ⟨rfl,by rw [e];rfl⟩
theorem xZ : ∀ {l:List SV},fM Fz w (G5 l) (l.map encS) []
  | []=>rfl
  | x :: l=>⟨[],[],G6.mpr ⟨rfl,rfl⟩,xZ (l:=l),rfl⟩
theorem Sat.vW {f:FuncId} {g:List AV → Option (List AV × List AV)} (h:∀ fV r,g fV = some r → ∃ ZZ9 rs:List SV,fV = G5 ZZ9 ∧ r = (G5 rs,G5 ZZ9) ∧
    ∀ w:World,Calls P f (ZZ9.map encS).toArray w fun e w'=>e = .returned (ret (rs.map encS)) ∧ Below w.heap.size w w'):Sat P f g:=by
  intro fV rs rH hg Fz w vals bs ha hnd hap hfz
  obtain ⟨ZZ9,rs',rfl,e,hc⟩:=h fV _ hg
  cases e
  obtain ⟨rfl,rfl⟩:=DY ha
  refine (hc w).mono fun e w' ⟨h1,hb'⟩=>?_
  exact ⟨Fz,rs'.map encS,[],[],h1,fun _ h=>h,fun b hb=>⟨Nat.lt_of_lt_of_le (hfz b hb) hb'.size,.inl hb⟩,hb'.size,fun b hb _=>hb'.block b hb,⟨hb'.os,hb'.output⟩,xZ,xZ,by simp,fun b hb=>by simp at hb⟩
def oW : List (FuncId × (List AV → Option (List AV × List AV))) → Env
  | []=>fun _ _=>none
  | (k,g) :: l=>fun f fV=>if k = f then g fV else oW l f fV
theorem yc : ∀ {l:List (FuncId × (List AV → Option (List AV × List AV)))},(∀ p ∈ l,Sat P p.1 p.2) → iE P (oW l)
  | [],_=>fun f fV rs rH h=>by cases h
  | (k,g) :: l,h=>fun f fV rs rH he=>by
    unfold oW at he
    split at he
    · rename_i e;subst e;exact h (k,g) (by simp) fV rs rH he
    · exact yc (fun p hp=>h p (List.mem_cons_of_mem _ hp)) f fV rs rH he
theorem rJ : ∀ {l:List (FuncId × (List AV → Option (List AV × List AV)))},(∀ p ∈ l,∃ fn,P.funcs[p.1]? = some fn ∧ (fn.name == "runtime.NumGoroutine") = false ∧ fn.body.isSome = true) → eu P (oW l)
  | [],_=>fun f fV r h=>by cases h
  | (k,g) :: l,h=>fun f fV r he=>by
    unfold oW at he
    split at he
    · rename_i e;subst e;exact h (k,g) (by simp)
    · exact rJ (fun p hp=>h p (List.mem_cons_of_mem _ hp)) f fV r he
end
end Go.Proofs.Ytdkkgecdhapfhaa.Ev
namespace Go.Proofs.Ytdkkgecdhapfhaa.Ev
open Go
open Go.ChangeMaps (setBlock)
def Y0 : SV → FV
  | .int k n=>.int k n
  | .bool b=>.bool b
  | .str s=>.str s
def Y1 : KV → CV
  | .one x=>.one (.f (Y0 x))
  | .agg xs=>.agg (xs.map fun x=>.f (Y0 x))
def yg (step:St → KV → Option St) (σ:St):List KV → Option St
  | []=>some σ
  | k :: l=>(step σ k).bind fun τ=>yg step τ l
open Classical in
noncomputable def Ad (step:St → KV → Option St) (σ:St) (l:List KV):Option St :=
  if ∃ τ,∀ m:List KV,m.Perm l → yg step σ m = some τ then yg step σ l else none
def yh (ks os:List Nat) (σ:St):St:=⟨pick ks σ.tm,pick os σ.ob⟩
def yj (σ:St) (os:List Nat) (s:Nat):Option (List KV):=match get σ.tm s with
  | some (.c (.one (.mp key)))=>if os.contains key then none else match get σ.ob key with
    | some (.map _ ents)=>some (ents.map (·.1))
    | _=>none
  | _=>none
noncomputable def oZ (Γ:Env) (F:Nat) (ks os:List Nat) (s:Nat) (g6:List G) (k6:List Nat) (cb:CC) (σ:St) (k:KV):Option St :=
  (wE Γ false g6 ⟨put σ.tm s (.c (Y1 k)),σ.ob⟩).bind fun t=>(ev Γ F cb ⟨pick k6 t.tm,t.ob⟩).bind fun p=>match p.1 with
    | .ji=>some (yh ks os p.2)
    | _=>none
noncomputable def fin (cf:CF) (mH:List CV) (fV:List AV) (σ:St):Option (List AV × List AV):=(lC σ mH fV).bind fun b=>(slots b.2 cf.res).bind fun l=>(ou cf.ro b.2 l).map fun r=>(r.1,b.1)
noncomputable def LD (Γ:Env) (F:Nat) (ca:CC) (g4:List G) (sm:Nat) (ks os:List Nat) (s:Nat) (g6:List G) (k6:List Nat) (cb cc:CC) (cf:CF) (fV:List AV):Option (List AV × List AV) :=
  if fV.length ≠ cf.np then none else (enter cf.bo 0 [] ⟨[],[]⟩ fV).bind fun e=>(ev Γ F ca e.2).bind fun p=>match p.1 with
    | .ext _=>none
    | .ret=>fin cf e.1 fV p.2
    | .ji=>(wE Γ false g4 p.2).bind fun t=>(yj t os sm).bind fun l=>(Ad (oZ Γ F ks os s g6 k6 cb) (yh ks os t) l).bind fun t=>(ev Γ F cc t).bind fun q=>match q.1 with
      | .ext _=>none
      | _=>fin cf e.1 fV q.2
theorem tq {α:Type} (f:α → Nat):∀ (l:List α) (i:Nat) (hi:i < l.length),(l.map f).Nodup → l.filter (fun x=>!(f x == f l[i])) = l.eraseIdx i
  | [],i,hi,_=>by simp at hi
  | x :: l,0,hi,h=>by
    have hc:=List.nodup_cons.mp h
    rw [List.getElem_cons_zero,List.filter_cons,List.eraseIdx_cons_zero]
    simp only [beq_self_eq_true,Bool.not_true,Bool.false_eq_true,if_false]
    refine List.filter_eq_self.mpr fun y hy=>?_
    have:f y ≠ f x:=fun e=>hc.1 (by rw [← e];exact List.mem_map_of_mem hy)
    simp [this]
  | x :: l,i + 1,hi,h=>by
    have hc:=List.nodup_cons.mp h
    have hi':i < l.length:=by simpa using hi
    rw [List.getElem_cons_succ,List.filter_cons,List.eraseIdx_cons_succ,tq f l i hi' hc.2]
    have:f x ≠ f l[i]:=fun e=>hc.1 (by rw [e];exact List.mem_map_of_mem (List.getElem_mem hi'))
    simp [this]
theorem yt {α:Type}:∀ (l:List α) (i:Nat) (h:i < l.length),(l[i] :: l.eraseIdx i).Perm l
  | [],i,h=>by simp at h
  | x :: l,0,h=>List.Perm.refl _
  | x :: l,i + 1,h=>by
    have:=yt l i (by simpa using h)
    rw [List.getElem_cons_succ,List.eraseIdx_cons_succ]
    exact (List.Perm.swap _ _ _).trans (this.cons x)
theorem Je (es:Array MapEntry) (seen:Array Nat) (b:Nat):(leftOf es (seen.push b)).toList = (leftOf es seen).toList.filter (fun e=>!(e.born == b)):=by
  unfold leftOf
  rw [Array.toList_filter,Array.toList_filter,List.filter_filter]
  refine List.filter_congr fun e _=>?_
  rw [Array.contains_push]
  cases hb:e.born == b <;> cases hs:seen.contains e.born <;> simp_all
section
variable {P : Program} {Γ:Env} {bH Fz bK:Nat → Prop} {w0 w w':World} {bG bs:List Nat} {N N':Fr} {F:Nat} {κ eX jN:Nat → Value} {σ fI σ':St} {a a':Act} {X:Hx}
theorem UJ (k:KV):fZ Fz κ w (Y1 k) (lZ k):=by
  have hl:∀ x:SV,d9 Fz κ w (.f (Y0 x)) (encS x):=fun x=>by cases x <;> simp only [d9,Y0,fu,encS]
  cases k with
  | one x=>exact hl x
  | agg xs =>
    refine ⟨_,rfl,?_⟩
    show bA Fz κ w (xs.map fun x=>.f (Y0 x)) (xs.map encS)
    induction xs with
    | nil=>trivial
    | cons x xs ih=>exact ⟨hl x,ih⟩
def blks (κ:Nat → Value) (ob:List (Nat × Ob)):List Nat:=ob.filterMap fun p=>blk (κ p.1)
theorem nH {b:Nat} {ob:List (Nat × Ob)}:b ∈ blks κ ob ↔ ∃ p ∈ ob,blk (κ p.1) = some b:=List.mem_filterMap
theorem Rel.base (h:Rel bH w0 bG N Fz κ σ a w):Rel Fz w (blks κ σ.ob) N Fz κ σ a w :=
  ⟨h.tm,h.sz,h.nu,h.fs,h.ob,h.sK,fun p hp b hb=>⟨(h.pos p hp b hb).1,(h.pos p hp b hb).2.1,.inl (nH.mpr ⟨p,hp,hb⟩)⟩,fun b hb=>⟨(h.fz b hb).1,.inl hb⟩,fun _ h=>h,Nat.le_refl _,fun _ _ _=>rfl,⟨rfl,rfl⟩⟩
theorem Rel.old (h:Rel bH w0 bG N Fz κ σ a w) {b:Nat} (hb:b ∈ blks κ σ.ob):¬ Fz b ∧ b < w.heap.size ∧ (b ∈ bG ∨ w0.heap.size ≤ b):=by
  obtain ⟨p,hp,hb⟩:=nH.mp hb
  exact h.pos p hp b hb
theorem Rel.UK (h:Rel bH w0 bG N Fz κ σ a w) (k:Rel Fz w (blks κ σ.ob) N' bK eX σ' a' w'):Rel bH w0 bG N' bK eX σ' a' w' :=
  ⟨k.tm,k.sz,k.nu,k.fs,k.ob,k.sK,fun p hp b hb=>by
    obtain ⟨g1,g2,g3⟩:=k.pos p hp b hb
    refine ⟨g1,g2,?_⟩
    rcases g3 with g | g
    · exact (h.old g).2.2
    · exact .inr (Nat.le_trans h.big g),
  fun b hb=>⟨(k.fz b hb).1,by
    rcases (k.fz b hb).2 with g | g | g
    · exact (h.fz b g).2
    · exact .inr (h.old g).2.2
    · exact .inr (.inr (Nat.le_trans h.big g))⟩,
  fun b hb=>k.wF b (h.wF b hb),Nat.le_trans h.big k.big,fun b h1 h2=>by
    refine (k.ext b (Nat.lt_of_lt_of_le h1 h.big) fun hm=>?_).trans (h.ext b h1 h2)
    rcases (h.old hm).2.2 with g | g
    · exact h2 g
    · exact Nat.not_lt.mpr g h1,h.kp.trans k.kp⟩
theorem Rel.aside (h:Rel bH w0 bG N Fz κ σ a w) {r:Nat} (hs:w'.heap.size = w.heap.size) (hb:∀ b,b ≠ r → w'.heap[b]? = w.heap[b]?) (h0:w0.heap.size ≤ r) (hF:¬ Fz r) (hO:r ∉ blks κ σ.ob) (hkp:Kp w w'):Rel bH w0 bG N Fz κ σ a w':=by
  have hf:∀ b,Fz b → w'.heap[b]? = w.heap[b]?:=fun b hb'=>hb b fun e=>hF (e ▸ hb')
  exact ⟨fun p hp=>jk.mono (fun _ h=>h) hf (fun _ _=>rfl) (h.tm p hp),h.sz,h.nu,h.fs,
    fun p hp=>iC.mono (fun _ h=>h) hf (fun _ _=>rfl) (fun b hb'=>hb b fun e=>hO (nH.mpr ⟨p,hp,e ▸ hb'⟩)) (h.ob p hp),h.sK,
    fun p hp b hb'=>⟨(h.pos p hp b hb').1,by rw [hs];exact (h.pos p hp b hb').2.1,(h.pos p hp b hb').2.2⟩,fun b hb'=>⟨by rw [hs];exact (h.fz b hb').1,(h.fz b hb').2⟩,h.wF,by rw [hs];exact h.big,
    fun b h1 h2=>(hb b (by omega)).trans (h.ext b h1 h2),h.kp.trans hkp⟩
theorem Rel.Jf (h:Rel bH w0 bG N Fz κ σ a w) {d:Nat} (hd:N.ok d = true) (hn:∀ p ∈ σ.tm,p.1 ≠ d) (v:Value):Rel bH w0 bG N Fz κ σ (a.put (some d) v) w:=by
  have h1:=h.put hd (pv:=.c (.one .any)) (v:=v) trivial
  refine ⟨fun p hp=>?_,h1.sz,h1.nu,h1.fs,h1.ob,h1.sK,h1.pos,h1.fz,h1.wF,h1.big,h1.ext,h1.kp⟩
  have:=h.tm p hp
  have hne:=hn p hp
  simp only [Act.put,Array.getD_eq_getD_getElem?,Array.getElem?_setIfInBounds] at this ⊢
  rw [if_neg (fun e=>hne e.symm)]
  exact this
theorem tu {α:Type} {ks:List Nat} {l:List (Nat × α)} {p:Nat × α} (h:p ∈ pick ks l):p.1 ∈ ks:=by
  obtain ⟨i,h1,h2⟩:=List.mem_filterMap.mp h
  obtain ⟨v,h3,h4⟩:=zmm h2
  subst h4
  exact h1
theorem nI (h:a.tmps.size = N.n) {d:Nat} (hd:d < N.n) (v:Value) (e:Nat):(a.put (some d) v).tmps.getD e undef = if e = d then v else a.tmps.getD e undef:=by
  simp only [Act.put,Array.getD_eq_getD_getElem?,Array.getElem?_setIfInBounds]
  by_cases he:e = d
  · subst he;rw [if_pos rfl,if_pos (by omega),if_pos rfl];rfl
  · rw [if_neg (fun x=>he x.symm),if_neg he]
theorem G7 (heq:∀ t ∈ X.eqs,kV P t) (kJ:iE P Γ) (hC:eu P Γ) {ops:Array Oper} {Q:Exit → Act → World → Prop} {rest:List Oper}:∀ {l:List Oper} {gs:List G} {σ:St} {a:Act} {w:World},jF P X ops N.ok l = some gs → Ok bH w0 bG N jN σ a w → wE Γ false gs σ = some σ' → (∀ a' w',Ok bH w0 bG N jN σ' a' w' → wpList P ops Q rest a' w') → wpList P ops Q (l ++ rest) a w
  | [],gs,σ,a,w,hc,h,hE,hQ=>by cases hc;cases hE;exact hQ a w h
  | o :: l,gs,σ,a,w,hc,h,hE,hQ=>by
    obtain ⟨g,h1,h2⟩:=zbm hc
    obtain ⟨r,h3,rfl⟩:=zmm h2
    obtain ⟨s,h4,h5⟩:=zbm hE
    exact xI heq kJ hC h1 h h4 (fun a' w' h'=>G7 heq kJ hC h3 h' h5 hQ)
structure Rg (bH:Nat → Prop) (w0:World) (bG:List Nat) (N:Fr) (jN:Nat → Value) (r bm:Nat) (es:Array MapEntry) (clock:Nat) (seen:Array Nat) (lk:List KV) (σ:St) (a:Act) (w:World):Prop where
  ok:∃ Fz κ,Rel bH w0 bG N Fz κ σ a w ∧ (∀ k,k % 2 = 1 → κ k = jN k) ∧ ¬ Fz r ∧ r ∉ blks κ σ.ob ∧ bm ∉ blks κ σ.ob
  it:w.heap[r]? = some (.mapIter (some bm) clock seen clock)
  mp:w.heap[bm]? = some (.map es clock)
  lf:(leftOf es seen).toList.map (·.key) = lk.map lZ
  r0:w0.heap.size ≤ r
  ne:bm ≠ r
theorem OV {w1:World} (h:w1 = w ∨ w1 = w.drew) (r:Nat) (o:Obj):Kp w (setBlock w1 r o) ∧ (setBlock w1 r o).heap.size = w.heap.size ∧ (∀ b,b ≠ r → (setBlock w1 r o).heap[b]? = w.heap[b]?) ∧ (r < w.heap.size → (setBlock w1 r o).heap[r]? = some o):=by
  have e:w1.heap = w.heap ∧ w1.os = w.os ∧ w1.output = w.output:=by rcases h with rfl | rfl <;> exact ⟨rfl,rfl,rfl⟩
  obtain ⟨e1,e2,e3⟩:=e
  refine ⟨⟨e2,e3⟩,by simp [setBlock,e1],fun b hb=>?_,fun hr=>by simp [setBlock,Array.getElem?_setIfInBounds,e1,hr]⟩
  simp only [setBlock,Array.getElem?_setIfInBounds,e1]
  rw [if_neg (fun e=>hb e.symm)]
def Ae (d s ty:Nat) (pos:String) (FE:Array Edge):Oper:={ dst:=some d,op:=.next (.tmp s) false,type:=ty,pos:=pos,after:=FE,guard:=none }
def DZ (d s i ty:Nat) (pos:String) (FE:Array Edge):Oper:={ dst:=some d,op:=.extract (.tmp s) i,type:=ty,pos:=pos,after:=FE,guard:=none }
def BM (d s ty:Nat) (pos:String) (FE:Array Edge):Oper:={ dst:=some d,op:=.entry (.tmp s),type:=ty,pos:=pos,after:=FE,guard:=none }
def BN (d s mt ty:Nat) (pos:String) (FE:Array Edge):Oper:={ dst:=some d,op:=.range mt (.tmp s),type:=ty,pos:=pos,after:=FE,guard:=none }
theorem rM {o:Oper} {v:Value} {ops:Array Oper} {rest:List Oper} {Q:Exit → Act → World → Prop} (hg:o.guard = none) (hr:(execOp a.eval o).run P w = .ok (.value v) w') (h:wpList P ops Q rest (a.put o.dst v) w'):wpList P ops Q (o :: rest) a w:=by
  unfold wpList
  rw [if_pos (show Region.wanted o _ = true by unfold Region.wanted;rw [hg])]
  left
  unfold Oper.wp
  rw [hr]
  exact h
theorem D5 {d s ty:Nat} {pos:String} {FE:Array Edge} {v:Value} {r:Nat} (hs:a.tmps.getD s undef = .pointer (some ⟨r,0,none⟩)) (h:(Instr.next (.pointer (some ⟨r,0,none⟩)) false ty).run P w = .ok v w'):(execOp a.eval (Ae d s ty pos FE)).run P w = .ok (.value v) w':=by
  unfold execOp Ae
  simp [Act.eval,hs,h]
theorem Jg {d s ty:Nat} {pos:String} {FE:Array Edge} {v:Value} {r:Nat} (hs:a.tmps.getD s undef = .pointer (some ⟨r,0,none⟩)) (h:(Instr.entry (.pointer (some ⟨r,0,none⟩))).run P w = .ok v w'):(execOp a.eval (BM d s ty pos FE)).run P w = .ok (.value v) w':=by
  unfold execOp BM
  simp [Act.eval,hs,h]
theorem Jh {d s mt ty b:Nat} {pos:String} {FE:Array Edge} {v:Value} (hs:a.tmps.getD s undef = .map (some b)) (h:(Instr.range mt (.map (some b))).run P w = .ok v w'):(execOp a.eval (BN d s mt ty pos FE)).run P w = .ok (.value v) w':=by
  unfold execOp BN
  simp [Act.eval,hs,h]
theorem BO {d s i ty:Nat} {pos:String} {FE:Array Edge} {v:Value} {vs:Array Value} (hs:a.tmps.getD s undef = .tuple vs) (h:vs[i]? = some v):(execOp a.eval (DZ d s i ty pos FE)).run P w = .ok (.value v) w:=by
  unfold execOp DZ
  simp [Act.eval,hs,Instr.extract,h]
theorem vL {ty r bm clock:Nat} {seen:Array Nat} {es:Array MapEntry} (hr:w.heap[r]? = some (.mapIter (some bm) clock seen clock)) (hb:w.heap[bm]? = some (.map es clock)) (hB:Mq.Bn es clock) :
    ((leftOf es seen).size = 0 ∧ (Instr.next (.pointer (some ⟨r,0,none⟩)) false ty).run P w = .ok (.tuple #[.bool false]) w) ∨
    ∃ e ∈ (leftOf es seen).toList,∃ w1:World,(w1 = w ∨ w1 = w.drew) ∧ (Instr.next (.pointer (some ⟨r,0,none⟩)) false ty).run P w = .ok (.tuple #[.bool true,e.key,e.val]) (setBlock w1 r (.mapIter (some bm) clock (seen.push e.born) clock)) :=
  run_next_at w ty r bm clock clock seen es clock hr hb hB.2 (Nat.le_refl _)
theorem Ji (hm:P.follows .mixedOrders = true) (heq:∀ t ∈ X.eqs,kV P t) (kJ:iE P Γ) (hC:eu P Γ) {b:Code} {i5 i6 b0 b1 sit sn sb se sk t1 t2 t3 t4:Nat} {p1 p2 p3 p4:String} {f1 f2 f3 f4:Array Edge} {FH:Array Oper} {l6:List Oper} {g6:List G} {k6 ks os:List Nat} {cb:CC} {hb rb:List Hi}
    (h6:FH.toList = BM se sit t3 p3 f3 :: DZ sk se 0 t4 p4 f4 :: l6) (hc6:jF P X FH N.ok l6 = some g6) (hcb:comp P X N.ok b hb = some (cb,rb))
    (hok:N.ok sn = true ∧ N.ok sb = true ∧ N.ok se = true ∧ N.ok sk = true) (hd1:sn ≠ sb ∧ se ≠ sk) (hks:sn ∉ ks ∧ sb ∉ ks ∧ se ∉ ks) (hos:True)
    {r bm clock:Nat} {es:Array MapEntry} (hB:Mq.Bn es clock) (hit:N.ok sit = false ∧ N.vs sit = .pointer (some ⟨r,0,none⟩)) {τ:St} {Q:Exit → Act → World → Prop} (hQ:∀ a' w',Ok bH w0 bG N jN τ a' w' → Q (.exit b0) a' w') :
    ∀ (n:Nat) (lk:List KV) (seen:Array Nat) (σ:St) (a:Act) (w:World),lk.length = n → Rg bH w0 bG N jN r bm es clock seen lk σ a w → (∀ p ∈ σ.tm,p.1 ∈ ks) → (∀ m:List KV,m.Perm lk → yg (oZ Γ F ks os sk g6 k6 cb) σ m = some τ) →
      Code.rounds P (.seq (.region i5 #[Ae sn sit t1 p1 f1,DZ sb sn 0 t2 p2 f2] false) (.seq (.cond (.tmp sb) .skip (.exit b0)) (.block b1 (.seq (.region i6 FH false) b)))) Q (n + 1) a w:=by
  intro n
  induction n with
  | zero =>
    intro lk seen σ a w hn hR hσ hf
    obtain ⟨Fz,κ,hr,hk,g1,g2,g3⟩:=hR.ok
    have hits:a.tmps.getD sit undef = .pointer (some ⟨r,0,none⟩):=(hr.fs sit hit.1).trans hit.2
    have hlk:lk = []:=List.length_eq_zero_iff.mp hn
    subst hlk
    have hz:(leftOf es seen).toList = []:=by have:=hR.lf;simpa using this
    rw [rounds_succ]
    refine wp_seq (wp_region_list ?_)
    show wpList P _ _ [Ae sn sit t1 p1 f1,DZ sb sn 0 t2 p2 f2] a w
    rcases vL (P:=P) (ty:=t1) hR.it hR.mp hB with ⟨-,hrun⟩ | ⟨e,he,_⟩
    · refine rM rfl (D5 hits hrun) (rM rfl (BO (i:=0) (v:=.bool false) (vs:=#[.bool false]) ?_ rfl) ?_)
      · exact (nI hr.sz (N.lt _ hok.1) _ _).trans (if_pos rfl)
      · have h1:=(hr.Jf hok.1 (fun p hp e=>hks.1 (e ▸ hσ p hp)) (.tuple #[.bool false]))
        have h2:=h1.Jf hok.2.1 (fun p hp e=>hks.2.1 (e ▸ hσ p hp)) (.bool false)
        refine wp_seq (wp_cond_false (show _ = _ from (nI h1.sz (N.lt _ hok.2.1) _ _).trans (if_pos rfl)) (wp_exit ?_))
        have:=hf [] (List.Perm.refl _)
        cases this
        exact hQ _ _ ⟨Fz,κ,h2,hk⟩
    · rw [hz] at he;cases he
  | succ n ih =>
    intro lk seen σ a w hn hR hσ hf
    obtain ⟨Fz,κ,hr,hk,g1,g2,g3⟩:=hR.ok
    have hits:a.tmps.getD sit undef = .pointer (some ⟨r,0,none⟩):=(hr.fs sit hit.1).trans hit.2
    have hlen:(leftOf es seen).toList.length = lk.length:=by have:=congrArg List.length hR.lf;simpa using this
    rw [rounds_succ]
    refine wp_seq (wp_region_list ?_)
    show wpList P _ _ [Ae sn sit t1 p1 f1,DZ sb sn 0 t2 p2 f2] a w
    rcases vL (P:=P) (ty:=t1) hR.it hR.mp hB with ⟨hz, -⟩ | ⟨e,he,w1,hw1,hrun⟩
    · rw [Array.length_toList] at hlen;omega
    obtain ⟨i,hi,rfl⟩:=List.getElem_of_mem he
    generalize he':(leftOf es seen).toList[i] = e at hrun he
    have hil:i < lk.length:=by omega
    obtain ⟨k,hkk⟩:∃ k,k = lk[i]:=⟨_,rfl⟩
    have hkey:e.key = lZ k:=by
      have:=congrArg (fun l:List Value=>l[i]?) hR.lf
      simp only [List.getElem?_map,List.getElem?_eq_getElem hi,List.getElem?_eq_getElem hil,Option.map_some,Option.some.injEq] at this
      rw [hkk,← he'];exact this
    have hmem:e ∈ es.toList:=by
      exact (mem_left he).1
    have aeF:r < w.heap.size:=(Array.getElem?_eq_some_iff.mp hR.it).1
    have hblt:bm < w.heap.size:=(Array.getElem?_eq_some_iff.mp hR.mp).1
    obtain ⟨d1,d2,d3,d4⟩:=OV hw1 r (.mapIter (some bm) clock (seen.push e.born) clock)
    generalize setBlock w1 r (.mapIter (some bm) clock (seen.push e.born) clock) = u at hrun d1 d2 d3 d4
    have hur:=d4 aeF
    have hub:u.heap[bm]? = some (.map es clock):=(d3 bm hR.ne).trans hR.mp
    have hperm:(k :: lk.eraseIdx i).Perm lk:=by rw [hkk];exact yt lk i hil
    obtain ⟨σ',hst,hf'⟩:∃ σ',oZ Γ F ks os sk g6 k6 cb σ k = some σ' ∧ ∀ m:List KV,m.Perm (lk.eraseIdx i) → yg (oZ Γ F ks os sk g6 k6 cb) σ' m = some τ:=by
      have h0:=hf _ hperm
      obtain ⟨σ',h1,_⟩:=zbm h0
      refine ⟨σ',h1,fun m hm'=>?_⟩
      have h2:=hf (k :: m) ((hm'.cons k).trans hperm)
      obtain ⟨ahj,h3,h4⟩:=zbm h2
      rw [h1] at h3
      cases h3
      exact h4
    obtain ⟨t,RY,hst⟩:=zbm hst
    obtain ⟨p,hEb,hst⟩:=zbm hst
    cases hp:p.1 with
    | ext j=>rw [hp] at hst;cases hst
    | ret=>rw [hp] at hst;cases hst
    | ji =>
    rw [hp] at hst
    cases hst
    refine rM rfl (D5 hits hrun) (rM rfl (BO (i:=0) (v:=.bool true) (vs:=#[.bool true,e.key,e.val]) ?_ rfl) ?_)
    · exact (nI hr.sz (N.lt _ hok.1) _ _).trans (if_pos rfl)
    have h0:=hr.aside d2 d3 hR.r0 g1 g2 d1
    have h1:=(h0.Jf hok.1 (fun p hp e=>hks.1 (e ▸ hσ p hp)) (.tuple #[.bool true,e.key,e.val]))
    have h2:=h1.Jf hok.2.1 (fun p hp e=>hks.2.1 (e ▸ hσ p hp)) (.bool true)
    refine wp_seq (wp_cond_true (show _ = _ from (nI h1.sz (N.lt _ hok.2.1) _ _).trans (if_pos rfl)) (wp_skip ?_))
    refine wp_block (wp_seq (wp_region_list ?_))
    rw [h6]
    have Y2:=(h2.fs sit hit.1).trans hit.2
    refine rM rfl (Jg Y2 (run_entry_at u r bm clock seen es clock e hur hub hmem hB.1)) (rM rfl (BO (i:=0) (v:=e.key) (vs:=#[e.key,e.val]) ?_ rfl) ?_)
    · exact (nI h2.sz (N.lt _ hok.2.2.1) _ _).trans (if_pos rfl)
    have h3:=h2.Jf hok.2.2.1 (fun p hp e=>hks.2.2 (e ▸ hσ p hp)) (.tuple #[e.key,e.val])
    have h4:=h3.put hok.2.2.2 (pv:=.c (Y1 k)) (v:=e.key) (by rw [hkey];exact UJ k)
    refine Fa heq kJ hC hc6 ⟨Fz,κ,h4.base,hk⟩ RY fun a5 u5 k5=>?_
    show b.wp P _ a5 u5
    refine zZ hm heq kJ hC b hcb (k5.keep k6) hEb fun a6 u6 k7=>?_
    rw [hp]
    show Code.rounds P _ Q (n + 1) a6 u6
    obtain ⟨F6,κ6,Y3,hk6⟩:=k7
    have hrb:r ∉ blks κ σ.ob:=g2
    have hbb:bm ∉ blks κ σ.ob:=g3
    have hru:r < u.heap.size:=by omega
    have hbu:bm < u.heap.size:=by omega
    have nob:∀ x,x < u.heap.size → x ∉ blks κ σ.ob → x ∉ blks κ6 (pick os p.2.ob):=fun x hx hnx hmx=>by
      obtain ⟨q,hq,hqb⟩:=nH.mp hmx
      rcases (Y3.pos q (iq hq) x hqb).2.2 with g | g
      · exact hnx g
      · omega
    refine ih (lk.eraseIdx i) (seen.push e.born) _ a6 u6 ?_ ⟨⟨F6,κ6,(h4.UK Y3).res ks os,hk6,fun hx=>?_,nob r hru hrb,nob bm hbu hbb⟩,?_,?_,?_,hR.r0,hR.ne⟩ (fun q hq=>tu hq) hf'
    · rw [List.length_eraseIdx,if_pos hil];omega
    · rcases (Y3.fz r hx).2 with g | g | g
      · exact g1 g
      · exact hrb g
      · omega
    · exact (Y3.ext r hru hrb).trans hur
    · exact (Y3.ext bm hbu hbb).trans hub
    · rw [Je,← he',tq (fun x:MapEntry=>x.born) _ i hi ?_,Mq.kP,Mq.kP,hR.lf]
      have:(leftOf es seen).toList.Sublist es.toList:=by unfold leftOf;rw [Array.toList_filter];exact List.filter_sublist
      exact (this.map _).nodup hB.1
theorem Rel.narrow (h:Rel bH w0 bG N Fz κ σ a w) (hn:N.ds = []) (s:Nat):Rel bH w0 bG ⟨N.n,[],fun d=>N.ok d && !(d == s),fun d hd=>N.lt d (by rw [Bool.and_eq_true] at hd;exact hd.1),fun d=>a.tmps.getD d undef⟩ Fz κ σ a w :=
  ⟨h.tm,h.sz,h.nu.trans hn,fun _ _=>rfl,h.ob,h.sK,h.pos,h.fz,h.wF,h.big,h.ext,h.kp⟩
theorem FI (hm:P.follows .mixedOrders = true) (heq:∀ t ∈ X.eqs,kV P t) (kJ:iE P Γ) (hC:eu P Γ) {f:FuncId} {fn:Func} {a1 a2 a3 b c:Code} {i4 i5 i6 b0 b1 sit sn sb se sk sm mt kt et t0 t1 t2 t3 t4:Nat} {p0 p1 p2 p3 p4:String} {f0 f1 f2 f3 f4:Array Edge} {Jj FH:Array Oper} {l6:List Oper} {g4 g6:List G} {k6 ks os:List Nat} {cf:CF} {ca cb cc:CC} {ha hb hc ra rb rc:List Hi}
    (hf:P.funcs[f]? = some fn)
    (hbd:fn.body = some (.seq a1 (.seq a2 (.seq a3 (.seq (.seq (.region i4 Jj false) (.block b0 (.loop (.seq (.region i5 #[Ae sn sit t1 p1 f1,DZ sb sn 0 t2 p2 f2] false) (.seq (.cond (.tmp sb) .skip (.exit b0)) (.block b1 (.seq (.region i6 FH false) b))))))) c)))))
    (h4:Jj.toList.getLast? = some (BN sit sm mt t0 p0 f0)) (h6:FH.toList = BM se sit t3 p3 f3 :: DZ sk se 0 t4 p4 f4 :: l6) (hmt:P.underlying mt = some (.map kt et))
    (hca:comp P X (IK fn.ntmps) (.seq a1 (.seq a2 a3)) ha = some (ca,ra)) (hc4:jF P X Jj (IK fn.ntmps) Jj.toList.dropLast = some g4) (hc6:jF P X FH (fun d=>IK fn.ntmps d && !(d == sit)) l6 = some g6)
    (hcb:comp P X (fun d=>IK fn.ntmps d && !(d == sit)) b hb = some (cb,rb)) (hcc:comp P X (fun d=>IK fn.ntmps d && !(d == sit)) c hc = some (cc,rc)) (hr:mM P fn.results.toList = some cf.res) (hnp:cf.np ≤ fn.ntmps)
    (hlt:sit < fn.ntmps ∧ sn < fn.ntmps ∧ sb < fn.ntmps ∧ se < fn.ntmps ∧ sk < fn.ntmps) (hd0:sn ≠ sit ∧ sb ≠ sit ∧ se ≠ sit ∧ sk ≠ sit) (hd1:sn ≠ sb ∧ se ≠ sk) (aeG:sit ∉ ks) (hks:sn ∉ ks ∧ sb ∉ ks ∧ se ∉ ks)
    (F:Nat):Sat P f (LD Γ F ca g4 sm ks os sk g6 k6 cb cc cf):=by
  intro fV rs rH hE Fz w vals bs VQ hnd hap hfz
  unfold LD at hE
  split at hE
  · cases hE
  rename_i hlen
  have hlen':fV.length = cf.np:=Decidable.not_not.mp hlen
  have hvl:vals.length = fV.length:=VQ.len
  obtain ⟨e,h1,hE0⟩:=zbm hE
  clear hE
  obtain ⟨p,h2,hE1⟩:=zbm hE0
  clear hE0
  refine calls_of_wp hf hbd ?_
  have hsz:(vals.toArray ++ Array.replicate (fn.ntmps - vals.toArray.size) undef).size = fn.ntmps:=by simp;omega
  obtain ⟨jN,hok,g2⟩:=entered (bo:=cf.bo) VQ hnd hap hfz hsz h1
  have done:∀ (N:Fr) (σ:St) a' w',N.ds = [] → Ok Fz w bs N jN σ a' w' → fin cf e.1 fV σ = some (rs,rH) → a'.defers = [] ∧ ∃ v,(results fn a'.tmps).run P w' = .ok v w' ∧ ∃ bK uS b1 b2,Ending.returned v = .returned (ret uS) ∧ Post Fz w vals bs rs rH bK w' uS b1 b2:=by
    intro N σ a' w' hN hO hF
    obtain ⟨k1,k2⟩:=Ld hr VQ hap hfz g2 a' w' hO hF
    exact ⟨k1.trans hN,k2⟩
  obtain ⟨x1,hx1,hx2⟩:=zbm hca
  obtain ⟨x2,hx3,hx4⟩:=zmm hx2
  cases hx4
  obtain ⟨z1,hz1,hz2⟩:=zbm hx3
  obtain ⟨z2,hz3,hz4⟩:=zmm hz2
  cases hz4
  obtain ⟨y1,hy1,hy2⟩:=zbm h2
  refine wp_seq (zZ hm heq kJ hC a1 hx1 hok hy1 fun b1 u1 k1=>?_)
  cases hy:y1.1 with
  | ext j=>rw [hy] at hy2;cases hy2;cases hE1
  | ret=>rw [hy] at hy2;cases hy2;exact done _ _ _ _ rfl k1 hE1
  | ji =>
  rw [hy] at hy2
  obtain ⟨y2,hy3,hy4⟩:=zbm hy2
  refine wp_seq (zZ hm heq kJ hC a2 hz1 k1 hy3 fun b2 u2 k2=>?_)
  cases hyy:y2.1 with
  | ext j=>rw [hyy] at hy4;cases hy4;cases hE1
  | ret=>rw [hyy] at hy4;cases hy4;exact done _ _ _ _ rfl k2 hE1
  | ji =>
  rw [hyy] at hy4
  refine wp_seq (zZ hm heq kJ hC a3 hz3 k2 hy4 fun b3 u3 k3=>?_)
  cases hp:p.1 with
  | ext j=>rw [hp] at hE1;cases hE1
  | ret=>rw [hp] at hE1;exact done _ _ _ _ rfl k3 hE1
  | ji =>
  rw [hp] at hE1
  obtain ⟨t,hE4,hE2⟩:=zbm hE1
  obtain ⟨l,hl,hE3⟩:=zbm hE2
  obtain ⟨τ,Y4,hE5⟩:=zbm hE3
  obtain ⟨q,hEc,RY⟩:=zbm hE5
  clear hE1 hE2 hE3 hE5
  show (Code.seq _ c).wp P _ b3 u3
  refine wp_seq (wp_seq (wp_region_list ?_))
  have h4':Jj.toList = Jj.toList.dropLast ++ [BN sit sm mt t0 p0 f0]:=by
    obtain ⟨ys,hy⟩:=List.getLast?_eq_some_iff.mp h4
    rw [hy,List.dropLast_concat]
  rw [h4']
  refine G7 heq kJ hC hc4 k3 hE4 fun b4 u4 k4=>?_
  obtain ⟨F4,κ4,hr4,hk4⟩:=k4
  unfold yj at hl
  split at hl
  case h_2=>cases hl
  rename_i key hkey
  split at hl
  · cases hl
  rename_i aeH
  split at hl
  case h_2=>cases hl
  rename_i sh ents fU
  cases hl
  obtain ⟨bm,hb1,m,hAt,hRE, -⟩:=hr4.obj fU
  obtain ⟨es,clock,m0,m1,m2,hB⟩:=hAt.ex
  have hv:b4.tmps.getD sm undef = .map (some bm):=by
    have:jk F4 κ4 u4 (.c (.one (.mp key))) (b4.tmps.getD sm undef):=hr4.val hkey
    exact this.1.trans hb1
  have hpos:=hr4.pos _ (get_mem fU) bm (by rw [hb1];rfl)
  have hgr:∀ x,x < u4.heap.size → (u4.alloc (.mapIter (some bm) clock #[] clock)).heap[x]? = u4.heap[x]?:=fun x hx=>(jU u4 _).2.1 x hx
  have hnew:=(jU u4 (.mapIter (some bm) clock #[] clock)).1
  have ahk:=(jU u4 (.mapIter (some bm) clock #[] clock)).2.2
  refine rM rfl (Jh hv (run_range_map u4 mt kt et bm es clock hmt m0)) ?_
  have h5:=hr4.grow (w':=u4.alloc (.mapIter (some bm) clock #[] clock)) (by omega) hgr ⟨rfl,rfl⟩
  have h6':=(h5.less (σ':=yh ks os t) (fun p hp=>iq hp) (fun p hp=>iq hp)).Jf (show (Fr.of fn.ntmps).ok sit = true by simpa [Fr.of,IK] using hlt.1) (fun p hp e=>aeG (e ▸ tu hp)) (.pointer (some ⟨u4.heap.size,0,none⟩))
  have aeI:(b4.put (some sit) (.pointer (some ⟨u4.heap.size,0,none⟩))).tmps.getD sit undef = .pointer (some ⟨u4.heap.size,0,none⟩):=(nI h5.sz hlt.1 _ sit).trans (if_pos rfl)
  have h7:=h6'.narrow rfl sit
  unfold Ad at Y4
  split at Y4
  case isFalse=>cases Y4
  rename_i hall
  obtain ⟨τ',hall⟩:=hall
  rw [hall _ (List.Perm.refl _)] at Y4
  cases Y4
  have sl:∀ d,d < fn.ntmps → d ≠ sit → (IK fn.ntmps d && !(d == sit)) = true:=fun d h1 h2=>by simp [IK,h1,h2]
  show (Code.block b0 _).wp P _ _ _
  have hbm:bm < u4.heap.size:=hpos.2.1
  refine wp_block (wp_loop_rounds ((ents.map (·.1)).length + 1) (Ji (τ:=τ) hm heq kJ hC h6 hc6 hcb ⟨sl _ hlt.2.1 hd0.1,sl _ hlt.2.2.1 hd0.2.1,sl _ hlt.2.2.2.1 hd0.2.2.1,sl _ hlt.2.2.2.2 hd0.2.2.2⟩ hd1 hks trivial hB ⟨by simp,aeI⟩ (fun a' w' hO=>?_) _ (ents.map (·.1)) #[] (yh ks os t) _ _ rfl
    ⟨⟨F4,κ4,h7,hk4,fun hx=>?_,fun hx=>?_,fun hx=>?_⟩,hnew,(hgr bm hbm).trans m0,?_,hr4.big,Nat.ne_of_lt hbm⟩ (fun p hp=>tu hp) hall))
  · show if b0 = b0 then _ else _
    rw [if_pos rfl]
    show c.wp P _ a' w'
    refine zZ hm heq kJ hC c hcc hO hEc fun a8 w8 k8=>?_
    cases hq:q.1 with
    | ext j=>rw [hq] at RY;cases RY
    | ji=>rw [hq] at RY;exact done _ _ _ _ rfl k8 RY
    | ret=>rw [hq] at RY;exact done _ _ _ _ rfl k8 RY
  · have:=(hr4.fz _ hx).1;omega
  · obtain ⟨z,hz,hzb⟩:=nH.mp hx
    have:=(hr4.pos z (iq hz) _ hzb).2.1;omega
  · obtain ⟨z,hz,hzb⟩:=nH.mp hx
    have hne:z.1 ≠ key:=fun e=>by
      have:=tu hz
      rw [e] at this
      exact aeH (List.elem_iff.mpr this)
    exact hr4.sK z (iq hz) _ (get_mem fU) bm hne hzb (by rw [hb1];rfl)
  · have he:(leftOf es #[]).toList = es.toList:=by
      unfold leftOf
      rw [Array.toList_filter]
      exact List.filter_eq_self.mpr fun e _=>by simp
    rw [he,m1,hRE.keys,List.map_map]
    rfl
end
end Go.Proofs.Ytdkkgecdhapfhaa.Ev
set_option maxRecDepth 4000
namespace Go.Proofs.Ytdkkgecdhapfhaa.Ev
open Go
section
variable {Γ : Env} {F s sm:Nat} {ks os k6:List Nat} {g4 g6:List G} {ca cb cc:CC} {cf:CF} {fV:List AV} {mH:List CV} {σ:St} {kk:KV}
def WU : Out → (Unit → Prop) → (Unit → Prop) → Prop
  | .ret,A,_=>A ()
  | .ji,_,B=>B ()
  | .ext _,_,_=>False
@[go_sem] theorem abZ {A B:Unit → Prop}:WU .ret A B ↔ A ():=Iff.rfl
@[go_sem] theorem ab0 {A B:Unit → Prop}:WU .ji A B ↔ B ():=Iff.rfl
def kB : Option Ob → Option (List KV)
  | some (.map _ ents)=>some (ents.map (·.1))
  | _=>none
def kA (os:List Nat) (ob:List (Nat × Ob)):Option PV → Option (List KV)
  | some (.c (.one (.mp key)))=>if os.contains key then none else kB (get ob key)
  | _=>none
@[go_sem] theorem aeJ {sh:KS} {ents:List (KV × FC)}:kB (some (.map sh ents)) = some (ents.map (·.1)):=rfl
@[go_sem] theorem WV : yj σ os s = kA os σ.ob (get σ.tm s):=rfl
@[go_sem] theorem Y5 : yh ks os σ = ⟨pick ks σ.tm,pick os σ.ob⟩:=rfl
@[go_sem ↓] theorem af6 {k:List AV × List AV → Prop} {u:Tok k}:W k u (fin cf mH fV σ) ↔ W (fun b=>W (fun l=>W (fun r=>k (r.1,b.1)) ⟨⟩ (ou cf.ro b.2 l)) ⟨⟩ (slots b.2 cf.res)) ⟨⟩ (lC σ mH fV):=by
  simp only [fin,dV,bB,cu]
@[go_sem ↓] theorem ab1 {k:St → Prop} {u:Tok k}:W k u (oZ Γ F ks os s g6 k6 cb σ kk) ↔ W (fun t=>W (fun p=>p.1 = .ji ∧ k (yh ks os p.2)) ⟨⟩ (ev Γ F cb ⟨pick k6 t.tm,t.ob⟩)) ⟨⟩ (wE Γ false g6 ⟨put σ.tm s (.c (Y1 kk)),σ.ob⟩):=by
  simp only [oZ,dV,bB]
  refine dx fun t=>dx fun p=>?_
  obtain ⟨o,σ'⟩:=p
  cases o <;> simp [l7,bJ]
@[go_sem ↓] theorem aeK {k:List AV × List AV → Prop} {u:Tok k}:W k u (LD Γ F ca g4 sm ks os s g6 k6 cb cc cf fV) ↔ fV.length = cf.np ∧ W (fun e=>W (fun p=>WU p.1 (fun _=>W k ⟨⟩ (fin cf e.1 fV p.2)) (fun _=>W (fun t=>W (fun l=>W (fun t=>W (fun q=>(∀ id,q.1 ≠ .ext id) ∧ W k ⟨⟩ (fin cf e.1 fV q.2)) ⟨⟩ (ev Γ F cc t)) ⟨⟩ (Ad (oZ Γ F ks os s g6 k6 cb) (yh ks os t) l)) ⟨⟩ (yj t os sm)) ⟨⟩ (wE Γ false g4 p.2))) ⟨⟩ (ev Γ F ca e.2)) ⟨⟩ (enter cf.bo 0 [] ⟨[],[]⟩ fV):=by
  simp only [LD,dV,dH,bB,ne_eq,Decidable.not_not]
  refine and_congr Iff.rfl (dx fun e=>dx fun p=>?_)
  obtain ⟨o,σ'⟩:=p
  cases o with
  | ext i=>simp [l7,WU]
  | ret=>simp only [WU]
  | ji =>
    simp only [WU,bB]
    refine dx fun t=>dx fun l=>dx fun t'=>dx fun q=>?_
    obtain ⟨o,σ'⟩:=q
    cases o <;> simp [l7]
theorem LG {step:St → KV → Option St} {σ τ:St} {l:List KV} (h:∀ m:List KV,m.Perm l → yg step σ m = some τ):Ad step σ l = some τ:=by
  unfold Ad
  rw [if_pos ⟨τ,h⟩]
  exact h l (List.Perm.refl _)
end
end Go.Proofs.Ytdkkgecdhapfhaa.Ev
namespace Go.Proofs.Ytdkkgecdhapfhaa.Kn
open Go Ev
variable {ext : Env} {F n:Nat} {θ:Th} {gt:ByteArray → Int → Int → Int × Bool}
def rA : CC:=(.seq (.reg [⟨(some 4),none,(.mv (.k (.one (.f (.int .i64 0)))))⟩] [0,1]) (.seq (.seq (.reg [⟨(some 8),none,(.mv (.t 0))⟩,⟨(some 9),none,(.oC false (.t 8))⟩] [0,1,9]) (.cond (.t 9) (.seq (.reg [⟨(some 4),none,(.mv (.k (.one (.f (.int .i64 0)))))⟩] [4]) .ret) .skip)) (.reg [⟨(some 10),none,(.mv (.t 0))⟩,⟨(some 11),none,(.lK (.t 10))⟩,⟨(some 12),none,(.fa 1 (.t 11))⟩,⟨(some 13),none,(.load 1 false (.t 12))⟩,⟨(some 14),none,(.CS (.t 13))⟩,⟨(some 5),none,(.mv (.t 14))⟩] [0,1,5])))
def rG4 : List Ev.G:=[⟨(some 15),none,(.mv (.t 0))⟩,⟨(some 16),none,(.lK (.t 15))⟩,⟨(some 17),none,(.fa 1 (.t 16))⟩,⟨(some 18),none,(.load 1 false (.t 17))⟩,⟨(some 19),none,(.call false 82 [(.t 18)])⟩]
def UL : List Ev.G:=[⟨(some 6),none,(.alloc 32 [(.f (.str ⟨#[]⟩)),(.f (.int .i64 0)),(.f (.int .i64 0))])⟩,⟨none,none,(.store 3 (.t 6) (.t 24))⟩]
def rB : CC:=(.seq (.reg [⟨(some 25),none,(.fa 0 (.t 6))⟩,⟨(some 26),none,(.load 1 false (.t 25))⟩,⟨(some 27),none,(.mv (.t 1))⟩,⟨(some 28),none,(.qM (.one .str) false (.t 26) (.t 27))⟩] [0,1,5,6,20,28]) (.cond (.t 28) (.seq (.vV [⟨⟨(some 29),none,(.mv (.t 0))⟩,[]⟩,⟨⟨(some 30),none,(.lK (.t 29))⟩,[]⟩,⟨⟨(some 31),none,(.fa 1 (.t 30))⟩,[]⟩,⟨⟨(some 32),none,(.load 1 false (.t 31))⟩,[]⟩,⟨⟨(some 33),none,(.load 3 true (.t 6))⟩,[]⟩] [] [] [⟨none,none,(.del (.agg [.str,(.int .i64),(.int .i64)]) (.t 32) (.t 33))⟩] [0,1,5,6,20]) (.vV [⟨⟨(some 34),none,(.mv (.t 0))⟩,[]⟩,⟨⟨(some 35),none,(.mv (.t 0))⟩,[]⟩,⟨⟨(some 36),none,(.lK (.t 35))⟩,[]⟩,⟨⟨(some 37),none,(.fa 2 (.t 36))⟩,[]⟩,⟨⟨(some 38),none,(.load 1 false (.t 37))⟩,[]⟩,⟨⟨(some 39),none,(.load 3 true (.t 6))⟩,[]⟩,⟨⟨(some 40),none,(.call false 69 [(.t 38),(.t 39)])⟩,[]⟩] [] [] [⟨(some 41),none,(.lK (.t 34))⟩,⟨(some 42),none,(.fa 2 (.t 41))⟩,⟨none,none,(.store 1 (.t 42) (.t 40))⟩] [0,1,5,20])) .skip))
def rC : CC:=(.seq (.reg [⟨(some 43),none,(.mv (.t 5))⟩,⟨(some 44),none,(.mv (.t 0))⟩,⟨(some 45),none,(.lK (.t 44))⟩,⟨(some 46),none,(.fa 1 (.t 45))⟩,⟨(some 47),none,(.load 1 false (.t 46))⟩,⟨(some 48),none,(.CS (.t 47))⟩,⟨(some 49),none,(.ar .sub (.t 43) (.t 48))⟩,⟨(some 7),none,(.mv (.t 49))⟩] [0,7]) (.seq (.seq (.reg [⟨(some 50),none,(.mv (.t 7))⟩,⟨(some 51),none,(.cmp .gt (.t 50) (.k (.one (.f (.int .i64 0)))))⟩] [0,7,51]) (.cond (.t 51) (.reg [⟨(some 52),none,(.mv (.t 0))⟩,⟨(some 53),none,(.lK (.t 52))⟩,⟨(some 54),none,(.fa 3 (.t 53))⟩,⟨(some 55),none,(.load 1 false (.t 54))⟩,⟨(some 56),none,(.ar .add (.t 55) (.k (.one (.f (.int .i64 1)))))⟩,⟨(some 57),none,(.lK (.t 52))⟩,⟨(some 58),none,(.fa 3 (.t 57))⟩,⟨none,none,(.store 1 (.t 58) (.t 56))⟩] [7]) .skip)) (.seq (.reg [⟨(some 59),none,(.mv (.t 7))⟩,⟨(some 4),none,(.mv (.t 59))⟩] [4]) .ret)))
def cDr : CF:=⟨2,[(.t 4)],[],[],.skip⟩
noncomputable abbrev UM (ext:Env) (F n:Nat):List AV → Option (List AV × List AV):=LD (G ext F n) F rA rG4 19 [0,1,5] [20201,20205,20208,820200] 24 UL [0,1,5,6] rB rC cDr
structure UN (ext:Env):Prop where
  mc:∀ m:List Nt,ext 82 [.one (.mp Ny (m.map ent))] = some ([.one (.mp Ny (m.map ent))],[.one (.mp Ny (m.map ent))])
theorem Y6 (M:UN ext) (m:List Nt):G ext F (n + 1) 82 [.one (.mp Ny (m.map ent))] = some ([.one (.mp Ny (m.map ent))],[.one (.mp Ny (m.map ent))]):=(congrFun (mY rfl) _).trans (M.mc m)
def dS (s:Nv) (was:Int) (q:ByteArray):St:=⟨[(0,PV.c (CV.one (PL.ptr 20201 0))),(1,PV.c (CV.one (PL.f (FV.str q)))),(5,PV.c (CV.one (PL.f (FV.int IntKind.i64 was))))],[(20201,Ob.ni [PL.f (FV.int IntKind.i64 s.room),PL.mp 20205,PL.f (FV.sl (List.map rQ s.o)),PL.f (FV.int IntKind.i64 s.ch)]),(20205,Ob.map Ny (s.m.map ent))]⟩
def qV (q:ByteArray) (s:Nv) (k:Qn):Nv:=if k.q = q then ⟨s.room,rid s.m k,DR s.o k,s.ch⟩ else s
theorem BP (k:Qn):Y1 (kq k) = .agg [.f (.str k.q),.f (.int .i64 k.t),.f (.int .i64 k.c)]:=rfl
theorem LH (C:qE ext) (hF:200000000000001 ≤ F) (s:Nv) (was:Int) (q:ByteArray) (k:Qn) (ho:s.o.length ≤ 1000000):oZ (G ext F (n + 4)) F [0,1,5] [20201,20205,20208,820200] 24 UL [0,1,5,6] rB (dS s was q) (kq k) = some (dS (qV q s k) was q):=by
  refine I6 ?_
  have h1:=fun n=>DT (ext:=ext) (F:=F) (n:=n) C s.o k ho hF
  have hdl:=DV s.m k
  by_cases h:k.q = q
  · have e:qV q s k = ⟨s.room,rid s.m k,DR s.o k,s.ch⟩:=if_pos h
    have h':decide (k.q = q) = true:=decide_eq_true h
    rw [e]
    simp only [dS,BP]
    simp only [UL,rB,BP,h',h1,hdl,dS,go_sem,Nat.reduceAdd,Nat.reduceMul,Nat.reduceEqDiff,Nat.reduceBEq,Nat.reduceMod,Nat.reduceDiv,↓reduceIte,reduceCtorEq]
  · have e:qV q s k = s:=if_neg h
    have h':decide (k.q = q) = false:=decide_eq_false h
    rw [e]
    simp only [dS,BP]
    simp only [UL,rB,BP,h',dS,go_sem,Nat.reduceAdd,Nat.reduceMul,Nat.reduceEqDiff,Nat.reduceBEq,Nat.reduceMod,Nat.reduceDiv,↓reduceIte,reduceCtorEq]
theorem D6 (C:qE ext) (hF:200000000000001 ≤ F) (was:Int) (q:ByteArray):∀ (l:List Qn) (s:Nv),s.o.length ≤ 1000000 → yg (oZ (G ext F (n + 4)) F [0,1,5] [20201,20205,20208,820200] 24 UL [0,1,5,6] rB) (dS s was q) (l.map kq) = some (dS (l.foldl (qV q) s) was q)
  | [],s,_=>rfl
  | k :: l,s,ho=>by
    show (oZ _ _ _ _ _ _ _ _ _ _).bind _ = _
    rw [LH C hF s was q k ho]
    refine D6 C hF was q l (qV q s k) ?_
    unfold qV
    split
    · exact Nat.le_trans BL ho
    · exact ho
theorem FJ {l:List Nt} {a:Qn} (h:(ks l).Nodup):rid l a = l.filter fun x=>decide (x.k ≠ a):=by
  induction l with
  | nil=>rfl
  | cons x l ih =>
    have hc:=List.nodup_cons.mp h
    rw [LA,List.filter_cons]
    by_cases hx:x.k = a
    · rw [if_pos hx,if_neg (by simp [hx])]
      exact (List.filter_eq_self.mpr fun y hy=>by
        simp only [decide_eq_true_eq];rintro e;exact hc.1 (by rw [hx,← e];exact List.mem_map_of_mem hy)).symm
    · rw [if_neg hx,if_pos (by simpa using hx),ih hc.2]
theorem yu (q:ByteArray):∀ (l:List Qn) (s:Nv),(ks s.m).Nodup → l.foldl (qV q) s = ⟨s.room,s.m.filter (fun x=>decide (¬ (x.k ∈ l ∧ x.k.q = q))),s.o.filter (fun x=>decide (¬ (x ∈ l ∧ x.q = q))),s.ch⟩
  | [],s,_=>by
    have e1:s.m.filter (fun x=>decide (¬ (x.k ∈ ([]:List Qn) ∧ x.k.q = q))) = s.m:=List.filter_eq_self.mpr fun _ _=>by simp
    have e2:s.o.filter (fun x=>decide (¬ (x ∈ ([]:List Qn) ∧ x.q = q))) = s.o:=List.filter_eq_self.mpr fun _ _=>by simp
    rw [e1,e2];rfl
  | k :: l,s,h=>by
    rw [List.foldl_cons]
    by_cases hk:k.q = q
    · have e:qV q s k = ⟨s.room,rid s.m k,DR s.o k,s.ch⟩:=if_pos hk
      rw [e,yu q l _ (Jb h),FJ h]
      unfold DR
      simp only [List.filter_filter]
      congr 1
      · refine List.filter_congr fun x _=>?_
        by_cases h1:x.k = k <;> simp [h1,hk]
      · refine List.filter_congr fun x _=>?_
        by_cases h1:x = k <;> simp [h1,hk]
    · have e:qV q s k = s:=if_neg hk
      rw [e,yu q l _ h]
      congr 1
      · refine List.filter_congr fun x _=>?_
        by_cases h1:x.k = k <;> simp [h1,hk]
      · refine List.filter_congr fun x _=>?_
        by_cases h1:x = k <;> simp [h1,hk]
def yw (s:Nv) (q:ByteArray):Nv:=⟨s.room,s.m.filter (fun x=>decide (x.k.q ≠ q)),s.o.filter (fun x=>decide (¬ (x ∈ ks s.m ∧ x.q = q))),s.ch⟩
theorem FL {q:ByteArray} {l:List Qn} {s:Nv} (h:(ks s.m).Nodup) (hl:l.Perm (ks s.m)):l.foldl (qV q) s = yw s q:=by
  rw [yu q l s h]
  unfold yw
  congr 1
  · refine List.filter_congr fun x hx=>?_
    have:x.k ∈ l:=hl.mem_iff.mpr (List.mem_map_of_mem hx)
    simp [this]
  · refine List.filter_congr fun x hx=>?_
    simp only [hl.mem_iff]
def LJ : KV → Qn
  | .agg [.str q,.int _ t,.int _ c]=>⟨q,t,c⟩
  | _=>⟨#[]⟩ |> fun b=>⟨b,0,0⟩
theorem OW (k:Qn):LJ (kq k) = k:=rfl
theorem OX {m:List KV} {l:List Qn} (h:m.Perm (l.map kq)):∃ m':List Qn,m = m'.map kq ∧ m'.Perm l:=by
  refine ⟨m.map LJ,?_,?_⟩
  · rw [List.map_map]
    have:∀ x ∈ m,(kq ∘ LJ) x = id x:=fun x hx=>by
      obtain ⟨k,_,rfl⟩:=List.mem_map.mp (h.mem_iff.mp hx)
      rfl
    exact ((List.map_congr_left this).trans (List.map_id m)).symm
  · have:=h.map LJ
    rw [List.map_map,show (LJ ∘ kq) = id from funext OW,List.map_id] at this
    exact this
def qW (s:Nv) (q:ByteArray):Nv × Int :=
  (⟨s.room,(yw s q).m,(yw s q).o,if 0 < (s.m.length:Int) - (yw s q).m.length then s.ch + 1 else s.ch⟩,(s.m.length:Int) - (yw s q).m.length)
theorem LK (m:List Nt):(m.map ent).map (fun p=>p.1) = (ks m).map kq:=by
  rw [List.map_map,List.map_map];rfl
theorem LM (q:ByteArray):UM ext F (n + 4) [.one .je,vs q] = some ([vi 0],[.one .je,vs q]):=by
  refine I6 ?_
  simp only [UM,rA,cDr,go_sem,Nat.reduceAdd,Nat.reduceMul,Nat.reduceEqDiff,Nat.reduceBEq,Nat.reduceMod,Nat.reduceDiv,↓reduceIte,reduceCtorEq]
theorem LP (C:qE ext) (M:UN ext) (hF:200000000000001 ≤ F) (s:Nv) (q:ByteArray) (h:(ks s.m).Nodup) (ho:s.o.length ≤ 1000000) (hm:s.m.length ≤ 1000000) (hc:0 ≤ s.ch ∧ s.ch ≤ 1000000000000):UM ext F (n + 4) [s.v,vs q] = some ([vi (qW s q).2],[(qW s q).1.v,vs q]):=by
  refine I6 ?_
  have hmc:=fun n=>Y6 (F:=F) (n:=n) M s.m
  have hw:IntKind.i64.wrap (s.ch + 1) = s.ch + 1:=BJ (by omega) (by omega)
  have hle:(yw s q).m.length ≤ s.m.length:=List.length_filter_le ..
  have hw2:IntKind.i64.wrap ((s.m.length:Int) - (yw s q).m.length) = (s.m.length:Int) - (yw s q).m.length:=BJ (by omega) (by omega)
  have hfo:Ad (oZ (G ext F (n + 4)) F [0,1,5] [20201,20205,20208,820200] 24 UL [0,1,5,6] rB) (dS s s.m.length q) ((s.m.map ent).map (fun p=>p.1)) = some (dS (yw s q) s.m.length q):=by
    refine LG fun m hp=>?_
    rw [LK] at hp
    obtain ⟨m',rfl,hp'⟩:=OX hp
    rw [D6 C hF _ q m' s ho,FL h hp']
  have hka:∀ ob,kA [20201,20205,20208,820200] ob (some (.c (.one (.mp 400200)))) = kB (get ob 400200):=fun _=>rfl
  simp only [dS] at hfo
  simp only [UM,rA,rG4,rC,cDr,hmc,hka,List.length_map,hfo,hw2,hw,go_sem,Nat.reduceAdd,Nat.reduceMul,Nat.reduceEqDiff,Nat.reduceBEq,Nat.reduceMod,Nat.reduceDiv,↓reduceIte,reduceCtorEq]
  repeat' (refine fC (fun h=>?_) (fun h=>?_) <;> simp only [h,hw2,hw,go_sem,Nat.reduceAdd,Nat.reduceMul,Nat.reduceEqDiff,Nat.reduceBEq,Nat.reduceMod,Nat.reduceDiv,↓reduceIte,reduceCtorEq])
  all_goals simp only [decide_eq_true_eq,decide_eq_false_iff_not] at *
  · simp only [qW];rw [if_pos h,← hw];rfl
  · simp only [qW];rw [if_neg h];rfl
end Go.Proofs.Ytdkkgecdhapfhaa.Kn
set_option maxRecDepth 4000
namespace Go.Proofs.Ytdkkgecdhapfhaa.Kn
open Go Ev
variable {ext : Env} {F n:Nat} {θ:Th} {gt:ByteArray → Int → Int → Int × Bool}
structure LQ (ext:Env):Prop where
  d0:∀ q,ext 50 [.one .je,vs q] = some ([vi 0],[.one .je,vs q])
  d1:∀ (s:Nv) (q:ByteArray),(ks s.m).Nodup → s.o.length ≤ 1000000 → s.m.length ≤ 1000000 → 0 ≤ s.ch ∧ s.ch ≤ 1000000000000 → ext 50 [s.v,vs q] = some ([vi (qW s q).2],[(qW s q).1.v,vs q])
theorem Jk (D:LQ ext) (q:ByteArray):G ext F (n + 1) 50 [.one .je,vs q] = some ([vi 0],[.one .je,vs q]):=(congrFun (mY rfl) _).trans (D.d0 q)
theorem LU (D:LQ ext) (s:Nv) (q:ByteArray) (h:(ks s.m).Nodup) (ho:s.o.length ≤ 1000000) (hm:s.m.length ≤ 1000000) (hc:0 ≤ s.ch ∧ s.ch ≤ 1000000000000):G ext F (n + 1) 50 [s.v,vs q] = some ([vi (qW s q).2],[(qW s q).1.v,vs q]):=(congrFun (mY rfl) _).trans (D.d1 s q h ho hm hc)
abbrev dz : ByteArray:=⟨#[0,0,48,49,50,51,52,53,54,55,56,57,97,98,99,100,101,102,0,0,0,9]⟩
abbrev rt : ByteArray:=⟨#[0]⟩
abbrev na : ByteArray:=⟨#[1,97,0]⟩
abbrev rO (ttl:Int):Se:=⟨rt,6,1,[dz],ttl⟩
theorem UO (t:Int):G ext F (n + 1) 72 [vi t] = some ([(rO t).v],[vi t]):=by
  refine iw (cf:=c72) rfl ?_
  simp only [c72,go_sem,Nat.reduceAdd,Nat.reduceMul,Nat.reduceEqDiff,Nat.reduceBEq,Nat.reduceMod,Nat.reduceDiv,↓reduceIte,reduceCtorEq]
  rfl
structure Th.pq (θ:Th) (gt:ByteArray → Int → Int → Int × Bool):Prop where
  r1:θ.jJ rt = true
  r2:θ.low rt = rt
  a1:θ.jJ na = true
  a2:θ.low na = na
  e1:θ.wK 6 dz = true
  e2:θ.lw 6 dz = dz
  g:gt dz 18 4 = (9,true)
abbrev ka : Qn:=⟨na,1,1⟩
abbrev kb : Qn:=⟨na,2,1⟩
abbrev i1 : Nt:=⟨ka,false,rO 7,12⟩
abbrev i2 : Nt:=⟨ka.w,true,rO 20,14⟩
abbrev t0 : Nv:=⟨2,[],[],0⟩
abbrev t1 : Nv:=⟨2,[i1],[ka],1⟩
abbrev t2 : Nv:=⟨2,[i1,i2],[ka,ka.w],2⟩
abbrev t3 : Nv:=⟨2,[],[],3⟩
theorem OY (L:θ.pq gt) (ttl:Int) (h:0 ≤ ttl ∧ ttl < 2147483648):θ.set rt 6 1 [dz] ttl = true:=by simp [Th.set,Th.key,Th.dat,L.r1,L.r2,L.e1,L.e2,h]
theorem tC (L:θ.pq gt) (ttl:Int) (h:0 ≤ ttl ∧ ttl < 2147483648):uI θ gt (rO ttl) = (if ttl < 9 then ttl else 9,true):=by
  unfold uI
  rw [if_pos ⟨OY L ttl h,rfl⟩]
  have:(((rO ttl).d.headD ⟨#[]⟩).size:Int) - 4 = 18:=by show ((dz.size:Nat):Int) - 4 = 18;decide
  rw [this]
  show (if ttl < (gt dz 18 4).1 then ttl else (gt dz 18 4).1,true) = _
  rw [L.g]
theorem Y7 (L:θ.pq gt):uI θ gt (rO 20) = (9,true):=by rw [tC L 20 (by decide)];rfl
theorem LV (L:θ.pq gt):θ.ask ka = true:=by simp [Th.ask,Th.key,L.a1,L.a2]
theorem lv1 (L:θ.pq gt):nG θ gt t0 5 ka false (rO 7) = (t1,0):=by simp [nG,tC L 7 (by decide),LV L,iL,GQ,nD,upd,DR,kn]
theorem lv2 : mO t1 11 ka = (i1,true):=by simp [mO,nof,old,nD,GQ,YZ]
theorem lv3 : mO t1 12 ka = (WS,false):=by simp [mO,nof,old,nD,GQ,YZ]
theorem lv4 (L:θ.pq gt):nG θ gt t1 5 ka true (rO 20) = (t2,0):=by simp [nG,tC L 20 (by decide),LV L,iL,GQ,nD,upd,DR,kn,List.findIdx?_cons]
theorem lv5 : mO t2 13 kb = (i2,true):=by simp [mO,nof,old,nD,GQ,YZ]
theorem lv6 : qW t2 na = (t3,2):=by simp [qW,yw,ks]
theorem lv7 (L:θ.pq gt):nG θ gt t3 5 ka true (rO 0) = (t3,14):=by simp [nG,tC L 0 (by decide),LV L,iL,GQ,nD]
theorem lv8 (L:θ.pq gt):nG θ gt t3 (-1) ka true (rO 1) = (t3,1):=by simp [nG,tC L 1 (by decide),iL,GQ]
set_option maxRecDepth 100000 in
set_option maxHeartbeats 16000000 in
theorem Jl (T:θ.Ok ext) (O:Fy gt ext) (C:qE ext) (D:LQ ext) (L:θ.pq gt) (hF:200000000000001 ≤ F):G ext F (n + 7) 38 [] = some ([vb true],[]):=by
  refine iw (cf:=DJ) rfl ?_
  have n2:∀ n,G ext F (n + 1) 39 [vi 2] = some ([t0.v],[vi 2]):=fun n=>GY 2
  have n0:∀ n,G ext F (n + 1) 39 [vi 0] = some ([.one .je],[vi 0]):=fun n=>GY 0
  have s:=fun n t=>UO (ext:=ext) (F:=F) (n:=n) t
  have m1:=fun n=>nV (F:=F) (n:=n) T O (rO 20) hF (by decide) (by decide) (by decide)
  have m2:=fun n=>nV (F:=F) (n:=n) T O ⟨⟨#[]⟩,0,0,[],0⟩ hF (by decide) (by decide) (by decide)
  have hm2:uI θ gt ⟨⟨#[]⟩,0,0,[],0⟩ = (0,false):=by unfold uI;rw [if_neg (by rintro ⟨-,h⟩;cases h)]
  have p1:=fun n=>wL (F:=F) (n:=n) T O C t0 5 ka false (rO 7) hF (by decide) (by decide) (by decide) (by decide) (by decide) (by decide) (by decide)
  have p2:=fun n=>xY (F:=F) (n:=n) C t1 11 ka hF (by decide)
  have p3:=fun n=>xY (F:=F) (n:=n) C t1 12 ka hF (by decide)
  have p4:=fun n=>wL (F:=F) (n:=n) T O C t1 5 ka true (rO 20) hF (by decide) (by decide) (by decide) (by decide) (by decide) (by decide) (by decide)
  have p5:=fun n=>xY (F:=F) (n:=n) C t2 13 kb hF (by decide)
  have p6:=fun n=>LU (F:=F) (n:=n) D t2 na (by decide) (by decide) (by decide) (by decide)
  have p7:=fun n=>wL (F:=F) (n:=n) T O C t3 5 ka true (rO 0) hF (by decide) (by decide) (by decide) (by decide) (by decide) (by decide) (by decide)
  have p8:=fun n=>wL (F:=F) (n:=n) T O C t3 (-1) ka true (rO 1) hF (by decide) (by decide) (by decide) (by decide) (by decide) (by decide) (by decide)
  have c2:=fun n=>oV (ext:=ext) (F:=F) (n:=n) (some t2)
  have c3:=fun n=>oV (ext:=ext) (F:=F) (n:=n) (some t3)
  have k2:=fun n=>DW (ext:=ext) (F:=F) (n:=n) C (some t2) (by rintro s ⟨⟩;decide)
  rw [Y7 L] at m1
  rw [hm2] at m2
  rw [lv1 L] at p1
  rw [lv2] at p2
  rw [lv3] at p3
  rw [lv4 L] at p4
  rw [lv5] at p5
  rw [lv6] at p6
  rw [lv7 L] at p7
  rw [lv8 L] at p8
  simp only [xW,List.map_cons,List.map_nil,iB,ent,rN,rQ,Nv.v,Nt.v,Se.v,Fv,Qn.v,Qn.w,vq,kq,WS] at n2 s m1 m2 p1 p2 p3 p4 p5 p6 p7 p8 c2 c3 k2
  simp only [DJ,n2,n0,s,m1,m2,p1,p2,p3,p4,p5,p6,p7,p8,c2,c3,k2,show ((2:Nat):Int) = 2 from rfl,go_sem,Nat.reduceAdd,Nat.reduceMul,Nat.reduceEqDiff,Nat.reduceBEq,Nat.reduceMod,Nat.reduceDiv,↓reduceIte,reduceCtorEq]
end Go.Proofs.Ytdkkgecdhapfhaa.Kn
set_option maxRecDepth 4000
namespace Go.Proofs.Ytdkkgecdhapfhaa.Kn
open Go Ev
variable {ext : Env} {F n:Nat} {θ:Th} {gt:ByteArray → Int → Int → Int × Bool}
theorem OZ {l:List On} {x:On} (h:zy l = true) (hx:x ∈ l):x.k.q.size ≤ 1000000 ∧ x.s.q.size ≤ 1000000 ∧ x.s.d.length ≤ 1000000 ∧ ∀ y ∈ x.s.d,y.size ≤ 1000000:=by
  have h1:=List.all_eq_true.mp h x hx
  unfold nU DN at h1
  rw [Bool.and_eq_true,Bool.and_eq_true,List.all_eq_true,decide_eq_true_eq,decide_eq_true_eq] at h1
  refine ⟨by omega,by omega,?_,fun y hy=>?_⟩
  · cases hd:x.s.d with
    | nil=>simp
    | cons y d =>
      have:=h1.1.1 y (by rw [hd];simp)
      simp only [Bool.and_eq_true,decide_eq_true_eq] at this
      rw [hd] at this;omega
  · have:=h1.1.1 y hy
    simp only [Bool.and_eq_true,decide_eq_true_eq] at this
    omega
theorem Jm (T:θ.Ok ext) (O:Fy gt ext) (C:qE ext) (D:LQ ext) (L:θ.pq gt) (hF:200000000000001 ≤ F) (o:On) (hd:o.s.d.length ≤ 200000000000000):G ext F (n + 8) 11 [o.v] = some ([vb true],[o.v]):=by
  refine iw (cf:=c11) rfl ?_
  have hs:=fun n=>FB (ext:=ext) (F:=F) (n:=n) [o] 1 (by simp) (by intro x hx;rw [List.mem_singleton] at hx;subst hx;exact hd) hF
  have hv:=fun n=>Jl (F:=F) (n:=n) T O C D L hF
  cases hf:zy [o] && decide ((([o]:List On).length:Int) ≤ 1) with
  | false =>
    rw [hf] at hs
    simp only [List.map_cons,List.map_nil,OT] at hs
    simp only [c11,hs,hv,go_sem,Nat.reduceAdd,Nat.reduceMul,Nat.reduceEqDiff,Nat.reduceBEq,Nat.reduceMod,Nat.reduceDiv,↓reduceIte,reduceCtorEq]
  | true =>
    rw [hf] at hs
    simp only [List.map_cons,List.map_nil,OT] at hs
    rw [Bool.and_eq_true] at hf
    obtain ⟨z0,z1,z2,z3⟩:=OZ hf.1 (List.mem_singleton.mpr rfl)
    have h1:=fun n=>FD (ext:=ext) (F:=F) (n:=n) o.now o.k
    have h3:=fun n=>Jd (F:=F) (n:=n) T O o.now o.k o.nx o.s hF z1 z2 z3
    have h4:=fun n=>Jk (F:=F) (n:=n) D o.k.q
    have h5:=fun n=>DW (ext:=ext) (F:=F) (n:=n) C none (by rintro s ⟨⟩)
    have h6:=fun n=>oV (ext:=ext) (F:=F) (n:=n) none
    rw [xX] at h5 h6
    simp only [List.map_nil] at h5
    simp only [WS,List.map_nil] at h1
    simp only [c11,hs,hv,h1,h3,h4,h5,h6,show ((0:Nat):Int) = 0 from rfl,go_sem,Nat.reduceAdd,Nat.reduceMul,Nat.reduceEqDiff,Nat.reduceBEq,Nat.reduceMod,Nat.reduceDiv,↓reduceIte,reduceCtorEq]
end Go.Proofs.Ytdkkgecdhapfhaa.Kn
namespace Go.Proofs.Ytdkkgecdhapfhaa.Ev
open Go
def FM (P:Program):List Field → Nat → Bool
  | [],_=>true
  | f :: fs,i=>(f.name != "_") && (f.offset == i) && (EL P f.type).isSome && FM P fs (i + 1)
def okT (P:Program) (t:TypeId):Bool:=!P.eqGuardType P.depth t && match P.underlying t with
  | some (.struct fs)=>!P.stoodInHeld t && FM P fs.toList 0
  | some (.int _)=>true
  | some .string=>true
  | some .bool=>true
  | _=>false
section
variable {P : Program} {t:TypeId} {w:World}
theorem uW {k:SK} (h:EL P t = some k):(∃ i,P.underlying t = some (.int i) ∧ k = .int i) ∨ (P.underlying t = some .bool ∧ k = .bool) ∨ (P.underlying t = some .string ∧ k = .str):=by
  unfold EL at h
  split at h <;> simp_all
theorem RZ {d:Nat} {k:SK} (h:EL P t = some k) {a b:SV} (ha:a.sk = k) (hb:b.sk = k):(Op.equalIn (d + 1) t (encS a) (encS b)).run P w = .ok (decide (a = b)) w:=by
  rcases uW h with ⟨i,hu,rfl⟩ | ⟨hu,rfl⟩ | ⟨hu,rfl⟩
  · cases a <;> cases b <;> simp_all [SV.sk,encS,Op.equalIn,run_underlying hu]
    rw [Bool.eq_iff_iff];simp
  · cases a <;> cases b <;> simp_all [SV.sk,encS,Op.equalIn,run_underlying hu]
    rw [Bool.eq_iff_iff];simp
  · cases a <;> cases b <;> simp_all [SV.sk,encS,Op.equalIn,run_underlying hu]
    exact Mq.uL _ _
theorem BQ {k:SK} (h:EL P t = some k) {xs:Array Value} {o:Nat} {v:Value} (hx:xs[o]? = some v):(part t xs o).run P w = .ok v w:=by
  rcases uW h with ⟨i,hu,rfl⟩ | ⟨hu,rfl⟩ | ⟨hu,rfl⟩ <;> simp [part,isAgg,run_underlying hu,hx]
theorem Af {d:Nat} {xs ys:Array Value}:∀ {fs:List Field} {i:Nat} {ks:List SK} {ZZ9 bs:List SV},FM P fs i = true → IQ P fs = some ks → ZZ9.map SV.sk = ks → bs.map SV.sk = ks → (∀ j:Nat,xs[i + j]? = ZZ9[j]?.map encS) → (∀ j:Nat,ys[i + j]? = bs[j]?.map encS) →
    (Op.eqFields (d + 1) xs ys fs).run P w = .ok (decide (ZZ9 = bs)) w
  | [],i,ks,ZZ9,bs,_,hk,ha,hb,_,_=>by
    cases hk
    simp only [List.map_eq_nil_iff] at ha hb
    subst ha;subst hb
    simp [Op.eqFields]
  | f :: fs,i,ks,ZZ9,bs,hf,hk,ha,hb,hx,hy=>by
    obtain ⟨k,h1,h2⟩:=zbm hk
    obtain ⟨l,h3,rfl⟩:=zmm h2
    unfold FM at hf
    simp only [Bool.and_eq_true,bne_iff_ne,ne_eq,beq_iff_eq] at hf
    obtain ⟨⟨⟨f1,f2⟩,f3⟩,f4⟩:=hf
    cases ZZ9 with
    | nil=>simp at ha
    | cons a ZZ9 =>
    cases bs with
    | nil=>simp at hb
    | cons b bs =>
    simp only [List.map_cons,List.cons.injEq] at ha hb
    have ex:xs[f.offset]? = some (encS a):=by rw [f2];simpa using hx 0
    have ey:ys[f.offset]? = some (encS b):=by rw [f2];simpa using hy 0
    have ih:=Af (d:=d) f4 h3 ha.2 hb.2 (fun j=>by have:=hx (j + 1);rw [show i + 1 + j = i + (j + 1) from by omega];simpa using this) (fun j=>by have:=hy (j + 1);rw [show i + 1 + j = i + (j + 1) from by omega];simpa using this)
    unfold Op.eqFields
    rw [if_pos f1]
    simp only [Sem.run_bind,BQ h1 ex,BQ h1 ey,Result.andThen_ok,RZ h1 ha.1 hb.1,List.cons.injEq]
    by_cases hab:a = b
    · subst hab;simp [ih]
    · simp [hab]
theorem O1 {e:Bool} {n:Nat} {k:SK} (h:EL P t = some k) {a:SV} (ha:a.sk = k):(Instr.checkKey e (n + 1) t (encS a)).run P w = .ok () w:=by
  rcases uW h with ⟨i,hu,rfl⟩ | ⟨hu,rfl⟩ | ⟨hu,rfl⟩ <;> cases a <;> simp_all [SV.sk,encS,Instr.checkKey,run_underlying hu]
theorem D7 {e:Bool} {n:Nat} {cs:Array Value}:∀ {fs:List Field} {i:Nat} {ks:List SK} {ZZ9:List SV},FM P fs i = true → IQ P fs = some ks → ZZ9.map SV.sk = ks → (∀ j:Nat,cs[i + j]? = ZZ9[j]?.map encS) →
    (forIn fs PUnit.unit (fun (f:Field) (_:PUnit)=>(do
      if f.name ≠ "_" then Instr.checkKey e (n + 1) f.type (← part f.type cs f.offset)
      pure (ForInStep.yield PUnit.unit):Sem (ForInStep PUnit)))).run P w = .ok PUnit.unit w
  | [],i,ks,ZZ9,_,_,_,_=>by simp
  | f :: fs,i,ks,ZZ9,hf,hk,ha,hx=>by
    obtain ⟨k,h1,h2⟩:=zbm hk
    obtain ⟨l,h3,rfl⟩:=zmm h2
    unfold FM at hf
    simp only [Bool.and_eq_true,bne_iff_ne,ne_eq,beq_iff_eq] at hf
    obtain ⟨⟨⟨f1,f2⟩,f3⟩,f4⟩:=hf
    cases ZZ9 with
    | nil=>simp at ha
    | cons a ZZ9 =>
    simp only [List.map_cons,List.cons.injEq] at ha
    have ex:cs[f.offset]? = some (encS a):=by rw [f2];simpa using hx 0
    have ih:=D7 (e:=e) (n:=n) f4 h3 ha.2 (fun j=>by have:=hx (j + 1);rw [show i + 1 + j = i + (j + 1) from by omega];simpa using this)
    rw [List.forIn_cons]
    simp only [if_pos f1,Sem.run_bind,BQ h1 ex,Result.andThen_ok,O1 h1 ha.1,Sem.run_pure]
    exact ih
theorem O4 {e:Bool} {n:Nat} {fs:Array Field} {ks:List SK} {ZZ9:List SV} (hu:P.underlying t = some (.struct fs)) (hf:FM P fs.toList 0 = true) (hk:IQ P fs.toList = some ks) (ha:ZZ9.map SV.sk = ks):(Instr.checkKey e (n + 2) t (.agg (ZZ9.map encS).toArray)).run P w = .ok () w:=by
  have:=D7 (w:=w) (e:=e) (n:=n) hf hk ha (cs:=(ZZ9.map encS).toArray) (fun j=>by simp)
  unfold Instr.checkKey
  simp only [Sem.run_bind,run_underlying hu,Result.andThen_ok]
  rw [← Array.forIn_toList]
  simp only [ne_eq,ite_not] at this ⊢
  simp at this ⊢
  rw [this]
  rfl
theorem O5 {n:Nat} {ZZ9:List SV} (hs:∀ (n:Nat) (a:SV),Instr.sameBits n (encS a) (encS a) = true):Instr.sameBits (n + 1) (.agg (ZZ9.map encS).toArray) (.agg (ZZ9.map encS).toArray) = true:=by
  unfold Instr.sameBits
  simp only [beq_self_eq_true,Bool.true_and,List.all_eq_true]
  intro p hp
  have:∀ (l:List Value) (p:Value × Value),p ∈ l.zip l → p.1 = p.2 ∧ p.1 ∈ l:=by
    intro l
    induction l with
    | nil=>intro p hp;simp at hp
    | cons x l ih =>
      intro p hp
      rcases List.mem_cons.mp hp with rfl | hp
      · exact ⟨rfl,by simp⟩
      · exact ⟨(ih p hp).1,List.mem_cons_of_mem _ (ih p hp).2⟩
  obtain ⟨h1,h2⟩:=this _ _ hp
  obtain ⟨x,y⟩:=p
  simp only at h1 h2
  subst h1
  simp only [List.mem_map] at h2
  obtain ⟨s,_,rfl⟩:=h2
  exact hs _ s
theorem G8 {n:Nat} (a:SV):Instr.sameBits n (encS a) (encS a) = true:=by
  cases a <;> simp [encS,Instr.sameBits]
  rw [Mq.uL];simp
theorem D8 {ks:List SK} {a:KV} (h:a.ks = .agg ks):∃ ZZ9,a = .agg ZZ9 ∧ ZZ9.map SV.sk = ks:=by
  cases a with
  | one x=>cases h
  | agg ZZ9=>exact ⟨ZZ9,rfl,by simpa [KV.ks] using h⟩
theorem Ag {k:SK} {a:KV} (h:a.ks = .one k):∃ x,a = .one x ∧ x.sk = k:=by
  cases a with
  | one x=>exact ⟨x,rfl,by simpa [KV.ks] using h⟩
  | agg ZZ9=>cases h
theorem O6 {n:Nat} {d:TypeDesc} (hu:P.underlying t = some d) (hd:∀ ms,d ≠ .interface ms):(Op.eqGuardIn (n + 1) t .nilIface .nilIface).run P w = .ok false w:=by
  unfold Op.eqGuardIn
  simp only [Sem.run_bind,run_underlying hu,Result.andThen_ok]
  cases d <;> first | rfl | exact absurd rfl (hd _)
theorem BR {d:TypeDesc} (hu:P.underlying t = some d) (hd:∀ ms,d ≠ .interface ms) (w:World):(Op.eqGuardIn Op.maxDepth t .nilIface .nilIface).run P w = .ok false w:=by
  unfold Op.maxDepth
  exact O6 hu hd
set_option maxHeartbeats 2000000 in
theorem UQ (h:okT P t = true):kV P t:=by
  unfold okT at h
  rw [Bool.and_eq_true] at h
  obtain ⟨hg,h⟩:=h
  have hg':P.eqGuardType P.depth t = false:=by simpa using hg
  have gd:(∀ w,(Op.eqGuardIn Op.maxDepth t .nilIface .nilIface).run P w = .ok false w) → ∀ op x y,∀ (a b:Value) (w:World),(eqGuard op t x y a b).run P w = .ok () w:=by
    intro hn op x y a b w
    have key:(Sem.run P (match a,b with
      | .nilIface,.nilIface=>do
        if (x matches .const _) || (y matches .const _) then return
        if ← Op.eqGuardIn Op.maxDepth t a b then unsupported (.noEntry "binop/eql: two nil values of an interface type with methods, neither of them the literal nil")
      | .agg _,.agg _=>do
        if !(← program).eqGuardType (← program).depth t then return
        if ← Op.eqGuardIn Op.maxDepth t a b then unsupported (.noEntry "binop/eql: two nil values of an interface type with methods, in a part of a struct or an array")
      | _,_=>pure ()) w) = .ok () w:=by
      cases a <;> cases b <;> first | rfl | (simp only [Sem.run_bind,run_program,Result.andThen_ok,hg'];rfl) | skip
      cases x <;> cases y <;> first | rfl | simp [hn]
    unfold eqGuard
    split
    · exact key
    · exact key
    · rfl
  cases hu:P.underlying t with
  | none=>rw [hu] at h;cases h
  | some d =>
    rw [hu] at h
    have sc:∀ k,EL P t = some k → xu P t = some (.one k) → (∀ w,(Op.eqGuardIn Op.maxDepth t .nilIface .nilIface).run P w = .ok false w) → (∀ a:SV,a.sk = k → MapKept.IsKey d (encS a)) → (∀ a b:SV,a.sk = k → b.sk = k → Instr.sameNow d (encS a) (encS b) = some (decide (a = b))) → kV P t:=by
      intro k hk hks hn h1 h2
      have hcase:∀ {sh},xu P t = some sh → sh = .one k:=fun e=>by rw [hks] at e;cases e;rfl
      refine ⟨fun sh e=>?_,fun sh e a b w ha hb=>?_,gd hn⟩
      · obtain rfl:=hcase e
        refine Mq.Key.NK hu (fun a ha=>?_) (fun a b ha hb=>?_) (fun a ha=>?_)
        · obtain ⟨x,rfl,hx⟩:=Ag ha;exact h1 x hx
        · obtain ⟨x,rfl,hx⟩:=Ag ha
          obtain ⟨y,rfl,hy⟩:=Ag hb
          simp only [lZ,KV.one.injEq]
          exact h2 x y hx hy
        · obtain ⟨x,rfl,hx⟩:=Ag ha;exact G8 x
      · obtain rfl:=hcase e
        obtain ⟨x,rfl,hx⟩:=Ag ha
        obtain ⟨y,rfl,hy⟩:=Ag hb
        simp only [lZ,KV.one.injEq]
        unfold Op.equal Op.maxDepth
        exact RZ hk hx hy
    cases d with
    | int i =>
      refine sc (.int i) (by simp [EL,hu]) (by simp [xu,EL,hu]) (BR hu (fun _ h=>by cases h)) (fun a ha=>?_) (fun a b ha hb=>?_)
      · cases a <;> simp_all [SV.sk,encS,MapKept.IsKey]
      · cases a <;> cases b <;> simp_all [SV.sk,encS,Instr.sameNow]
        rw [Bool.eq_iff_iff];simp
    | bool =>
      refine sc .bool (by simp [EL,hu]) (by simp [xu,EL,hu]) (BR hu (fun _ h=>by cases h)) (fun a ha=>?_) (fun a b ha hb=>?_)
      · cases a <;> simp_all [SV.sk,encS,MapKept.IsKey]
      · cases a <;> cases b <;> simp_all [SV.sk,encS,Instr.sameNow]
        rw [Bool.eq_iff_iff];simp
    | string =>
      refine sc .str (by simp [EL,hu]) (by simp [xu,EL,hu]) (BR hu (fun _ h=>by cases h)) (fun a ha=>?_) (fun a b ha hb=>?_)
      · cases a <;> simp_all [SV.sk,encS,MapKept.IsKey]
      · cases a <;> cases b <;> simp_all [SV.sk,encS,Instr.sameNow]
        exact Mq.uL _ _
    | struct fs =>
      simp only [Bool.and_eq_true,Bool.not_eq_true'] at h
      have hcase:∀ {sh},xu P t = some sh → ∃ ks,IQ P fs.toList = some ks ∧ sh = .agg ks:=fun e=>by
        unfold xu at e
        rw [hu] at e
        obtain ⟨ks,h1,h2⟩:=zmm e
        exact ⟨ks,h1,h2.symm⟩
      have idx:∀ (ZZ9:List SV) (j:Nat),((ZZ9.map encS).toArray)[0 + j]? = ZZ9[j]?.map encS:=fun ZZ9 j=>by simp
      have heq:∀ sh,xu P t = some sh → ∀ (a b:KV) (w:World),a.ks = sh → b.ks = sh → (Op.equal t (lZ a) (lZ b)).run P w = .ok (decide (a = b)) w:=by
        intro sh e a b w ha hb
        obtain ⟨ks,hks,rfl⟩:=hcase e
        obtain ⟨ZZ9,rfl,ha1⟩:=D8 ha
        obtain ⟨bs,rfl,hb1⟩:=D8 hb
        have hf:P.fieldsOf t = fs:=by simp [Program.fieldsOf,hu]
        unfold Op.equal Op.maxDepth
        simp only [lZ,KV.agg.injEq]
        rw [run_equalIn_struct (P:=P) w _ t _ _ (by rw [hf];exact hu) h.1,hf]
        exact Af h.2 hks ha1 hb1 (idx ZZ9) (idx bs)
      refine ⟨fun sh e=>?_,heq,gd (BR hu (fun _ h=>by cases h))⟩
      · obtain ⟨ks,hks,rfl⟩:=hcase e
        refine Mq.Key.Kr hu (fun e' a w ha=>?_) (fun a b w ha hb=>heq _ e a b w ha hb) (fun a ha=>?_) (fun a ha=>?_)
        · obtain ⟨ZZ9,rfl,ha1⟩:=D8 ha
          exact O4 (n:=9998) hu h.2 hks ha1
        · obtain ⟨ZZ9,rfl,ha1⟩:=D8 ha
          exact O5 (n:=9999) (fun n a=>G8 a)
        · obtain ⟨ZZ9,rfl,ha1⟩:=D8 ha
          exact ⟨_,rfl⟩
    | _=>simp at h
end
end Go.Proofs.Ytdkkgecdhapfhaa.Ev
set_option maxRecDepth 100000
namespace Go.Proofs.Ytdkkgecdhapfhaa.Kn
open Go Go.RowKit Go.Proofs Ev
theorem eqs : ∀ t ∈ [3,32],kV Try.prog t:=by
  intro t ht
  simp only [List.mem_cons,List.not_mem_nil,or_false] at ht
  rcases ht with rfl | rfl <;> exact UQ (by kernel_rfl)
theorem mixed : Try.prog.follows .mixedOrders = true:=by kernel_rfl
theorem O7 : iE Try.prog fun _ _=>none:=fun f fV rs rH h=>by cases h
theorem Jo : eu Try.prog fun _ _=>none:=fun f fV r h=>by cases h
def UR : CF:=⟨1,[(.t 2)],[],[],(.seq (.reg [⟨(some 2),none,(.mv (.k (.one .fQ)))⟩] [0]) (.seq (.seq (.reg [⟨(some 3),none,(.mv (.t 0))⟩,⟨(some 4),none,(.AY false (.t 3))⟩] [0,4]) (.cond (.t 4) (.seq (.reg [⟨(some 2),none,(.mv (.k (.one .fQ)))⟩] [2]) .ret) .skip)) (.seq (.reg [⟨(some 5),none,(.EK 9 1 0 [] [])⟩,⟨(some 6),none,(.mv (.t 0))⟩,⟨(some 7),none,(.app 9 1 16 (.t 5) (.t 6))⟩,⟨(some 2),none,(.mv (.t 7))⟩] [2]) .ret)))⟩
def UU : CF:=⟨1,[(.t 2)],[some 3],[],(.seq (.reg [⟨(some 2),none,(.mv (.k (.one .fQ)))⟩] [0]) (.seq (.seq (.reg [⟨(some 3),none,(.mv (.t 0))⟩,⟨(some 4),none,(.AY false (.t 3))⟩] [0,4]) (.cond (.t 4) (.seq (.reg [⟨(some 2),none,(.mv (.k (.one .fQ)))⟩] [2]) .ret) .skip)) (.seq (.reg [⟨(some 5),none,(.EK 32 3 0 [] [])⟩,⟨(some 6),none,(.mv (.t 0))⟩,⟨(some 7),none,(.app 32 3 32 (.t 5) (.t 6))⟩,⟨(some 2),none,(.mv (.t 7))⟩] [2]) .ret)))⟩
theorem O8 {f:FuncId} {cf:CF} {Γ:Env} (h:lS Try.prog f cf) (h1:iE Try.prog Γ) (h2:eu Try.prog Γ) (F:Nat):Sat Try.prog f (Ka Γ F cf):=by
  obtain ⟨fn,c,X,hints,rest,e1,_,e2,e3,e4,e5,e6⟩:=h.ok
  exact Ac mixed e3 h1 h2 e1 e2 e4 e5 e6 F
theorem O9 : lS Try.prog 88 UR:=⟨Try.f88,_,⟨[3,32],[],[],[33,89]⟩,[⟨[0],[],[]⟩,⟨[0,4],[],[]⟩,⟨[2],[],[]⟩,⟨[2],[],[]⟩],[],by kernel_rfl,by kernel_rfl,rfl,eqs,by kernel_rfl,by kernel_rfl,by decide⟩
theorem Pb : lS Try.prog 70 UU:=⟨Try.f70,_,⟨[3,32],[],[],[33,89]⟩,[⟨[0],[],[]⟩,⟨[0,4],[],[]⟩,⟨[2],[],[]⟩,⟨[2],[],[]⟩],[],by kernel_rfl,by kernel_rfl,rfl,eqs,by kernel_rfl,by kernel_rfl,by decide⟩
theorem Pf (r:List FV) (l:List (List FV)) (h:l.length < 1000000) (hl:(r :: l).all (fun r=>r.length == 1) = true):Ka (fun _ _=>none) 10 UR [vl (r :: l)] = some ([vl (r :: l)],[vl (r :: l)]):=by
  refine I6 ?_
  rw [List.all_cons,Bool.and_eq_true] at hl
  simp only [UR,hl.1,hl.2,List.all_cons,go_sem,Nat.reduceAdd,Nat.reduceMul,Nat.reduceEqDiff,Nat.reduceBEq,Nat.reduceMod,Nat.reduceDiv,↓reduceIte,reduceCtorEq]
  omega
theorem Pg (r:List FV) (l:List (List FV)) (h:l.length < 1000000) (hl:(r :: l).all (fun r=>r.length == 3) = true):Ka (fun _ _=>none) 10 UU [vl (r :: l)] = some ([.one (.own 3 (r :: l))],[vl (r :: l)]):=by
  refine I6 ?_
  rw [List.all_cons,Bool.and_eq_true] at hl
  simp only [UU,hl.1,hl.2,List.all_cons,go_sem,Nat.reduceAdd,Nat.reduceMul,Nat.reduceEqDiff,Nat.reduceBEq,Nat.reduceMod,Nat.reduceDiv,↓reduceIte,reduceCtorEq]
  omega
theorem wM {t e:TypeId} (hu:Try.prog.underlying t = some (.slice e)) (p:Option Addr) (c:Nat) (w:World):(binOp .eql t (.slice p 0 c) (.slice none 0 0)).run Try.prog w = .ok (.bool p.isNone) w:=by
  have:=run_equal_slice_nil w t e p 0 c hu
  simp only [binOp,Sem.run_bind,this,Result.andThen_ok,Sem.run_pure]
theorem D9 {t ty e:TypeId} {i:TypeInfo} (hu:Try.prog.underlying t = some (.slice e)) (hi:Try.prog.info? e = some i) (a b:Addr) (c:Nat) (w:World):(Builtin.append_ #[t,t] ty #[.slice (some b) 0 0,.slice (some a) 0 c]).run Try.prog w = .ok (.slice (some b) 0 0) w:=by
  have h1:∀ w,(Builtin.lenOf (.slice (some a) 0 c)).run Try.prog w = .ok 0 w:=fun _=>rfl
  have h2:=fun w=>run_firstCells_some (P:=Try.prog) w i.size 0 a 0 c [] (by simp) (by simp)
  simp [Builtin.append_,run_underlying hu,sizeOf,typeInfo,hi,storeCells,h1,h2]
theorem LW (c:Nat) (w:World):Calls Try.prog 88 #[.slice none 0 c] w fun e w'=>e = .returned (.slice none 0 0) ∧ w' = w:=by
  have heq:=wM (t:=33) (e:=9) (by kernel_rfl) none c
  go_enter Try.func88,Try.ntmps88
  go_wp2
  go_ret
  exact ⟨rfl,rfl⟩
theorem LX (a:Addr) (c:Nat) (w:World):Calls Try.prog 88 #[.slice (some a) 0 c] w fun e w'=>e = .returned (.slice (some ⟨w.heap.size,0,none⟩) 0 0) ∧ w' = w.alloc (.cells #[] 9):=by
  have heq:=wM (t:=33) (e:=9) (by kernel_rfl) (some a) c
  obtain ⟨i,hi⟩:=Option.isSome_iff_exists.mp (show (Try.prog.info? 9).isSome = true by kernel_rfl)
  have hap:=fun b w=>D9 (t:=33) (ty:=33) (e:=9) (by kernel_rfl) hi a b c w
  go_enter Try.func88,Try.ntmps88
  go_wp2
  go_ret
  exact ⟨rfl,rfl⟩
theorem LY (c:Nat) (w:World):Calls Try.prog 70 #[.slice none 0 c] w fun e w'=>e = .returned (.slice none 0 0) ∧ w' = w:=by
  have heq:=wM (t:=57) (e:=32) (by kernel_rfl) none c
  go_enter Try.func70,Try.ntmps70
  go_wp2
  go_ret
  exact ⟨rfl,rfl⟩
theorem LZ (a:Addr) (c:Nat) (w:World):Calls Try.prog 70 #[.slice (some a) 0 c] w fun e w'=>e = .returned (.slice (some ⟨w.heap.size,0,none⟩) 0 0) ∧ w' = w.alloc (.cells #[] 32):=by
  have heq:=wM (t:=57) (e:=32) (by kernel_rfl) (some a) c
  obtain ⟨i,hi⟩:=Option.isSome_iff_exists.mp (show (Try.prog.info? 32).isSome = true by kernel_rfl)
  have hap:=fun b w=>D9 (t:=57) (ty:=57) (e:=32) (by kernel_rfl) hi a b c w
  go_enter Try.func70,Try.ntmps70
  go_wp2
  go_ret
  exact ⟨rfl,rfl⟩
def Ph (sz:Nat) (own:Bool) (fV:List AV):Option (List AV × List AV):=match fV with
  | [.one (.f (.sl rows))]=>if rows.length ≤ 1000000 ∧ rows.all (fun r=>r.length == sz) = true then some ([.one (if own then .own sz rows else .f (.sl rows))],fV) else none
  | _=>none
theorem yx (w:World) (o:Obj):w.heap.size ≤ (w.alloc o).heap.size ∧ (∀ b,b < w.heap.size → (w.alloc o).heap[b]? = w.heap[b]?) ∧ (w.alloc o).heap[w.heap.size]? = some o ∧ (w.alloc o).heap.size = w.heap.size + 1:=by
  obtain ⟨h1,h2,h3⟩:=jU w o
  exact ⟨by omega,h2,h1,h3⟩
theorem G9 {f:FuncId} {cf:CF} {sz e:Nat} {own:Bool} (h0:0 < sz) (he:lS Try.prog f cf) (hrun:∀ (r:List FV) (l:List (List FV)),l.length < 1000000 → (r :: l).all (fun r=>r.length == sz) = true → Ka (fun _ _=>none) 10 cf [vl (r :: l)] = some ([.one (if own then .own sz (r :: l) else .f (.sl (r :: l)))],[vl (r :: l)]))
    (hn:∀ (c:Nat) (w:World),Calls Try.prog f #[.slice none 0 c] w fun e w'=>e = .returned (.slice none 0 0) ∧ w' = w)
    (hs:∀ (a:Addr) (c:Nat) (w:World),Calls Try.prog f #[.slice (some a) 0 c] w fun e' w'=>e' = .returned (.slice (some ⟨w.heap.size,0,none⟩) 0 0) ∧ w' = w.alloc (.cells #[] e)):Sat Try.prog f (Ph sz own):=by
  intro fV rs rH hg
  unfold Ph at hg
  split at hg
  · rename_i rows
    split at hg
    · rename_i hc
      cases hg
      cases rows with
      | cons r l =>
        exact O8 he O7 Jo 10 _ _ _ (hrun r l (by have:=hc.1;simp at this;omega) hc.2)
      | nil =>
        intro Fz w vals bs ha hnd hap hfz
        match vals,ha with
        | [v],⟨b1,b2,h1,h2,e0⟩ =>
        obtain ⟨hv,rfl⟩:=h1
        obtain rfl:b2 = []:=h2
        subst e0
        simp only [fu] at hv
        obtain ⟨A,c,rfl,hle,hbig,_⟩:=hv
        have hrep:∀ (w':World) (v:Value),(∃ A,v = .slice A 0 0) → fu Fz w' (.sl []) v:=fun w' v ⟨A,hA⟩=>by
          simp only [fu];exact ⟨A,0,by rw [hA];rfl,Nat.le_refl _,by simp,.inl trivial⟩
        have hbk:∀ (w':World),fM Fz w' [vl []] [.slice A ([]:List (List FV)).length c] []:=fun w' =>
          ⟨[],[],⟨by simp only [fu];exact ⟨A,c,rfl,hle,hbig,.inl trivial⟩,rfl⟩,rfl,rfl⟩
        cases A with
        | none =>
          refine (hn c w).mono fun e' w' ⟨e1,e2⟩=>?_
          subst e2
          refine ⟨Fz,[.slice none 0 0],[],[],e1,fun _ h=>h,fun b hb=>⟨hfz b hb,.inl hb⟩,Nat.le_refl _,fun _ _ _=>rfl,⟨rfl,rfl⟩,hbk w',?_,by simp,fun b hb=>by simp at hb⟩
          cases own with
          | true=>exact ⟨[],[],⟨h0,0,[],none,0,rfl,World.ownsRow_nil w' _ _ _,rfl,rfl⟩,rfl,rfl⟩
          | false=>exact ⟨[],[],⟨hrep w' _ ⟨none,rfl⟩,rfl⟩,rfl,rfl⟩
        | some a =>
          refine (hs a c w).mono fun e' w' ⟨e1,e2⟩=>?_
          subst e2
          obtain ⟨k1,k2,k3,k4⟩:=yx w (.cells #[] e)
          cases own with
          | true =>
            refine ⟨Fz,[.slice (some ⟨w.heap.size,0,none⟩) 0 0],[],[w.heap.size],e1,fun _ h=>h,fun b hb=>⟨Nat.lt_of_lt_of_le (hfz b hb) k1,.inl hb⟩,k1,fun b hb _=>k2 b hb,⟨rfl,rfl⟩,hbk _,?_,by simp,fun b hb=>?_⟩
            · refine ⟨[w.heap.size],[],⟨h0,e,[],_,0,rfl,⟨by simp,.inr ⟨w.heap.size,0,#[],rfl,Nat.zero_le _,k3,Nat.le_refl _,by simp [maxLen],by simp,by simp⟩⟩,rfl,rfl⟩,rfl,rfl⟩
            · simp at hb
              subst hb
              exact ⟨fun hf=>by have:=hfz _ hf;omega,by omega,.inr (Nat.le_refl _)⟩
          | false =>
            exact ⟨Fz,[.slice (some ⟨w.heap.size,0,none⟩) 0 0],[],[],e1,fun _ h=>h,fun b hb=>⟨Nat.lt_of_lt_of_le (hfz b hb) k1,.inl hb⟩,k1,fun b hb _=>k2 b hb,⟨rfl,rfl⟩,hbk _,⟨[],[],⟨hrep _ _ ⟨_,rfl⟩,rfl⟩,rfl,rfl⟩,by simp,fun b hb=>by simp at hb⟩
    · cases hg
  · cases hg
theorem Pj : Sat Try.prog 88 (Ph 1 false):=G9 (by decide) O9 Pf LW LX
theorem Pk : Sat Try.prog 70 (Ph 3 true):=G9 (by decide) Pb Pg LY LZ
end Go.Proofs.Ytdkkgecdhapfhaa.Kn
set_option maxRecDepth 100000
namespace Go.Proofs.Ytdkkgecdhapfhaa.Kn
open Go Go.Proofs Ev
theorem e14 : lS Try.prog 14 c14:=⟨Try.f14,_,⟨[3,32],[],[],[33,89]⟩,[⟨[0,1],[],[]⟩,⟨[0,1,5],[],[]⟩,⟨[0,1,5],[20202],[]⟩,⟨[0,1,5,9],[],[]⟩,⟨[0,1,5,18],[],[]⟩,⟨[4],[],[]⟩,⟨[0,1,5],[],[]⟩,⟨[4],[],[]⟩],[],by kernel_rfl,by kernel_rfl,rfl,eqs,by kernel_rfl,by kernel_rfl,by decide⟩
theorem e17 : lS Try.prog 17 c17:=⟨Try.f17,_,⟨[3,32],[],[],[33,89]⟩,[⟨[0,2],[],[]⟩,⟨[0,2,8],[],[]⟩,⟨[2],[],[]⟩,⟨[2],[],[]⟩],[],by kernel_rfl,by kernel_rfl,rfl,eqs,by kernel_rfl,by kernel_rfl,by decide⟩
theorem e20 : lS Try.prog 20 c20:=⟨Try.f20,_,⟨[3,32],[],[],[33,89]⟩,[⟨[1,3,5,6,7],[],[]⟩,⟨[3,5,6,7,9,10],[],[]⟩,⟨[3,5,6,7,9,10,19],[],[]⟩,⟨[3,6,7,9,10,11],[],[]⟩,⟨[3,6,7,9,10,11],[],[]⟩,⟨[3,6,7,9,10],[],[]⟩,⟨[6,7,8],[],[]⟩],[],by kernel_rfl,by kernel_rfl,rfl,eqs,by kernel_rfl,by kernel_rfl,by decide⟩
theorem e22 : lS Try.prog 22 EN:=⟨Try.f22,_,⟨[3,32],[],[],[33,89]⟩,[⟨[2,3],[],[]⟩,⟨[4],[],[]⟩],[],by kernel_rfl,by kernel_rfl,rfl,eqs,by kernel_rfl,by kernel_rfl,by decide⟩
theorem e33 : lS Try.prog 33 OI:=⟨Try.f33,_,⟨[3,32],[],[],[33,89]⟩,[⟨[0,3,4],[],[]⟩,⟨[0,3,4,5],[],[]⟩,⟨[0,3,4,5,6],[],[]⟩,⟨[0,3,4,5,6],[30201,80000,100000,120000],[]⟩,⟨[0,3,4,5,6,10],[],[]⟩,⟨[0,3,4,5,6,19],[],[]⟩,⟨[0,3,4,5,6],[],[]⟩,⟨[0,3,4,5,6],[],[]⟩,⟨[4],[],[]⟩],[],by kernel_rfl,by kernel_rfl,rfl,eqs,by kernel_rfl,by kernel_rfl,by decide⟩
theorem e34 : lS Try.prog 34 c34:=⟨Try.f34,_,⟨[3,32],[],[],[33,89]⟩,[⟨[0],[],[]⟩,⟨[0,3],[],[]⟩,⟨[0,3],[20202],[]⟩,⟨[0,3,8],[],[]⟩,⟨[0,3,4],[],[]⟩,⟨[0,3,4],[20202],[]⟩,⟨[0,3,4,13],[],[]⟩,⟨[0,3,4,24],[],[]⟩,⟨[2],[],[]⟩,⟨[0,3,4],[],[]⟩,⟨[0,3],[],[]⟩,⟨[2],[],[]⟩],[],by kernel_rfl,by kernel_rfl,rfl,eqs,by kernel_rfl,by kernel_rfl,by decide⟩
theorem e35 : lS Try.prog 35 c35:=⟨Try.f35,_,⟨[3,32],[],[],[33,89]⟩,[⟨[1],[],[]⟩,⟨[1,3],[],[]⟩,⟨[1,3],[20802,40000],[]⟩,⟨[1,3,8],[],[]⟩,⟨[1,3,23],[],[]⟩,⟨[2],[],[]⟩,⟨[1,3],[],[]⟩,⟨[2],[],[]⟩],[],by kernel_rfl,by kernel_rfl,rfl,eqs,by kernel_rfl,by kernel_rfl,by decide⟩
theorem e62 : lS Try.prog 62 c62:=⟨Try.f62,_,⟨[3,32],[],[],[33,89]⟩,[⟨[0,1],[],[]⟩,⟨[0,1,11],[],[]⟩,⟨[4],[],[]⟩,⟨[4],[],[]⟩],[],by kernel_rfl,by kernel_rfl,rfl,eqs,by kernel_rfl,by kernel_rfl,by decide⟩
theorem e66 : lS Try.prog 66 c66:=⟨Try.f66,_,⟨[3,32],[],[],[33,89]⟩,[⟨[0,1],[],[]⟩,⟨[0,6],[],[]⟩,⟨[4,5],[],[]⟩],[],by kernel_rfl,by kernel_rfl,rfl,eqs,by kernel_rfl,by kernel_rfl,by decide⟩
theorem e67 : lS Try.prog 67 c67:=⟨Try.f67,_,⟨[3,32],[7],[],[33,89]⟩,[⟨[0,3],[],[]⟩,⟨[4],[],[]⟩],[],by kernel_rfl,by kernel_rfl,rfl,eqs,by kernel_rfl,by kernel_rfl,by decide⟩
theorem e68 : lS Try.prog 68 c68:=⟨Try.f68,_,⟨[3,32],[],[],[33,89]⟩,[⟨[0,1],[],[]⟩,⟨[4],[],[]⟩],[],by kernel_rfl,by kernel_rfl,rfl,eqs,by kernel_rfl,by kernel_rfl,by decide⟩
theorem e69 : lS Try.prog 69 c69:=⟨Try.f69,_,⟨[3,32],[],[],[33,89]⟩,[⟨[0,3],[],[]⟩,⟨[4],[],[]⟩],[],by kernel_rfl,by kernel_rfl,rfl,eqs,by kernel_rfl,by kernel_rfl,by decide⟩
theorem e73 : lS Try.prog 73 c73:=⟨Try.f73,_,⟨[3,32],[],[],[33,89]⟩,[⟨[1],[],[]⟩,⟨[1,3],[],[]⟩,⟨[1,3,37],[],[]⟩,⟨[2],[],[]⟩,⟨[1,3,39,40,41],[],[]⟩,⟨[1,3,39,40,41],[20802,40000,80000],[]⟩,⟨[1,3,39,40,41,42],[],[]⟩,⟨[1,3,4,5,39,40,41],[],[]⟩,⟨[1,3,39,40,41,66],[],[]⟩,⟨[2],[],[]⟩,⟨[1,3,39,40,41],[],[]⟩,⟨[2],[],[]⟩],[],by kernel_rfl,by kernel_rfl,rfl,eqs,by kernel_rfl,by kernel_rfl,by decide⟩
theorem e86 : lS Try.prog 86 c86:=⟨Try.f86,_,⟨[3,32],[],[],[33,89]⟩,[⟨[0,1],[],[]⟩,⟨[4],[],[]⟩],[],by kernel_rfl,by kernel_rfl,rfl,eqs,by kernel_rfl,by kernel_rfl,by decide⟩
theorem e89 : lS Try.prog 89 c89:=⟨Try.f89,_,⟨[3,32],[41],[38],[33,89]⟩,[⟨[0,1],[],[]⟩,⟨[0,1,5],[],[]⟩,⟨[0,1,5,12],[],[]⟩,⟨[4],[],[]⟩,⟨[0,1,5,6],[],[]⟩,⟨[0,1,5,6],[20202],[]⟩,⟨[0,1,5,6,19],[],[]⟩,⟨[0,1,5,6,7],[],[]⟩,⟨[0,1,5,6,7,29],[],[]⟩,⟨[0,1,5,6],[],[]⟩,⟨[0,1,5,6],[],[]⟩,⟨[0,1,5,6],[],[]⟩,⟨[0,5],[],[]⟩,⟨[4],[],[]⟩],[],by kernel_rfl,by kernel_rfl,rfl,eqs,by kernel_rfl,by kernel_rfl,by decide⟩
theorem e90 : lS Try.prog 90 c90:=⟨Try.f90,_,⟨[3,32],[],[],[33,89]⟩,[⟨[1,2],[],[]⟩,⟨[3],[],[]⟩],[],by kernel_rfl,by kernel_rfl,rfl,eqs,by kernel_rfl,by kernel_rfl,by decide⟩
theorem e93 : lS Try.prog 93 c93:=⟨Try.f93,_,⟨[3,32],[],[],[33,89]⟩,[⟨[0,1],[],[]⟩,⟨[4],[],[]⟩],[],by kernel_rfl,by kernel_rfl,rfl,eqs,by kernel_rfl,by kernel_rfl,by decide⟩
theorem e96 : lS Try.prog 96 c96:=⟨Try.f96,_,⟨[3,32],[],[],[33,89]⟩,[⟨[0,1],[],[]⟩,⟨[4],[],[]⟩],[],by kernel_rfl,by kernel_rfl,rfl,eqs,by kernel_rfl,by kernel_rfl,by decide⟩
theorem e108 : lS Try.prog 108 OJ:=⟨Try.f108,_,⟨[3,32],[],[],[33,89]⟩,[⟨[0,1],[],[]⟩,⟨[0,1,7,8],[],[]⟩,⟨[0,1,7,8],[20202],[]⟩,⟨[0,1,7,8,9],[],[]⟩,⟨[0,1,5,7,8],[],[]⟩,⟨[0,1,5,7,8,16],[],[]⟩,⟨[4],[],[]⟩,⟨[0,1,7,8],[],[]⟩,⟨[4],[],[]⟩],[],by kernel_rfl,by kernel_rfl,rfl,eqs,by kernel_rfl,by kernel_rfl,by decide⟩
theorem aeL : lS Try.prog 114 OL:=⟨Try.f114,_,⟨[3,32],[],[],[33,89]⟩,[⟨[0,1],[],[]⟩,⟨[0,1,7,8],[],[]⟩,⟨[0,1,7,8],[20202],[]⟩,⟨[0,1,7,8,9],[],[]⟩,⟨[0,1,5,7,8],[],[]⟩,⟨[0,1,5,7,8,16],[],[]⟩,⟨[4],[],[]⟩,⟨[0,1,7,8],[],[]⟩,⟨[4],[],[]⟩],[],by kernel_rfl,by kernel_rfl,rfl,eqs,by kernel_rfl,by kernel_rfl,by decide⟩
theorem e9 : lS Try.prog 9 c9:=⟨Try.f9,_,⟨[3,32],[],[],[33,89]⟩,[⟨[0,1],[],[]⟩,⟨[0,1,23],[],[]⟩,⟨[4],[],[]⟩,⟨[0,1,5],[],[]⟩,⟨[1,5,6],[],[]⟩,⟨[1,5,6,34],[],[]⟩,⟨[4],[],[]⟩,⟨[1,5,6,7],[],[]⟩,⟨[1,5,6,7],[40202,140000,540200,540204,540206,580400,1600400,2660400],[]⟩,⟨[1,5,6,7,38],[],[]⟩,⟨[1,5,6,7,8],[],[]⟩,⟨[1,5,6,7,8,9,10],[],[]⟩,⟨[1,5,6,7,8,9,10,11,12],[],[]⟩,⟨[1,5,6,7,8,64],[],[]⟩,⟨[4],[],[]⟩,⟨[1,5,6,7,8,66],[],[]⟩,⟨[1,5,6,7,8,66,67],[],[]⟩,⟨[1,5,6,7,8,13,14],[],[]⟩,⟨[1,5,6,7,8,14],[],[]⟩,⟨[1,5,6,7,94],[],[]⟩,⟨[4],[],[]⟩,⟨[1,5,6,7,8,66,95],[],[]⟩,⟨[1,5,6,7,8,15,16],[],[]⟩,⟨[1,5,6,7,15,16,17,18],[],[]⟩,⟨[1,5,6,7,124],[],[]⟩,⟨[4],[],[]⟩,⟨[1,5,6,7,8,125],[],[]⟩,⟨[1,5,6,7,8,19,20],[],[]⟩,⟨[1,5,6,7,8,20],[],[]⟩,⟨[1,5,6,7,142],[],[]⟩,⟨[4],[],[]⟩,⟨[1,5,6,7,155],[40202,140000,540200,540204,540206,580400,1600400,2660400],[]⟩,⟨[4],[],[]⟩,⟨[1,5,6,7],[],[]⟩,⟨[4],[],[]⟩],[],by kernel_rfl,by kernel_rfl,rfl,eqs,by kernel_rfl,by kernel_rfl,by decide⟩
theorem e10 : lS Try.prog 10 c10:=⟨Try.f10,_,⟨[3,32],[],[],[33,89]⟩,[⟨[0,1,2],[],[]⟩,⟨[0,1,2,27],[],[]⟩,⟨[6],[],[]⟩,⟨[0,1,2,7],[],[]⟩,⟨[0,1,2,7,32],[],[]⟩,⟨[6],[],[]⟩,⟨[0,1,2,7,8],[],[]⟩,⟨[0,1,2,7,8],[40202,620200,620204,620206],[]⟩,⟨[0,1,2,7,8,36],[],[]⟩,⟨[0,1,2,7,8,9],[],[]⟩,⟨[0,1,2,7,8,9,53],[],[]⟩,⟨[0,1,2,7,8,9,10,11],[],[]⟩,⟨[0,1,2,7,8,9,10,11,12,13],[],[]⟩,⟨[0,1,2,7,8,9,103],[],[]⟩,⟨[6],[],[]⟩,⟨[0,1,2,7,8,9,105],[],[]⟩,⟨[0,1,2,7,8,9,14],[],[]⟩,⟨[0,1,2,7,8,9,14],[],[]⟩,⟨[0,1,2,7,8,15,16],[],[]⟩,⟨[0,1,2,7,8,130],[],[]⟩,⟨[6],[],[]⟩,⟨[0,1,2,7,8,141],[],[]⟩,⟨[6],[],[]⟩,⟨[0,1,2,7,8],[],[]⟩,⟨[6],[],[]⟩],[],by kernel_rfl,by kernel_rfl,rfl,eqs,by kernel_rfl,by kernel_rfl,by decide⟩
theorem e11 : lS Try.prog 11 c11:=⟨Try.f11,_,⟨[3,32],[],[],[33,89]⟩,[⟨[1],[],[]⟩,⟨[1,9],[],[]⟩,⟨[2],[],[]⟩,⟨[1,3],[],[]⟩,⟨[1,3,4,5],[],[]⟩,⟨[2],[],[]⟩],[],by kernel_rfl,by kernel_rfl,rfl,eqs,by kernel_rfl,by kernel_rfl,by decide⟩
theorem e12 : lS Try.prog 12 c12:=⟨Try.f12,_,⟨[3,32],[],[],[33,89]⟩,[⟨[0,2,4],[],[]⟩,⟨[0,2,4,29],[],[]⟩,⟨[6],[],[]⟩,⟨[0,2,4,7],[],[]⟩,⟨[0,2,4,7,33],[],[]⟩,⟨[6],[],[]⟩,⟨[0,2,4,7,8],[],[]⟩,⟨[0,2,4,7,8],[20202,100000,640200,640204,640206],[]⟩,⟨[0,2,4,7,8,37],[],[]⟩,⟨[0,2,4,7,8],[],[]⟩,⟨[0,2,4,7,8],[],[]⟩,⟨[2,4,7,9,10],[],[]⟩,⟨[2,9,10,11,12],[],[]⟩,⟨[2,9,10,11,12,88],[],[]⟩,⟨[6],[],[]⟩,⟨[2,9,10,11,12,95],[],[]⟩,⟨[6],[],[]⟩,⟨[6],[],[]⟩],[],by kernel_rfl,by kernel_rfl,rfl,eqs,by kernel_rfl,by kernel_rfl,by decide⟩
theorem e13 : lS Try.prog 13 c13:=⟨Try.f13,_,⟨[3,32],[],[],[33,89]⟩,[⟨[0,1,5],[],[]⟩,⟨[0,1,5,29],[],[]⟩,⟨[6],[],[]⟩,⟨[0,1,5,7],[],[]⟩,⟨[0,1,5,7,33],[],[]⟩,⟨[6],[],[]⟩,⟨[0,1,5,7,8],[],[]⟩,⟨[0,1,5,7,8,9],[],[]⟩,⟨[0,1,5,7,8,9],[20202,120000,640200,640204,640206],[]⟩,⟨[0,1,5,7,8,9,37],[],[]⟩,⟨[0,1,5,7,8,9],[],[]⟩,⟨[0,1,5,7,8,9],[],[]⟩,⟨[0,1,5,7,8,9],[],[]⟩,⟨[1,5,7,8,10,11],[],[]⟩,⟨[1,5,7,8,10,11,12],[],[]⟩,⟨[1,5,7,8,10,11,12,13],[],[]⟩,⟨[1,5,7,10,11,12,13,14,15],[],[]⟩,⟨[1,5,10,11,14,15,99],[],[]⟩,⟨[6],[],[]⟩,⟨[10,11,14,15,103],[],[]⟩,⟨[6],[],[]⟩,⟨[6],[],[]⟩],[],by kernel_rfl,by kernel_rfl,rfl,eqs,by kernel_rfl,by kernel_rfl,by decide⟩
theorem e37 : lS Try.prog 37 c37:=⟨Try.f37,_,⟨[3,32],[],[],[33,89]⟩,[⟨[0,1],[],[]⟩,⟨[0,1,5],[],[]⟩,⟨[0,1,5],[20202],[]⟩,⟨[0,1,5,9],[],[]⟩,⟨[0,1,5,28],[],[]⟩,⟨[4],[],[]⟩,⟨[0,1,5],[],[]⟩,⟨[4],[],[]⟩],[],by kernel_rfl,by kernel_rfl,rfl,eqs,by kernel_rfl,by kernel_rfl,by decide⟩
theorem e38 : lS Try.prog 38 DJ:=⟨Try.f38,_,⟨[3,32],[],[],[33,89]⟩,[⟨[],[],[]⟩,⟨[1],[],[]⟩,⟨[1,22],[],[]⟩,⟨[0],[],[]⟩,⟨[1,2],[],[]⟩,⟨[1,2,3],[],[]⟩,⟨[1,2,3,4,5],[],[]⟩,⟨[1,2,3,4,5,7],[],[]⟩,⟨[1,2,3,4,5,7,8],[],[]⟩,⟨[1,2,3,4,5,7,8,9,10],[],[]⟩,⟨[1,2,3,4,5,7,8,9,10,12],[],[]⟩,⟨[1,2,3,4,5,7,8,9,10,12,13],[],[]⟩,⟨[1,2,4,5,7,8,9,10,12,13,14,15],[],[]⟩,⟨[0],[861600,1181600],[]⟩],[],by kernel_rfl,by kernel_rfl,rfl,eqs,by kernel_rfl,by kernel_rfl,by decide⟩
theorem e39 : lS Try.prog 39 Nw:=⟨Try.f39,_,⟨[3,32],[],[],[33,89]⟩,[⟨[0],[],[]⟩,⟨[0,8],[],[]⟩,⟨[2],[],[]⟩,⟨[2],[],[]⟩],[],by kernel_rfl,by kernel_rfl,rfl,eqs,by kernel_rfl,by kernel_rfl,by decide⟩
theorem e40 : lS Try.prog 40 c40:=⟨Try.f40,_,⟨[3,32],[],[],[33,89]⟩,[⟨[0,2],[],[]⟩,⟨[0,2,8],[],[]⟩,⟨[2],[],[]⟩,⟨[2],[],[]⟩],[],by kernel_rfl,by kernel_rfl,rfl,eqs,by kernel_rfl,by kernel_rfl,by decide⟩
theorem e41 : lS Try.prog 41 Ki:=⟨Try.f41,_,⟨[3,32],[],[],[33,89]⟩,[⟨[1],[],[]⟩,⟨[1,15],[],[]⟩,⟨[2,3],[],[]⟩,⟨[1,4],[],[]⟩,⟨[1,5],[],[]⟩,⟨[2,3],[],[]⟩],[],by kernel_rfl,by kernel_rfl,rfl,eqs,by kernel_rfl,by kernel_rfl,by decide⟩
theorem e44 : lS Try.prog 44 zh:=⟨Try.f44,_,⟨[3,32],[],[],[33,89]⟩,[⟨[0,1,3,7,9],[],[]⟩,⟨[0,1,3,7,9,11,12],[],[]⟩,⟨[0,1,3,7,9,12,13],[],[]⟩,⟨[0,1,3,7,9,13,26],[],[]⟩,⟨[10],[],[]⟩,⟨[0,3,7,9,13,42],[],[]⟩,⟨[10],[],[]⟩,⟨[0,3,7,9,13,47],[],[]⟩,⟨[0,3,7,9,13],[],[]⟩,⟨[0,7],[],[]⟩,⟨[0,14,15],[],[]⟩,⟨[0,14,75,76,77],[],[]⟩,⟨[0,14,75,76,77],[20201,20205,20208,1460200,1462200],[]⟩,⟨[0,14,75,76,77,78],[],[]⟩,⟨[0,14,17,75,76,77],[],[]⟩,⟨[0,14,75,76,77],[],[]⟩,⟨[0,14,75,76,77],[],[]⟩,⟨[0],[],[]⟩,⟨[],[],[]⟩,⟨[10],[],[]⟩],[],by kernel_rfl,by kernel_rfl,rfl,eqs,by kernel_rfl,by kernel_rfl,by decide⟩
theorem e45 : lS Try.prog 45 RP:=⟨Try.f45,_,⟨[3,32],[],[],[33,89]⟩,[⟨[1,3,5,6],[],[]⟩,⟨[1,3,5,6,8,9],[],[]⟩,⟨[1,3,5,6,8,21],[],[]⟩,⟨[6,7],[],[]⟩,⟨[6,7],[],[]⟩],[],by kernel_rfl,by kernel_rfl,rfl,eqs,by kernel_rfl,by kernel_rfl,by decide⟩
theorem e46 : lS Try.prog 46 c46:=⟨Try.f46,_,⟨[3,32],[],[],[33,89]⟩,[⟨[0,1,5,6],[],[]⟩,⟨[0,1,5,6,13],[],[]⟩,⟨[6,7],[],[]⟩,⟨[0,1,6,18,19,20],[],[]⟩,⟨[0,1,6,18,19,20],[20201,20205,20208,140000,380000,841600],[]⟩,⟨[0,1,6,18,19,20,21],[],[]⟩,⟨[0,1,6,9,18,19,20],[],[]⟩,⟨[0,1,6,10,11,18,19,20],[],[]⟩,⟨[0,1,6,10,18,19,20,39],[],[]⟩,⟨[6,7],[],[]⟩,⟨[0,1,6,18,19,20],[],[]⟩,⟨[6,7],[],[]⟩],[],by kernel_rfl,by kernel_rfl,rfl,eqs,by kernel_rfl,by kernel_rfl,by decide⟩
theorem e47 : lS Try.prog 47 Uz:=⟨Try.f47,_,⟨[3,32],[],[],[33,89]⟩,[⟨[2,3],[],[]⟩,⟨[4],[],[]⟩],[],by kernel_rfl,by kernel_rfl,rfl,eqs,by kernel_rfl,by kernel_rfl,by decide⟩
theorem e48 : lS Try.prog 48 RQ:=⟨Try.f48,_,⟨[3,32],[],[],[33,89]⟩,[⟨[1,2],[],[]⟩,⟨[2],[],[]⟩],[],by kernel_rfl,by kernel_rfl,rfl,eqs,by kernel_rfl,by kernel_rfl,by decide⟩
theorem e49 : lS Try.prog 49 c49:=⟨Try.f49,_,⟨[3,32],[],[],[33,89]⟩,[⟨[1,2,4],[],[]⟩,⟨[1,2,4,6],[],[]⟩,⟨[1,2,4,6,7],[],[]⟩,⟨[1,2,4,6,7],[20402,60000,100000,140000],[(6,10)]⟩,⟨[1,2,4,6,7,13],[],[]⟩,⟨[1,2,4,6,7,24],[],[]⟩,⟨[1,2,4,6,7],[],[]⟩,⟨[1,2,4,6,7],[],[]⟩,⟨[2,4,6,8],[],[]⟩,⟨[2,4,8],[],[]⟩,⟨[2,4,8,42],[],[]⟩,⟨[2,4,8],[],[]⟩,⟨[4,5],[],[]⟩],[],by kernel_rfl,by kernel_rfl,rfl,eqs,by kernel_rfl,by kernel_rfl,by decide⟩
theorem e51 : lS Try.prog 51 c51:=⟨Try.f51,_,⟨[3,32],[],[],[33,89]⟩,[⟨[0],[],[]⟩,⟨[0,4],[],[]⟩,⟨[2],[],[]⟩,⟨[2],[],[]⟩],[],by kernel_rfl,by kernel_rfl,rfl,eqs,by kernel_rfl,by kernel_rfl,by decide⟩
theorem e53 : lS Try.prog 53 c53:=⟨Try.f53,_,⟨[3,32],[],[],[33,89]⟩,[⟨[0],[],[]⟩,⟨[0,4],[],[]⟩,⟨[2],[],[]⟩,⟨[2],[],[]⟩],[],by kernel_rfl,by kernel_rfl,rfl,eqs,by kernel_rfl,by kernel_rfl,by decide⟩
theorem e54 : lS Try.prog 54 c54:=⟨Try.f54,_,⟨[3,32],[],[],[33,89]⟩,[⟨[1,2],[],[]⟩,⟨[1,2,4],[],[]⟩,⟨[2],[],[]⟩,⟨[2],[],[]⟩],[],by kernel_rfl,by kernel_rfl,rfl,eqs,by kernel_rfl,by kernel_rfl,by decide⟩
theorem e72 : lS Try.prog 72 c72:=⟨Try.f72,_,⟨[3,32],[],[],[33,89]⟩,[⟨[0,2],[],[]⟩,⟨[2],[],[]⟩],[],by kernel_rfl,by kernel_rfl,rfl,eqs,by kernel_rfl,by kernel_rfl,by decide⟩
theorem e78 : lS Try.prog 78 c78:=⟨Try.f78,_,⟨[3,32],[],[],[33,89]⟩,[⟨[1],[],[]⟩,⟨[2],[],[]⟩],[],by kernel_rfl,by kernel_rfl,rfl,eqs,by kernel_rfl,by kernel_rfl,by decide⟩
theorem e79 : lS Try.prog 79 c79:=⟨Try.f79,_,⟨[3,32],[],[],[33,89]⟩,[⟨[1,2],[],[]⟩,⟨[1,2],[],[]⟩,⟨[2],[],[]⟩],[],by kernel_rfl,by kernel_rfl,rfl,eqs,by kernel_rfl,by kernel_rfl,by decide⟩
theorem e80 : lS Try.prog 80 c80:=⟨Try.f80,_,⟨[3,32],[],[],[33,89]⟩,[⟨[1,2],[],[]⟩,⟨[1,2],[],[]⟩,⟨[2],[],[]⟩],[],by kernel_rfl,by kernel_rfl,rfl,eqs,by kernel_rfl,by kernel_rfl,by decide⟩
theorem ents : ∀ p ∈ xS,lS Try.prog p.1 p.2:=List.forall_mem_cons.2 ⟨e14,List.forall_mem_cons.2 ⟨e17,List.forall_mem_cons.2 ⟨e20,List.forall_mem_cons.2 ⟨e22,List.forall_mem_cons.2 ⟨e33,List.forall_mem_cons.2 ⟨e34,List.forall_mem_cons.2 ⟨e35,List.forall_mem_cons.2 ⟨e62,List.forall_mem_cons.2 ⟨e66,List.forall_mem_cons.2 ⟨e67,List.forall_mem_cons.2 ⟨e68,List.forall_mem_cons.2 ⟨e69,List.forall_mem_cons.2 ⟨e73,List.forall_mem_cons.2 ⟨e86,List.forall_mem_cons.2 ⟨e89,List.forall_mem_cons.2 ⟨e90,List.forall_mem_cons.2 ⟨e93,List.forall_mem_cons.2 ⟨e96,List.forall_mem_cons.2 ⟨e108,List.forall_mem_cons.2 ⟨aeL,List.forall_mem_cons.2 ⟨e9,List.forall_mem_cons.2 ⟨e10,List.forall_mem_cons.2 ⟨e11,List.forall_mem_cons.2 ⟨e12,List.forall_mem_cons.2 ⟨e13,List.forall_mem_cons.2 ⟨e37,List.forall_mem_cons.2 ⟨e38,List.forall_mem_cons.2 ⟨e39,List.forall_mem_cons.2 ⟨e40,List.forall_mem_cons.2 ⟨e41,List.forall_mem_cons.2 ⟨e44,List.forall_mem_cons.2 ⟨e45,List.forall_mem_cons.2 ⟨e46,List.forall_mem_cons.2 ⟨e47,List.forall_mem_cons.2 ⟨e48,List.forall_mem_cons.2 ⟨e49,List.forall_mem_cons.2 ⟨e51,List.forall_mem_cons.2 ⟨e53,List.forall_mem_cons.2 ⟨e54,List.forall_mem_cons.2 ⟨e72,List.forall_mem_cons.2 ⟨e78,List.forall_mem_cons.2 ⟨e79,List.forall_mem_cons.2 ⟨e80,fun _ h=>nomatch h⟩⟩⟩⟩⟩⟩⟩⟩⟩⟩⟩⟩⟩⟩⟩⟩⟩⟩⟩⟩⟩⟩⟩⟩⟩⟩⟩⟩⟩⟩⟩⟩⟩⟩⟩⟩⟩⟩⟩⟩⟩⟩⟩
end Go.Proofs.Ytdkkgecdhapfhaa.Kn
set_option maxRecDepth 100000
namespace Go.Proofs.Ytdkkgecdhapfhaa.Kn
open Go Go.RowKit Go.Proofs Ev
set_option maxHeartbeats 2000000 in
theorem L6 (b:Nat) (es:Array MapEntry) (clock:Nat) (w:World) (hb:w.heap[b]? = some (.map es clock)):Calls Try.prog 82 #[.map (some b)] w fun e w'=>e = .returned (.map (some w.heap.size)) ∧ w' = w.alloc (.map es clock):=by
  have hq:=fun w=>run_eql_map_nil_sl (P:=Try.prog) w 120 _ _ (some b) Try.underlying120
  go_enter Try.func82,Try.ntmps82
  go_wp2
  rw [run_callFunc_extern Try.func103 (by kernel_rfl) (by kernel_rfl) (by kernel_rfl) (e:=Extern.MapsClone.clone) (by kernel_rfl),run_maps_clone_sl w 120 hb]
  simp only [Result.andThen]
  rw [Oper.upon_value]
  go_wp2
  rw [run_typeAssert_map_sl _ 120 _ _ _ _ Try.underlying120]
  simp only [Result.andThen]
  rw [Oper.upon_value]
  go_wp2
  go_ret
  exact ⟨rfl,rfl⟩
def gMC (fV:List AV):Option (List AV × List AV):=match fV with
  | [.one (.mp sh l)]=>some ([.one (.mp sh l)],[.one (.mp sh l)])
  | _=>none
theorem Pm : Sat Try.prog 82 gMC:=by
  intro fV rs rH hg Fz w vals bs ha hnd hap hfz
  unfold gMC at hg
  split at hg
  · rename_i sh l
    cases hg
    match vals,ha with
    | [v],⟨b1,b2,h1,h2,e0⟩ =>
      obtain ⟨b,rfl,⟨m,hAt,hRE,hk⟩,rfl⟩:=h1
      obtain rfl:b2 = []:=h2
      subst e0
      obtain ⟨es,clock,m0,m1,m2,m3⟩:=hAt.ex
      refine (L6 b es clock w m0).mono fun e' w' ⟨e1,e2⟩=>?_
      subst e2
      obtain ⟨k1,k2,k3,k4⟩:=yx w (.map es clock)
      have hb:=hap b (by simp)
      have hre:iA Fz (w.alloc (.map es clock)) l m:=iA.mono (fun _ h=>h) (fun x hx=>k2 x (hfz x hx)) _ _ hRE
      refine ⟨Fz,[.map (some w.heap.size)],[b],[w.heap.size],e1,fun _ h=>h,fun x hx=>⟨Nat.lt_of_lt_of_le (hfz x hx) k1,.inl hx⟩,k1,fun x hx _=>k2 x hx,⟨rfl,rfl⟩,⟨[b],[],⟨b,rfl,⟨m,hAt.move (k2 b hb.2),hre,hk⟩,rfl⟩,rfl,rfl⟩,⟨[w.heap.size],[],⟨w.heap.size,rfl,⟨m,⟨⟨es,clock,k3,m1,m2,m3⟩⟩,hre,hk⟩,rfl⟩,rfl,rfl⟩,?_,fun x hx=>?_⟩
      · simp only [List.cons_append,List.nil_append,List.nodup_cons,List.mem_singleton,List.not_mem_nil,not_false_eq_true,List.nodup_nil,and_true]
        omega
      · simp only [List.cons_append,List.nil_append,List.mem_cons,List.not_mem_nil,or_false] at hx
        rcases hx with rfl | rfl
        · exact ⟨hb.1,by omega,.inl (by simp)⟩
        · exact ⟨fun hf=>by have:=hfz _ hf;omega,by omega,.inr (Nat.le_refl _)⟩
  · cases hg
theorem L8 {ext:Env} (h1:iE Try.prog ext) (h2:eu Try.prog ext) (F n:Nat):Sat Try.prog 50 (UM ext F n):=by
  obtain ⟨g1,g2⟩:=Lg (xS:=xS) (F:=F) mixed ents h1 h2 n
  have hf:Try.prog.funcs[50]? = some Try.f50:=by kernel_rfl
  exact FI (X:=⟨[3,32],[],[],[33,89]⟩) (ha:=[⟨[0,1],[],[]⟩,⟨[0,1,9],[],[]⟩,⟨[4],[],[]⟩,⟨[0,1,5],[],[]⟩]) (hb:=[⟨[0,1,5,6,20,28],[],[]⟩,⟨[0,1,5,6,20],[],[]⟩,⟨[0,1,5,20],[],[]⟩]) (hc:=[⟨[0,7],[],[]⟩,⟨[0,7,51],[],[]⟩,⟨[7],[],[]⟩,⟨[4],[],[]⟩]) (ra:=[]) (rb:=[]) (rc:=[]) (ca:=rA) (cb:=rB) (cc:=rC) (g4:=rG4) (g6:=UL) (cf:=cDr) mixed eqs g1 g2 hf rfl rfl rfl Try.underlying120 (by kernel_rfl) (by kernel_rfl) (by kernel_rfl) (by kernel_rfl) (by kernel_rfl) (by kernel_rfl) (by decide) (by decide) (by decide) (by decide) (by decide) (by decide) F
end Go.Proofs.Ytdkkgecdhapfhaa.Kn

/- A part of the proof of SeekRoots: cut, joined and given short names by a program of this session (wip/tools/pack.py); Lean checks it. No condition. -/
import Derived.Test.YtfokaoeinpnagaaPSRtsk
import Derived.Test.YtfokaoeinpnagaaPSRtsi
import Derived.Test.YtfokaoeinpnagaaPSRtsj
import Derived.KernelRfl
import Derived.Test.YtfokaoeinpnagaaPSRtsd
set_option linter.unusedSectionVars false
set_option linter.unusedSimpArgs false
set_option linter.unusedVariables false
set_option maxHeartbeats 16000000
set_option maxRecDepth 100000
namespace Go.Proofs.Ytfokaoeinpnagaa.Kd
section
attribute [local go_sem_proc] Nat.reduceAdd Nat.reduceMul Nat.reduceEqDiff Nat.reduceBEq Nat.reduceMod Nat.reduceDiv reduceCtorEq
attribute [local go_sem_proc ↓] reduceIte
open Go Ev Kc
variable {θ : Th} {nm:Int → ByteArray → List ByteArray} {gt:ByteArray → Int → Int → Int × Bool} {up:ByteArray → ByteArray × Bool} {ext:Env} {F n:Nat}
theorem EH {pk:Qn → It × Bool} {Q:ByteArray → Prop}:∀ (l:List ByteArray) (a:List ByteArray × List ByteArray),(∀ x ∈ l,Q x) → (∀ x ∈ a.2,Q x) → ∀ x ∈ (l.foldl (kI pk) a).2,Q x
 | [],a,_,h=>h
 | y :: l,a,hl,h=>EH l _ (fun x hx=>hl x (by simp [hx])) (by
  unfold kI
  split
  ·exact h
  ·intro x hx
   rcases ah2.mp hx with hx | hx
   ·exact h x hx
   ·rw [ait.mp hx];exact hl y (by simp))
theorem Iy {pk:Qn → It × Bool} {Q:ByteArray → Prop} (hn:∀ d,∀ x ∈ nm 2 d,Q x):∀ (l:List ByteArray) (a:List ByteArray × List ByteArray),(∀ x ∈ a.2,Q x) → ∀ x ∈ (l.foldl (vL nm pk) a).2,Q x
 | [],a,h=>h
 | d :: l,a,h=>Iy hn l _ (EH _ _ (hn d) h)
theorem Ro {pk:Qn → It × Bool} {roots:List ByteArray} {q:ByteArray} {Q:ByteArray → Prop} (hn:∀ d,∀ x ∈ nm 2 d,Q x):∀ x ∈ (cut θ nm up pk roots q).2.2,Q x:=by
 have hF:∀ (f:Nat) (z:ByteArray),∀ x ∈ (qC nm up pk roots f z).2.2,Q x:=by
  intro f
  induction f with
  | zero=>intro z x h;simp [qC] at h
  | succ f ih =>
   intro z x h
   unfold qC at h
   split at h
   ·exact Iy hn _ _ (fun y hy=>by simp at hy) x h
   ·split at h
    ·exact ih _ x h
    ·simp at h
 intro x h
 unfold cut at h
 split at h
 ·simp at h
 ·exact hF _ _ x h
structure Tw (t:Tk) (N:Nat):Prop extends aa8 t where
 len:t.goals.length ≤ N
theorem yE {z:ByteArray} {g:Gl}:(q9 z g).q = g.q:=by unfold q9;split <;> rfl
theorem Wu (S:Sk θ nm gt up ext) {w:Wd} (hw:w.work ≤ 9223372036854775807) {t:Tk} {N:Nat} (hN:4 ≤ N) (h:Tw t N):Tw (yO θ nm up w t).2 N:=by
 obtain ⟨l,s⟩:=t
 obtain ⟨⟨h1,h2,h3⟩,h4⟩:=h
 simp only at h1 h2 h3 h4
 by_cases h0:l = []
 ·subst h0;rw [Cx];exact ⟨⟨h1,h2,h3⟩,h4⟩
 obtain ⟨init,g,rfl⟩:=NU h0
 rw [ahJ,List.length_singleton] at h4
 rw [vZ]
 have hg:=h1 g (by simp)
 have hi:=fun x hx=>h1 x (ah2.mpr (.inl hx))
 have same:Tw ⟨init ++ [g],s⟩ N:=⟨⟨h1,h2,h3⟩,by simpa using h4⟩
 unfold Cw
 simp only
 split
 ·have hc:=@Ro θ nm up (bF w.s w.now) w.roots (yN nm (bF w.s w.now) (Ne.gq w.m w.now) w.now g.q).nm (fun x=>x.size ≤ 1000000) (fun d x hx=>by have:=(S.nl 2 d).2 x hx;omega)
  generalize cut θ nm up (bF w.s w.now) w.roots _ = R at hc ⊢
  have same':∀ g':Gl,g'.q = g.q → ∀ s', -9223372036854775808 ≤ s' → s' ≤ 9223372036854775807 → Tw ⟨init ++ [g'],s'⟩ N:=fun g' e s' a b=>⟨⟨fun x hx=>by
   rcases ah2.mp hx with hx | hx
   ·exact hi x hx
   ·rw [ait.mp hx,e];exact hg,a,b⟩,by simpa using h4⟩
  unfold Tt
  simp only
  split
  ·cases hf:Qe (init ++ [q9 R.1 g]) R.2.2 with
   | none=>exact same' _ yE _ h2 h3
   | some x =>
    simp only
    split
    ·exact same' _ yE _ h2 h3
    ·rename_i h5
     rw [ahJ,List.length_singleton] at h5
     refine ⟨⟨fun y hy=>?_,h2,h3⟩,by simp;omega⟩
     rcases ah2.mp hy with hy | hy
     ·exact (same' (q9 R.1 g) yE s h2 h3).g y hy
     ·rw [ait.mp hy];exact hc x (Iw hf)
  ·split
   ·exact same' _ yE _ h2 h3
   ·rename_i h6
    exact same' ⟨(q9 R.1 g).q,(q9 R.1 g).zone,(q9 R.1 g).tries + 1⟩ yE _ (by omega) (by omega)
 ·split
  ·exact same
  ·split
   ·exact ⟨⟨hi,h2,h3⟩,by show init.length ≤ N;omega⟩
   ·exact same
theorem EI (S:Sk θ nm gt up ext) (q:Qn) (hq:q.q.size ≤ 1000000):G2 ext F (n + 2) 27 [q.v] = some ([(Tk.v ⟨[⟨⟨θ.low q.q,q.t,q.c⟩,⟨#[]⟩,0⟩],0⟩)],[q.v]):=by
 refine dM (cf:=c27) rfl ?_
 have h1:=fun n=>Z4 (F:=F) (n:=n) S q.q hq
 dsimp only [c27,aA,cB,bq,bI,aG,bG,dV,eu,dH,aD,dn,dz,bP,aU];simp only [h1,go_sem]
 rfl
structure Cs where
 l:List Pt
 now:Int
 roots:List ByteArray
 work:Int
abbrev Cs.v (c:Cs):AV:=.agg [.f (.sl (c.l.map rP)),.f (.int .i64 c.now),.f (.sl (c.roots.map bB)),.f (.int .i64 c.work)]
abbrev Cs.ov (c:Cs):AV:=.agg [.own 10 (c.l.map rP),.f (.int .i64 c.now),.f (.sl (c.roots.map bB)),.f (.int .i64 c.work)]
def Cs.w (θ:Th) (gt:ByteArray → Int → Int → Int × Bool) (c:Cs):Wd:=⟨(mO θ gt c.l).1,(mO θ gt c.l).2,c.now,c.roots,c.work⟩
theorem EJ (S:Sk θ nm gt up ext) (c:Cs) (hl:c.l.length ≤ 1000) (hf:qY c.l = true):G2 ext F (n + 2) 26 [c.v] = some ([(c.w θ gt).v],[c.v]):=by
 refine dM (cf:=XM) rfl ?_
 have h1:=fun n=>aeM (F:=F) (n:=n) S c.l hl hf
 unfold Cs.w
 generalize (mO θ gt c.l).1 = s at h1 ⊢
 generalize (mO θ gt c.l).2 = m at h1 ⊢
 dsimp only [XM,aA,cB,bq,bI,aG,bG,dV,eu,dH,aD,dn,dz,bP,aU];simp only [h1,go_sem]
 done
theorem uL (S:Sk θ nm gt up ext) (c:Cs) (hl:c.l.length ≤ 1000) (hf:qY c.l = true):G2 ext F (n + 2) 26 [c.ov] = some ([(c.w θ gt).v],[c.ov]):=by
 refine dM (cf:=XM) rfl ?_
 have h1:=fun n=>aeN (F:=F) (n:=n) S c.l hl hf
 unfold Cs.w
 generalize (mO θ gt c.l).1 = s at h1 ⊢
 generalize (mO θ gt c.l).2 = m at h1 ⊢
 dsimp only [XM,aA,cB,bq,bI,aG,bG,dV,eu,dH,aD,dn,dz,bP,aU];simp only [h1,go_sem]
 done
theorem yF (a:ByteArray) (k:Int) (d:ByteArray):G2 ext F (n + 1) 47 [vs a,vi k,vs d] = some ([(Se.v ⟨a,k,1,[d],99⟩)],[vs a,vi k,vs d]):=by
 refine dM (cf:=c47) rfl ?_
 dsimp only [c47,aA,cB,bq,bI,aG,bG,dV,eu,dH,aD,dn,dz,bP,aU];simp only [go_sem]
 try rfl
end
section
attribute [local go_sem_proc] Nat.reduceAdd Nat.reduceMul Nat.reduceEqDiff Nat.reduceBEq Nat.reduceMod Nat.reduceDiv reduceCtorEq
attribute [local go_sem_proc ↓] reduceIte
open Go Ev Kc
variable {θ : Th} {nm:Int → ByteArray → List ByteArray} {gt:ByteArray → Int → Int → Int × Bool} {up:ByteArray → ByteArray × Bool} {ext:Env} {F n:Nat}
def nxT (w:Wd) (b:Bool) (x:Tk):St:=match b with
 | false=>⟨[(2,PV.c (CV.one (PL.ptr 60000 0))),(3,PV.c (CV.one (PL.ptr 80000 0))),(4,PV.c (CV.one (PL.ptr 100000 0))),(5,PV.c (CV.one (PL.ptr 120000 0)))],[(20201,Ob.eY [PL.f (FV.int IntKind.i64 w.s.room),PL.mp 20205,PL.f (FV.sl (List.map rQ w.s.o)),PL.f (FV.int IntKind.i64 w.s.ch)]),(20205,Ob.map kM (List.map ent w.s.m)),(20401,Ob.eY [PL.f (FV.int IntKind.i64 w.m.room),PL.mp 20405,PL.f (FV.sl (List.map rQ w.m.o)),PL.f (FV.int IntKind.i64 w.m.ch)]),(20405,Ob.map Ne.kM (List.map Ne.ent w.m.m)),(60000,Ob.eY [PL.ptr 20201 0,PL.ptr 20401 0,PL.f (FV.int IntKind.i64 w.now),PL.f (FV.sl (List.map bB w.roots)),PL.f (FV.int IntKind.i64 w.work)]),(80000,Ob.eY [PL.own 220200 (List.map rG x.goals).length,PL.f (FV.int IntKind.i64 x.sends)]),(100000,Ob.eY [PL.bT,PL.f (FV.int IntKind.i64 0)]),(120000,Ob.eY [PL.f (FV.int IntKind.i64 0),PL.bT,PL.f (FV.int IntKind.i64 0),PL.f (FV.str ⟨#[]⟩),PL.f (FV.str ⟨#[]⟩),PL.f (FV.int IntKind.i64 0),PL.f (FV.int IntKind.i64 0),PL.bT,PL.f (FV.int IntKind.i64 0),PL.f (FV.int IntKind.i64 0),PL.f (FV.str ⟨#[]⟩),PL.f (FV.str ⟨#[]⟩),PL.f (FV.int IntKind.i64 0),PL.f (FV.int IntKind.i64 0),PL.f (FV.str ⟨#[]⟩)]),(220200,Ob.row 5 (List.map rG x.goals))]⟩
 | true=>⟨[(2,PV.c (CV.one (PL.ptr 60000 0))),(3,PV.c (CV.one (PL.ptr 80000 0))),(4,PV.c (CV.one (PL.ptr 100000 0))),(5,PV.c (CV.one (PL.ptr 120000 0)))],[(20201,Ob.eY [PL.f (FV.int IntKind.i64 w.s.room),PL.mp 310004,PL.f (FV.sl (List.map rQ w.s.o)),PL.f (FV.int IntKind.i64 w.s.ch)]),(20401,Ob.eY [PL.f (FV.int IntKind.i64 w.m.room),PL.mp 310204,PL.f (FV.sl (List.map rQ w.m.o)),PL.f (FV.int IntKind.i64 w.m.ch)]),(60000,Ob.eY [PL.ptr 20201 0,PL.ptr 20401 0,PL.f (FV.int IntKind.i64 w.now),PL.f (FV.sl (List.map bB w.roots)),PL.f (FV.int IntKind.i64 w.work)]),(80000,Ob.eY [PL.own 220200 (List.map rG x.goals).length,PL.f (FV.int IntKind.i64 x.sends)]),(100000,Ob.eY [PL.bT,PL.f (FV.int IntKind.i64 0)]),(120000,Ob.eY [PL.f (FV.int IntKind.i64 0),PL.bT,PL.f (FV.int IntKind.i64 0),PL.f (FV.str ⟨#[]⟩),PL.f (FV.str ⟨#[]⟩),PL.f (FV.int IntKind.i64 0),PL.f (FV.int IntKind.i64 0),PL.bT,PL.f (FV.int IntKind.i64 0),PL.f (FV.int IntKind.i64 0),PL.f (FV.str ⟨#[]⟩),PL.f (FV.str ⟨#[]⟩),PL.f (FV.int IntKind.i64 0),PL.f (FV.int IntKind.i64 0),PL.f (FV.str ⟨#[]⟩)]),(220200,Ob.row 5 (List.map rG x.goals)),(310004,Ob.map kM (List.map ent w.s.m)),(310204,Ob.map Ne.kM (List.map Ne.ent w.m.m))]⟩
theorem Tx (w:Wd) (x:Tk):nxT w false x = ⟨[(2,PV.c (CV.one (PL.ptr 60000 0))),(3,PV.c (CV.one (PL.ptr 80000 0))),(4,PV.c (CV.one (PL.ptr 100000 0))),(5,PV.c (CV.one (PL.ptr 120000 0)))],[(20201,Ob.eY [PL.f (FV.int IntKind.i64 w.s.room),PL.mp 20205,PL.f (FV.sl (List.map rQ w.s.o)),PL.f (FV.int IntKind.i64 w.s.ch)]),(20205,Ob.map kM (List.map ent w.s.m)),(20401,Ob.eY [PL.f (FV.int IntKind.i64 w.m.room),PL.mp 20405,PL.f (FV.sl (List.map rQ w.m.o)),PL.f (FV.int IntKind.i64 w.m.ch)]),(20405,Ob.map Ne.kM (List.map Ne.ent w.m.m)),(60000,Ob.eY [PL.ptr 20201 0,PL.ptr 20401 0,PL.f (FV.int IntKind.i64 w.now),PL.f (FV.sl (List.map bB w.roots)),PL.f (FV.int IntKind.i64 w.work)]),(80000,Ob.eY [PL.own 220200 (List.map rG x.goals).length,PL.f (FV.int IntKind.i64 x.sends)]),(100000,Ob.eY [PL.bT,PL.f (FV.int IntKind.i64 0)]),(120000,Ob.eY [PL.f (FV.int IntKind.i64 0),PL.bT,PL.f (FV.int IntKind.i64 0),PL.f (FV.str ⟨#[]⟩),PL.f (FV.str ⟨#[]⟩),PL.f (FV.int IntKind.i64 0),PL.f (FV.int IntKind.i64 0),PL.bT,PL.f (FV.int IntKind.i64 0),PL.f (FV.int IntKind.i64 0),PL.f (FV.str ⟨#[]⟩),PL.f (FV.str ⟨#[]⟩),PL.f (FV.int IntKind.i64 0),PL.f (FV.int IntKind.i64 0),PL.f (FV.str ⟨#[]⟩)]),(220200,Ob.row 5 (List.map rG x.goals))]⟩:=rfl
theorem Tz (w:Wd) (x:Tk):nxT w true x = ⟨[(2,PV.c (CV.one (PL.ptr 60000 0))),(3,PV.c (CV.one (PL.ptr 80000 0))),(4,PV.c (CV.one (PL.ptr 100000 0))),(5,PV.c (CV.one (PL.ptr 120000 0)))],[(20201,Ob.eY [PL.f (FV.int IntKind.i64 w.s.room),PL.mp 310004,PL.f (FV.sl (List.map rQ w.s.o)),PL.f (FV.int IntKind.i64 w.s.ch)]),(20401,Ob.eY [PL.f (FV.int IntKind.i64 w.m.room),PL.mp 310204,PL.f (FV.sl (List.map rQ w.m.o)),PL.f (FV.int IntKind.i64 w.m.ch)]),(60000,Ob.eY [PL.ptr 20201 0,PL.ptr 20401 0,PL.f (FV.int IntKind.i64 w.now),PL.f (FV.sl (List.map bB w.roots)),PL.f (FV.int IntKind.i64 w.work)]),(80000,Ob.eY [PL.own 220200 (List.map rG x.goals).length,PL.f (FV.int IntKind.i64 x.sends)]),(100000,Ob.eY [PL.bT,PL.f (FV.int IntKind.i64 0)]),(120000,Ob.eY [PL.f (FV.int IntKind.i64 0),PL.bT,PL.f (FV.int IntKind.i64 0),PL.f (FV.str ⟨#[]⟩),PL.f (FV.str ⟨#[]⟩),PL.f (FV.int IntKind.i64 0),PL.f (FV.int IntKind.i64 0),PL.bT,PL.f (FV.int IntKind.i64 0),PL.f (FV.int IntKind.i64 0),PL.f (FV.str ⟨#[]⟩),PL.f (FV.str ⟨#[]⟩),PL.f (FV.int IntKind.i64 0),PL.f (FV.int IntKind.i64 0),PL.f (FV.str ⟨#[]⟩)]),(220200,Ob.row 5 (List.map rG x.goals)),(310004,Ob.map kM (List.map ent w.s.m)),(310204,Ob.map Ne.kM (List.map Ne.ent w.m.m))]⟩:=rfl
theorem Iz (S:Sk θ nm gt up ext) (w:Wd) (K:Wk θ nm up w) (hF:200000000000001 ≤ F) (t:Tk) (ht:Tw t 900) (R:Stp × Tk) (hR:Wo θ nm up w (t.goals.length + 6) t = R) :
  G2 ext F (n + 7) 28 [w.v,t.v] = some ([R.2.v,R.1.v],[w.v,t.v]):=by
 refine dM (cf:=c28) rfl ?_
 have cg:=fun n=>aeL (F:=F) (n:=n) S t.goals (by have:=ht.len;omega)
 have htl:=ht.len
 dsimp only [c28,aA,cB,bq,bI,aG,bG,dV,eu,dH,aD,dn,dz,bP,aU];simp only [cg,go_sem]
 refine xw (t.goals.length + 6) (fun x:Bool × Tk=>nxT w x.1 x.2) (fun i x=>Tw x.2 900 ∧ rk nm w x.2 + i < t.goals.length + 6 ∧ Wo θ nm up w (t.goals.length + 6 - i) x.2 = R) (by omega) (false,t) rfl ⟨ht,by have:=@Tv nm w t;show rk nm w t + 0 < _;omega,hR⟩ (fun i x hi hP=>?_) (fun x hP=>absurd hP.2.1 (by omega))
 obtain ⟨b,x⟩:=x
 obtain ⟨h1,h2,h3⟩:=hP
 simp only at h1 h2 h3 ⊢
 have st:=fun n=>NW (F:=F) (n:=n) S w K hF x (by have:=h1.len;omega) h1.toaa8 _ rfl
 have hb:=Wu S K.hw (N:=900) (by decide) h1
 obtain ⟨f,hff⟩:∃ f,t.goals.length + 6 - i = f + 1:=⟨t.goals.length + 5 - i,by omega⟩
 rw [hff] at h3
 unfold Wo at h3
 have hrk:=@Wt θ nm up w x
 generalize yO θ nm up w x = M at st hb h3 hrk
 obtain ⟨⟨M1,M2⟩,M3⟩:=M
 simp only at st hb h3 hrk
 cases M2 with
 | true =>
  rw [ahC rfl] at h3
  subst h3
  cases b
  all_goals
   first | rw [Tx] | rw [Tz]
   simp only [st,go_sem]
   try rfl
 | false =>
  rw [ahD aiF] at h3
  have hlt:=hrk rfl
  cases b
  all_goals
   first | rw [Tx] | rw [Tz]
   simp only [st,go_sem]
   exact ⟨(true,M3),rfl,hb,by show rk nm w M3 + (i + 1) < _;omega,by rw [show t.goals.length + 6 - (i + 1) = f from by omega];exact h3⟩
end
section
open Go Ev Kc
variable {θ : Th} {nm:Int → ByteArray → List ByteArray} {gt:ByteArray → Int → Int → Int × Bool} {up:ByteArray → ByteArray × Bool} {ext:Env} {F n:Nat}
theorem EK {pk:Qn → It × Bool} (hp:∀ q,(pk q).1.d.length ≤ 60):∀ (l:List ByteArray) (a:List ByteArray × List ByteArray),(l.foldl (kI pk) a).1.length ≤ a.1.length + 60 * l.length ∧ (l.foldl (kI pk) a).2.length ≤ a.2.length + l.length
 | [],a=>by simp
 | y :: l,a=>by
  have:=EK hp l (kI pk a y)
  have h2:(kI pk a y).1.length ≤ a.1.length + 60 ∧ (kI pk a y).2.length ≤ a.2.length + 1:=by
   have:=hp ⟨y,1,1⟩
   unfold kI
   split
   ·simp only [ahJ];omega
   ·simp only [ahJ,List.length_singleton];omega
  simp only [List.foldl_cons,List.length_cons]
  omega
theorem IB {pk:Qn → It × Bool} (hp:∀ q,(pk q).1.d.length ≤ 60) (hn:∀ d,(nm 2 d).length ≤ 2):∀ (l:List ByteArray) (a:List ByteArray × List ByteArray),(l.foldl (vL nm pk) a).1.length ≤ a.1.length + 120 * l.length ∧ (l.foldl (vL nm pk) a).2.length ≤ a.2.length + 2 * l.length
 | [],a=>by simp
 | y :: l,a=>by
  have h1:=IB hp hn l (vL nm pk a y)
  have h2:=EK hp (nm 2 y) a
  have h3:=hn y
  have h4:(vL nm pk a y).1.length ≤ a.1.length + 120 ∧ (vL nm pk a y).2.length ≤ a.2.length + 2:=by
   unfold vL;omega
  simp only [List.foldl_cons,List.length_cons]
  omega
theorem Rp {pk:Qn → It × Bool} (hp:∀ q,(pk q).1.d.length ≤ 60) (hn:∀ d,(nm 2 d).length ≤ 2) {roots:List ByteArray} (hr:roots.length ≤ 1000000) (q:ByteArray):(cut θ nm up pk roots q).2.1.length ≤ 1000000 ∧ (cut θ nm up pk roots q).2.2.length ≤ 1000000:=by
 have hF:∀ (f:Nat) (z:ByteArray),(qC nm up pk roots f z).2.1.length ≤ 1000000 ∧ (qC nm up pk roots f z).2.2.length ≤ 1000000:=by
  intro f
  induction f with
  | zero=>intro z;exact ⟨hr,by simp [qC]⟩
  | succ f ih =>
   intro z
   unfold qC
   split
   ·have h1:=IB hp hn (pk ⟨z,2,1⟩).1.d ([],[])
    have h2:=hp ⟨z,2,1⟩
    simp only [List.length_nil] at h1
    unfold XO
    simp only
    omega
   ·split
    ·exact ih _
    ·exact ⟨hr,by simp⟩
 unfold cut
 split
 ·simp
 ·exact hF _ _
theorem NZ {pk:Qn → It × Bool} {fd:Qn → Ne.Nt × Bool} {now:Int} (hn:∀ d,∀ x ∈ nm 5 d,x.size ≤ 255):∀ (f:Nat) (met:List ByteArray) (hits:List vW) (q:Qn),q.q.size ≤ 1000000 → (CO nm pk fd now f met hits q).nm.size ≤ 1000000
 | 0,met,hits,q,h=>h
 | f + 1,met,hits,q,h=>by
  cases h1:tl pk now q with
  | some x=>simp only [CO,h1];exact h
  | none =>
   cases h2:al nm pk now q with
   | none =>
    simp only [CO,h1,h2]
    unfold Kc.fin
    split <;> exact h
   | some p =>
    obtain ⟨x,ZZ8⟩:=p
    simp only [CO,h1,h2]
    split
    ·exact h
    ·refine NZ hn f _ _ _ ?_
     unfold al at h2
     split at h2
     ·cases h2
     ·obtain ⟨y,hy,h3⟩:=zbm h2
      obtain ⟨z,hz,h4⟩:=zmm h3
      cases h4
      unfold tg at hz
      split at hz
      ·obtain ⟨d, -,hd⟩:=zbm hz
       have:=hn d ZZ8 (List.mem_of_mem_head? hd)
       show ZZ8.size ≤ 1000000
       omega
      ·cases hz
theorem Wv {pk:Qn → It × Bool} {fd:Qn → Ne.Nt × Bool} {now:Int} (hn:∀ d,∀ x ∈ nm 5 d,x.size ≤ 255) (q:Qn) (h:q.q.size ≤ 1000000):(yN nm pk fd now q).nm.size ≤ 1000000:=NZ hn 9 _ _ q h
theorem aa9 {s:Sv} {now:Int} (h:∀ x ∈ s.m,x.d.length ≤ 60) (q:Qn):(bF s now q).1.d.length ≤ 60:=by
 unfold bF
 split
 ·rename_i x ho
  split
  ·exact h x (lF ho).2
  ·exact aij _
 ·exact aij _
theorem Ww {l:List Pt} (hf:qY l = true):∀ x ∈ (mO θ gt l).1.m,x.d.length ≤ 60:=fun x hx=>by
 obtain ⟨p,hp, -,rfl⟩:=(fiA (θ:=θ) (gt:=gt) l).s.it x hx
 have:=ahR.mp hf p hp
 rw [ahK] at this
 exact (z8 this.1).2.1
theorem TA (S:Sk θ nm gt up ext) (c:Cs) (hf:qY c.l = true) (hr:c.roots.length ≤ 1000000) (hw:c.work ≤ 9223372036854775807):Wk θ nm up (c.w θ gt):=by
 have W:=(fiA (θ:=θ) (gt:=gt) c.l).w hf
 refine ⟨W,W.hd,W.hy,hr,hw,fun q=>?_,fun q h=>Wv (fun d x hx=>(S.nl 5 d).2 x hx) q h⟩
 have:=Rp (θ:=θ) (nm:=nm) (up:=up) (pk:=bF (c.w θ gt).s (c.w θ gt).now) (aa9 (Ww hf)) (fun d=>(S.nl 2 d).1) (roots:=c.roots) hr q
 exact ⟨ahX this.1 (by decide),ahX this.2 (by decide)⟩
end
section
open Go Ev Kc
theorem Wx {m:ByteArray} (h:B.je m = true):m ≠ ⟨#[]⟩:=by
 rintro rfl
 exact absurd h (by decide +kernel)
end
section
attribute [local go_sem_proc] Nat.reduceAdd Nat.reduceMul Nat.reduceEqDiff Nat.reduceBEq Nat.reduceMod Nat.reduceDiv reduceCtorEq
attribute [local go_sem_proc ↓] reduceIte
open Go Ev Kc
variable {nm : Int → ByteArray → List ByteArray} {gt:ByteArray → Int → Int → Int × Bool} {ext:Env} {F n:Nat}
def CQ (roots:List ByteArray) (work:Int):Wd:=⟨Qc,m50,1,roots,work⟩
def Ru (Q:Qn) (i:Nat):Gl:=⟨Q,if i = 0 then ⟨#[]⟩ else Hy,i⟩
def Oi (Q:Qn) (i:Nat):Tk:=⟨[Ru Q i],i⟩
theorem sp0 (q:Qn):(bF Qc 1 q).2 = false:=rfl
theorem afs (Q:Qn):yN nm (bF Qc 1) (Ne.gq m50 1) 1 Q = ⟨[],3,Q.q,oh⟩:=by
 unfold yN
 rw [show (9:Nat) = 8 + 1 from rfl,CO]
 have h1:tl (bF Qc 1) 1 Q = none:=rfl
 have h2:al nm (bF Qc 1) 1 Q = none:=by unfold al;split <;> rfl
 rw [h1,h2]
 rfl
theorem TB {pk:Qn → It × Bool} (hpk:∀ q,(pk q).2 = false) {up:ByteArray → ByteArray × Bool} {roots:List ByteArray}:∀ (f:Nat) (z:ByteArray),qC nm up pk roots f z = (Hy,roots,[])
 | 0,z=>rfl
 | f + 1,z=>by
  unfold qC
  rw [ahD (by rw [hpk];decide)]
  split
  ·exact TB hpk f _
  ·rfl
theorem aft {Q:Qn} (hQ:B.je Q.q = true) {roots:List ByteArray} {work:Int} (hr:roots ≠ []) (i:Nat) (f:Nat) :
  Wo kV nm B.up (CQ roots work) (f + 1) (Oi Q i) = if 2 * (roots.length:Int) ≤ i ∨ work ≤ i then (xG,⟨[⟨Q,Hy,i⟩],i⟩) else (⟨0,ZY,NT roots i,⟨Q.q,Q.t,Q.c⟩,Hy⟩,Oi Q (i + 1)):=by
 have e:yO kV nm B.up (CQ roots work) (Oi Q i) = Cw kV nm B.up (CQ roots work) [] (Ru Q i) i:=vZ (init:=[])
 have hc:cut kV nm B.up (bF Qc 1) roots Q.q = (Hy,roots,[]):=by
  unfold cut
  rw [show kV.low Q.q = B.kg Q.q from by show EC _ = _;unfold EC;rw [ahC hQ],ahD (Wx (ZQ.IE hQ))]
  exact TB sp0 _ _
 have hg:q9 Hy (Ru Q i) = ⟨Q,Hy,i⟩:=by
  unfold q9 Ru
  by_cases h:i = 0
  ·subst h;rfl
  ·simp [h]
 have hs:Cw kV nm B.up (CQ roots work) [] (Ru Q i) i = if 2 * (roots.length:Int) ≤ i ∨ work ≤ i then ((xG,true),⟨[⟨Q,Hy,i⟩],i⟩) else ((⟨0,ZY,NT roots i,⟨Q.q,Q.t,Q.c⟩,Hy⟩,true),Oi Q (i + 1)):=by
  unfold Cw
  have hch:yN nm (bF (CQ roots work).s (CQ roots work).now) (Ne.gq (CQ roots work).m (CQ roots work).now) (CQ roots work).now (Ru Q i).q = ⟨[],3,Q.q,oh⟩:=afs Q
  generalize yN nm (bF (CQ roots work).s (CQ roots work).now) (Ne.gq (CQ roots work).m (CQ roots work).now) (CQ roots work).now (Ru Q i).q = ch at hch ⊢
  subst hch
  simp only [ah9]
  show Tt (cut kV nm B.up (bF Qc 1) roots Q.q) work [] (Ru Q i) i Q.q = _
  rw [hc]
  unfold Tt
  simp only [hg]
  rw [ahD hr]
  by_cases h:2 * (roots.length:Int) ≤ i ∨ work ≤ i
  ·rw [ahC h,ahC (.inr h)];rfl
  ·rw [ahD h,ahD (by rintro (h' | h');omega;exact h h')]
   simp [Oi,Ru]
 unfold Wo
 rw [e,hs]
 by_cases h:2 * (roots.length:Int) ≤ i ∨ work ≤ i
 ·simp only [ahC h];rfl
 ·simp only [ahD h];rfl
theorem nx_ {i:Nat} (h:i ≤ 1000000):IntKind.i64.wrap ((i:Int) + 1) = ((i + 1:Nat):Int):=by rw [nY (by omega) (by omega)];omega
structure ExR (ext:Env):Prop where
 rc:∀ q,q.size ≤ 1000000 → ext 24 [vs q] = some ([vb (B.je q)],[vs q])
theorem Cy (S:Sk kV nm gt B.up ext) (hv:∀ n,G2 ext F (n + 8) 25 [] = some ([vb true],[])) (E:ExR ext) (hF:200000000000001 ≤ F) (roots:List ByteArray) (work:Int) (q:Qn) (hr:roots.length ≤ 200000000000000):G2 ext F (n + 9) 7 [vl (roots.map bB),vi work,q.v] = some ([vb true],[vl (roots.map bB),vi work,q.v]):=by
 refine dM (cf:=c7) rfl ?_
 by_cases g1:roots.length < 1
 ·have g1':decide ((roots.length:Int) < 1) = true:=ahE (by omega)
  dsimp only [c7,aA,cB,bq,bI,aG,bG,dV,eu,dH,aD,dn,dz,bP,aU];simp only [ahF,g1',hv,go_sem]
  try rfl
 have g1':decide ((roots.length:Int) < 1) = false:=ahH (by omega)
 by_cases g2:20 < roots.length
 ·have g2':decide ((20:Int) < (roots.length:Int)) = true:=ahE (by omega)
  dsimp only [c7,aA,cB,bq,bI,aG,bG,dV,eu,dH,aD,dn,dz,bP,aU];simp only [ahF,g1',g2',hv,go_sem]
  try rfl
 have g2':decide ((20:Int) < (roots.length:Int)) = false:=ahH (by omega)
 by_cases g3:work < 0
 ·have g3':decide (work < 0) = true:=ahE g3
  dsimp only [c7,aA,cB,bq,bI,aG,bG,dV,eu,dH,aD,dn,dz,bP,aU];simp only [ahF,g1',g2',g3',hv,go_sem]
  try rfl
 have g3':decide (work < 0) = false:=ahH g3
 by_cases g4:60 < work
 ·have g4':decide ((60:Int) < work) = true:=ahE g4
  dsimp only [c7,aA,cB,bq,bI,aG,bG,dV,eu,dH,aD,dn,dz,bP,aU];simp only [ahF,g1',g2',g3',g4',hv,go_sem]
  try rfl
 have g4':decide ((60:Int) < work) = false:=ahH g4
 by_cases g5:300 < q.q.size
 ·have g5':decide ((300:Int) < (q.q.size:Int)) = true:=ahE (by omega)
  dsimp only [c7,aA,cB,bq,bI,aG,bG,dV,eu,dH,aD,dn,dz,bP,aU];simp only [ahF,g1',g2',g3',g4',g5',hv,go_sem]
  try rfl
 have g5':decide ((300:Int) < (q.q.size:Int)) = false:=ahH (by omega)
 have hck:=fun n=>(aik (iq (oL:=oL) (ext:=ext) (F:=F) (n:=n) (f:=24) rfl) _).trans (E.rc q.q (by omega))
 cases hN:B.je q.q with
 | false =>
  rw [hN] at hck
  dsimp only [c7,aA,cB,bq,bI,aG,bG,dV,eu,dH,aD,dn,dz,bP,aU];simp only [ahF,g1',g2',g3',g4',g5',hck,hv,go_sem]
  try rfl
 | true =>
  rw [hN] at hck
  have hc0:qY ([]:List Pt) = true:=rfl
  have wd:=fun n=>EJ (F:=F) (n:=n) (gt:=gt) S ⟨[],1,roots,work⟩ (aij _) hc0
  change ∀ n,_ = some ([(CQ roots work).v],_) at wd
  have K:Wk kV nm B.up (CQ roots work):=TA S ⟨[],1,roots,work⟩ hc0 (by show roots.length ≤ 1000000;omega) (by show work ≤ 9223372036854775807;omega)
  have st:=fun n=>EI (F:=F) (n:=n) S q (by omega)
  have hlow:kV.low q.q = B.kg q.q:=by show EC _ = _;unfold EC;rw [ahC hN]
  rw [hlow] at st
  have hQ:=ZQ.IE hN
  have hQs:(B.kg q.q).size ≤ 300:=by rw [ZQ.lQ];omega
  generalize B.kg q.q = z at st hQ hQs
  have tkb:∀ i:Nat,(i:Int) ≤ 60 → Tw (Oi ⟨z,q.t,q.c⟩ i) 900:=fun i hi=>⟨⟨fun g hg=>by rw [ait.mp hg];show z.size ≤ 1000000;omega,by show (-9223372036854775808:Int) ≤ i;omega,by show (i:Int) ≤ 9223372036854775807;omega⟩,by show 1 ≤ 900;decide⟩
  have hm2:IntKind.i64.wrap (2 * (roots.length:Int)) = 2 * (roots.length:Int):=nY (by omega) (by omega)
  have hrn:roots ≠ []:=fun h=>by rw [h] at g1;exact g1 (by decide)
  have nx:=fun n i hi=>Iz (F:=F) (n:=n) S (CQ roots work) K hF (Oi ⟨z,q.t,q.c⟩ i) (tkb i hi) _ (aft (nm:=nm) hQ (roots:=roots) (work:=work) hrn i 6)
  change ∀ n,_ = some ([(Oi ⟨z,q.t,q.c⟩ 0).v],_) at st
  generalize hw0:CQ roots work = w at *
  simp only [Cs.v,ahV] at wd
  dsimp only [c7,aA,cB,bq,bI,aG,bG,dV,eu,dH,aD,dn,dz,bP,aU];simp only [ahF,g1',g2',g3',g4',g5',hck,wd,st,go_sem]
  refine lZ (2 * roots.length + 1) (fun i=>⟨[(0,PV.c (CV.one (PL.f (FV.sl (List.map bB roots))))),(1,PV.c (CV.one (PL.f (FV.int IntKind.i64 work)))),(7,PV.c (CV.one (PL.ptr 160000 0))),(8,PV.c (CV.one (PL.ptr 180000 0))),(9,PV.c (CV.one (PL.f (FV.int IntKind.i64 i))))],[(160000,Ob.eY [PL.ptr 900200 0,PL.ptr 900400 0,PL.f (FV.int IntKind.i64 w.now),PL.f (FV.sl (List.map bB w.roots)),PL.f (FV.int IntKind.i64 w.work)]),(180000,Ob.eY [PL.f (FV.sl (List.map rG (Oi ⟨z,q.t,q.c⟩ i).goals)),PL.f (FV.int IntKind.i64 (Oi ⟨z,q.t,q.c⟩ i).sends)]),(900200,Ob.eY [PL.f (FV.int IntKind.i64 w.s.room),PL.mp 900204,PL.f (FV.sl (List.map rQ w.s.o)),PL.f (FV.int IntKind.i64 w.s.ch)]),(900204,Ob.map kM (List.map ent w.s.m)),(900400,Ob.eY [PL.f (FV.int IntKind.i64 w.m.room),PL.mp 900404,PL.f (FV.sl (List.map rQ w.m.o)),PL.f (FV.int IntKind.i64 w.m.ch)]),(900404,Ob.map Ne.kM (List.map Ne.ent w.m.m))]⟩) (fun i=>(i:Int) ≤ work ∧ i ≤ 2 * roots.length) (by omega) rfl ⟨by show (0:Int) ≤ work;omega,aij _⟩ (fun i hi hP=>?_) (fun hP=>absurd hP.2 (by omega))
  obtain ⟨p1,p2⟩:=hP
  have nxi:=fun n=>nx n i (by omega)
  have hi1:=nx_ (i:=i) (by omega)
  have l1:decide ((i:Int) ≤ 2 * (roots.length:Int)) = true:=ahE (by omega)
  by_cases he:2 * (roots.length:Int) ≤ i ∨ work ≤ i
  ·rw [ahC he] at nxi
   have k2:decide (xG.kind = 2) = true:=rfl
   have k3:decide ((i:Int) = (i:Int)) = true:=ahE rfl
   by_cases ha:(i:Int) = 2 * (roots.length:Int)
   ·have ha':decide ((i:Int) = 2 * (roots.length:Int)) = true:=ahE ha
    simp only [ahF,hm2,l1,nxi,ha',k2,k3,hv,go_sem]
    try rfl
   ·have ha':decide ((i:Int) = 2 * (roots.length:Int)) = false:=ahH ha
    have hb':decide ((i:Int) = work) = true:=ahE (by omega)
    simp only [ahF,hm2,l1,nxi,ha',hb',k2,k3,hv,go_sem]
    try rfl
  ·rw [ahD he] at nxi
   have ha':decide ((i:Int) = 2 * (roots.length:Int)) = false:=ahH (by omega)
   have hb':decide ((i:Int) = work) = false:=ahH (by omega)
   have k0:decide ((0:Int) = 0) = true:=rfl
   have hm1:0 ≤ (i:Int).tmod (roots.length:Int) ∧ (i:Int).tmod (roots.length:Int) < roots.length:=⟨Int.tmod_nonneg _ (by omega),Int.tmod_lt_of_pos _ (by omega)⟩
   have hsv:(roots.map bB)[((i:Int).tmod (roots.length:Int)).toNat]? = some [.str (NT roots i)]:=by
    unfold NT
    rw [ahN,ah5,ahQ (by omega)]
    rfl
   have hm3:decide ((i:Int).tmod (roots.length:Int) < (roots.length:Int)) = true:=ahE hm1.2
   have hm4:=hm1.1
   have k5:decide (NT roots i = NT roots i) = true:=ahE rfl
   have k6:decide (Hy = (⟨#[0]⟩:ByteArray)) = true:=ahE rfl
   have hlz:decide ((roots.length:Int) = 0) = false:=ahH (by omega)
   simp only [ahF,hm2,l1,nxi,ha',hb',k0,hsv,hm3,hm4,k5,k6,hi1,hlz,go_sem]
   exact ⟨by omega,by omega,by omega⟩
end
section
attribute [local go_sem_proc] Nat.reduceAdd Nat.reduceMul Nat.reduceEqDiff Nat.reduceBEq Nat.reduceMod Nat.reduceDiv reduceCtorEq
attribute [local go_sem_proc ↓] reduceIte
open Go Ev Kc
variable {θ : Th} {nm:Int → ByteArray → List ByteArray} {gt:ByteArray → Int → Int → Int × Bool} {up:ByteArray → ByteArray × Bool} {ext:Env} {F n:Nat}
def J4 (Γ:Env) (gs:List G) (ks lT:List Nat) (σ r:St) (os:List (List Nat)):Prop:=kF Γ gs ks lT σ r os
theorem Wz {k:Out × St → Prop} {u:Tok k} {Γ:Env} {σ:St} {gs:List G} {o:List Nat} {os:List (List Nat)} {ks lT:List Nat}:W k u (ev Γ F (.any gs (o :: os) ks lT) σ) ↔ W (fun s=>W (fun r=>J4 Γ gs ks lT σ r os ∧ W k ⟨⟩ (some (.iP,r))) ⟨⟩ (some (⟨pick ks s.tm,pick lT s.ob⟩:St))) ⟨⟩ (vH Γ false (o.map fun i=>gs.getD i default) σ):=YN
abbrev n_X : ByteArray:=⟨#[1,88,1,97,0]⟩
abbrev n_x : ByteArray:=⟨#[1,120,1,97,0]⟩
abbrev n_a : ByteArray:=⟨#[1,97,0]⟩
abbrev XR : ByteArray:=⟨#[1,110,0]⟩
abbrev WA : ByteArray:=⟨#[48,48,48,48]⟩
abbrev r_1 : ByteArray:=⟨#[48,48,48,49]⟩
abbrev a_1 : ByteArray:=⟨#[49,49,49,49]⟩
abbrev a_2 : ByteArray:=⟨#[50,50,50,50]⟩
abbrev q00 : Qn:=⟨⟨#[]⟩,0,0⟩
abbrev t_x : Tk:=⟨[⟨⟨n_x,1,1⟩,⟨#[]⟩,0⟩],0⟩
abbrev p_1 : Pt:=⟨0,⟨n_a,2,1,[XR],99⟩,1,q00⟩
abbrev p_2 : Pt:=⟨0,⟨XR,1,1,[a_1],99⟩,1,q00⟩
abbrev p_3 : Pt:=⟨0,⟨n_x,1,1,[a_2],99⟩,5,q00⟩
abbrev Ko : Cs:=⟨[],0,[WA,r_1],5⟩
abbrev TD : Cs:=⟨[],0,[WA],0⟩
abbrev Oj : Cs:=⟨[p_1],0,[WA],5⟩
abbrev Rv : Cs:=⟨[p_1,p_2],0,[WA],5⟩
abbrev Rw : Cs:=⟨[p_1,p_2,p_3],0,[WA],5⟩
abbrev nX (θ:Th) (nm:Int → ByteArray → List ByteArray) (gt:ByteArray → Int → Int → Int × Bool) (up:ByteArray → ByteArray × Bool) (c:Cs):Stp × Tk:=Wo θ nm up (c.w θ gt) 7 t_x
structure TF (θ:Th) (nm:Int → ByteArray → List ByteArray) (gt:ByteArray → Int → Int → Int × Bool) (up:ByteArray → ByteArray × Bool):Prop where
 lo:θ.low n_X = n_x
 a1:(nX θ nm gt up Ko).1.kind = 0
 a2:(nX θ nm gt up Ko).1.server = WA
 a3:(nX θ nm gt up Ko).1.zone = Hy
 a4:(nX θ nm gt up Ko).2.goals.map (fun g=>g.tries) = [1]
 a5:(nX θ nm gt up Ko).2.sends = 1
 y1:(nX θ nm gt up TD).1.kind = 2
 z1:(nX θ nm gt up Oj).1.kind = 0
 z2:(nX θ nm gt up Oj).1.q.q = XR
 b1:(nX θ nm gt up Oj).2.goals.map (fun g=>g.q.t) = [1,1]
 u1:(nX θ nm gt up Rv).1.server = a_1
 u2:(nX θ nm gt up Rv).1.zone = n_a
 v1:(nX θ nm gt up Rw).1.kind = 1
 v2:(nX θ nm gt up Rw).1.ch.hits.length = 1
theorem abb : Tw t_x 900:=⟨⟨fun g hg=>by rw [ait.mp hg];decide,by decide,by decide⟩,by decide⟩
theorem J5 (S:Sk θ nm gt up ext) (L:TF θ nm gt up) (hF:200000000000001 ≤ F):G2 ext F (n + 8) 25 [] = some ([vb true],[]):=by
 refine dM (cf:=yP) rfl ?_
 have st:=fun n=>EI (F:=F) (n:=n) S ⟨n_X,1,1⟩ (by decide)
 rw [L.lo] at st
 have wd:=fun n c h1 h2=>EJ (F:=F) (n:=n) (gt:=gt) S c h1 h2
 have nx:=fun n c h1 h2 h3=>Iz (F:=F) (n:=n) S (Cs.w θ gt c) (TA S c h1 h2 h3) hF t_x abb _ rfl
 have wa:=fun n=>wd n Ko (by decide) (by decide)
 have wy:=fun n=>wd n TD (by decide) (by decide)
 have wb:=fun n=>uL (F:=F) (n:=n) (gt:=gt) S Oj (by decide) (by decide)
 have wc:=fun n=>uL (F:=F) (n:=n) (gt:=gt) S Rv (by decide) (by decide)
 have we:=fun n=>uL (F:=F) (n:=n) (gt:=gt) S Rw (by decide) (by decide)
 have xa:=fun n=>nx n Ko (by decide) (by decide) (by decide)
 have xy:=fun n=>nx n TD (by decide) (by decide) (by decide)
 have xb:=fun n=>nx n Oj (by decide) (by decide) (by decide)
 have xc:=fun n=>nx n Rv (by decide) (by decide) (by decide)
 have xd:=fun n=>nx n Rw (by decide) (by decide) (by decide)
 clear nx wd
 obtain ⟨-,a1,a2,a3,a4,a5,y1,z1,z2,b1,u1,u2,v1,v2⟩:=L
 change ∀ n,_ = some ([(nX θ nm gt up Ko).2.v,(nX θ nm gt up Ko).1.v],_) at xa
 change ∀ n,_ = some ([(nX θ nm gt up TD).2.v,(nX θ nm gt up TD).1.v],_) at xy
 change ∀ n,_ = some ([(nX θ nm gt up Oj).2.v,(nX θ nm gt up Oj).1.v],_) at xb
 change ∀ n,_ = some ([(nX θ nm gt up Rv).2.v,(nX θ nm gt up Rv).1.v],_) at xc
 change ∀ n,_ = some ([(nX θ nm gt up Rw).2.v,(nX θ nm gt up Rw).1.v],_) at xd
 generalize nX θ nm gt up Ko = Ra at *
 generalize nX θ nm gt up TD = Ry at *
 generalize nX θ nm gt up Oj = Rb at *
 generalize nX θ nm gt up Rv = Rc at *
 generalize nX θ nm gt up Rw = Rd at *
 generalize Cs.w θ gt Ko = Wa at *
 generalize Cs.w θ gt TD = Wy at *
 generalize Cs.w θ gt Oj = Wb at *
 generalize Cs.w θ gt Rv = Wc at *
 generalize Cs.w θ gt Rw = We at *
 obtain ⟨⟨ka,cha,sva,qa,za⟩,⟨ga,na⟩⟩:=Ra
 obtain ⟨⟨ky,chy,svy,qy,zy⟩,⟨gy,ny⟩⟩:=Ry
 obtain ⟨⟨kb,chb,svb,⟨qb,qbt,qbc⟩,zb⟩,⟨gb,nb⟩⟩:=Rb
 obtain ⟨⟨kc,chc,svc,qc,zc⟩,⟨gc,nc⟩⟩:=Rc
 obtain ⟨⟨kd,chd,svd,qd,zd⟩,⟨gd,nd⟩⟩:=Rd
 simp only at a1 a2 a3 a4 a5 y1 z1 z2 b1 u1 u2 v1 v2
 subst a1 a2 a3 a5 y1 z1 z2 u1 u2 v1
 obtain ⟨q1,z1,rfl⟩:∃ q z,ga = [⟨q,z,1⟩]:=by
  match ga,a4 with
  | [⟨q,z,r⟩],h=>simp only [ahO,ahV,aiW,and_true] at h;subst h;exact ⟨q,z,rfl⟩
 obtain ⟨q2,c2,z2,r2,q3,c3,z3,r3,rfl⟩:∃ q c z r q' c' z' r',gb = [⟨⟨q,1,c⟩,z,r⟩,⟨⟨q',1,c'⟩,z',r'⟩]:=by
  match gb,b1 with
  | [⟨⟨q,t,c⟩,z,r⟩,⟨⟨q',t',c'⟩,z',r'⟩],h=>simp only [ahO,ahV,aiW,and_true] at h;obtain ⟨rfl,rfl⟩:=h;exact ⟨_,_,_,_,_,_,_,_,rfl⟩
 have hv:((chd.hits.length:Nat):Int) = 1:=by omega
 have s1:=fun n=>yF (ext:=ext) (F:=F) (n:=n) n_a 2 XR
 have s2:=fun n=>yF (ext:=ext) (F:=F) (n:=n) XR 1 a_1
 have s3:=fun n=>yF (ext:=ext) (F:=F) (n:=n) n_x 1 a_2
 simp only [Ko,TD,Oj,Rv,Rw,p_1,p_2,p_3,t_x,q00,n_X,n_x,n_a,XR,WA,r_1,a_1,a_2,Hy,Cs.v,Cs.ov,Tk.v,Qn.v,Se.v,vJ,ahO,ahV,rG,rP,bB] at st wa wy wb wc we xa xy xb xc xd s1 s2 s3
 dsimp only [yP,aA,cB,bq,bI,aG,bG,dV,eu,dH,aD,dn,dz,bP,aU];simp (maxSteps:=100000000) only [↓Wz,st,wa,wy,wb,wc,we,xa,xy,xb,xc,xd,s1,s2,s3,ahF,hv,decide_true,go_sem]
 refine ⟨?_,?_,?_,by decide,?_,by decide,?_,?_⟩
 ·unfold J4;as_aux_lemma=>simp (maxSteps:=100000000) only [wa,xa,go_sem]
 ·unfold J4;as_aux_lemma=>simp (maxSteps:=100000000) only [wy,xy,go_sem]
 ·unfold J4;as_aux_lemma=>simp (maxSteps:=100000000) only [wb,xb,go_sem]
 ·unfold J4;as_aux_lemma=>simp (maxSteps:=100000000) only [wc,xc,go_sem]
 ·unfold J4;as_aux_lemma=>simp (maxSteps:=100000000) only [we,xd,go_sem]
 have d1:decide (((1:Nat):Int) = 1) = true:=rfl
 have d2:decide (((2:Nat):Int) = 2) = true:=rfl
 have d3:decide ((0:Int) < ((1:Nat):Int)) = true:=rfl
 have d4:decide ((1:Int) < ((2:Nat):Int)) = true:=rfl
 have d5:decide ((0:Int) < ((2:Nat):Int)) = true:=rfl
 have i1:(1:Int).toNat = 1:=rfl
 have d6:decide (((chd.hits.length:Nat):Int) = 1) = true:=ahE hv
 simp only [d1,d2,d3,d4,d5,d6,i1,ahF,Int.toNat_zero,List.getElem?_cons_zero,List.getElem?_cons_succ,decide_true,go_sem]
 first | exact ⟨by decide,by decide,by decide,rfl⟩ | exact ⟨by decide,by decide,by decide⟩ | decide | omega
end
section
open Go Ev Kc
theorem abd : TF kV nm₀ EB B.up:=by constructor <;> decide +kernel
end
section
open Go Go.RowKit Ev Kc
theorem exR : ExR zu where
 rc q h:=(e3 (by decide) (by decide) rfl _).trans (by simp [kD,zq,kL,jd,Tm,zV,Py,h,vs,vb])
theorem hv2 (n:Nat):G2 zu 200000000000001 (n + 8) 25 [] = some ([vb true],[]):=J5 Tn abd (ahG _)
end
end Go.Proofs.Ytfokaoeinpnagaa.Kd
namespace Go.Proofs.Ytfokaoeinpnagaa.Kc
open Go Ev
theorem opQ : N7 Try.prog 24 rQ (fun _=>True) :=
 IJ (fun p:ByteArray × Int × Int=>⟨p.1,p.2.1,p.2.2⟩) (by exact fun _=>rfl) (by exact fun _ _=>trivial) (Gs Try.underlying24 (by kernel_rfl) (AB (sz:=1) (sz':=2) (II Try.underlying9) (by kernel_rfl) (AB (sz:=1) (sz':=1) (IG Try.underlying3) (by kernel_rfl) (J9 (IG Try.underlying3) (by kernel_rfl)))))
theorem opD : N7 Try.prog 25 (fun d:List ByteArray=>[.sl (d.map bB)]) (fun d=>d.length ≤ 140737488351232) :=
 IJ (fun d:List ByteArray=>d) (by exact fun _=>rfl) (by exact fun _ h=>h.1) (J8 1 Try.underlying25 (by kernel_rfl) (by decide) (fun _=>rfl) (by kernel_rfl) (II Try.underlying9))
end Go.Proofs.Ytfokaoeinpnagaa.Kc

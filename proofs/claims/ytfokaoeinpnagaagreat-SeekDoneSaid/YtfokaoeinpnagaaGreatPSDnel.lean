/- A part of the proof of SeekDone: cut, joined and given short names by a program of this session (wip/tools/pack.py); Lean checks it. No condition. -/
import Derived.Test.YtfokaoeinpnagaaGreatPSDnek
import Derived.Test.YtfokaoeinpnagaaGreatPSDnej
import Derived.Test.YtfokaoeinpnagaaGreatPSDnei
import Derived.KernelRfl
import Derived.Test.YtfokaoeinpnagaaGreatPSDned
set_option linter.unusedSectionVars false
set_option linter.unusedSimpArgs false
set_option linter.unusedVariables false
set_option maxHeartbeats 16000000
set_option maxRecDepth 100000
namespace Go.Proofs.YtfokaoeinpnagaaGreat.Kd
section
attribute [local go_sem_proc] Nat.reduceAdd Nat.reduceMul Nat.reduceEqDiff Nat.reduceBEq Nat.reduceMod Nat.reduceDiv reduceCtorEq
attribute [local go_sem_proc ↓] reduceIte
open Go Ev Kc
variable {θ : Th} {nm:Int → ByteArray → List ByteArray} {gt:ByteArray → Int → Int → Int × Bool} {up:ByteArray → ByteArray × Bool} {ext:Env} {F n:Nat}
def zk (θ:Th) (nm:Int → ByteArray → List ByteArray) (up:ByteArray → ByteArray × Bool) (w:Wd) (t:Tk):(Stp × Bool) × Tk :=
 match t.goals.getLast? with
 | none=>((Er,true),t)
 | some g=>C8 θ nm up w t.goals.dropLast g t.sends
def I4 (θ:Th) (nm:Int → ByteArray → List ByteArray) (up:ByteArray → ByteArray × Bool) (w:Wd):Nat → Tk → Stp × Tk
 | 0,t=>(Er,t)
 | f + 1,t=>if (zk θ nm up w t).1.2 = true then ((zk θ nm up w t).1.1,(zk θ nm up w t).2) else I4 θ nm up w f (zk θ nm up w t).2
theorem um {w:Wd} {init:List Gl} {g:Gl} {s:Int}:zk θ nm up w ⟨init ++ [g],s⟩ = C8 θ nm up w init g s:=by simp [zk]
theorem C9 {w:Wd} {s:Int}:zk θ nm up w ⟨[],s⟩ = ((Er,true),⟨[],s⟩):=rfl
theorem Oz {l:List Gl} (h:l ≠ []):∃ init g,l = init ++ [g]:=⟨l.dropLast,l.getLast h,(List.dropLast_concat_getLast h).symm⟩
structure abx (t:Tk):Prop where
 g:∀ g ∈ t.goals,g.q.q.size ≤ 1000000
 lo:-9223372036854775808 ≤ t.sends
 hi:t.sends ≤ 9223372036854775807
theorem OA (w:Wd) (sends:Int):G2 ext F (n + 6) 66 [w.v,Tk.pv ⟨[],sends⟩] = some ([Er.v,vb true],[w.v,Tk.pv ⟨[],sends⟩]):=by
 refine dB (cf:=KF) rfl ?_
 rw [show Tk.pv ⟨[],sends⟩ = .one (.ptr [.own 5 [],.f (.int .i64 sends)]) from rfl]
 have hz:decide (((0:Nat):Int) = 0) = true:=rfl
 dsimp only [KF,au,bY,aZ,bH,aG,bE,dR,eu,dA,aD,bT,dh,bJ,aQ];simp only [List.length_nil,hz,go_sem]
 try rfl
theorem OB (S:Sk θ nm gt up ext) (w:Wd) (K:Wk θ nm up w) (hF:200000000000001 ≤ F) (t:Tk) (ht:t.goals.length ≤ 1000) (h:abx t) (M:(Stp × Bool) × Tk) (hM:zk θ nm up w t = M) :
  G2 ext F (n + 6) 66 [w.v,t.pv] = some ([M.1.1.v,vb M.1.2],[w.v,M.2.pv]):=by
 obtain ⟨l,s⟩:=t
 by_cases h0:l = []
 ·subst h0
  rw [C9] at hM
  subst hM
  exact OA w s
 ·obtain ⟨init,g,rfl⟩:=Oz h0
  rw [um] at hM
  simp only [aiv,List.length_singleton] at ht
  exact step_ok S w K hF init g s (by omega) h.hi h.lo (h.g g (by simp)) M hM
theorem EX {pk:Qn → It × Bool} {fd:Qn → Ne.Nt × Bool} {now:Int}:∀ (f:Nat) (met:List ByteArray) (hits:List nM) (q:Qn),(xW nm pk fd now f met hits q).e = 0 → hits.length < (xW nm pk fd now f met hits q).hits.length
 | 0,met,hits,q,h=>absurd h (by simp [xW])
 | f + 1,met,hits,q,h=>by
  cases h1:tl pk now q with
  | some x=>simp only [xW,h1];simp
  | none =>
   cases h2:al nm pk now q with
   | none =>
    simp only [xW,h1,h2] at h
    unfold Kc.fin at h
    split at h
    ·simp only at h
     split at h <;> exact absurd h (by decide)
    ·simp only at h
     exact absurd h (by decide)
   | some p =>
    obtain ⟨x,ZZ8⟩:=p
    simp only [xW,h1,h2] at h ⊢
    split
    ·rename_i h3;rw [ail h3] at h;simp only at h;exact absurd h (by decide)
    ·rename_i h3
     rw [ain h3] at h
     have:=EX f _ _ _ h
     simp only [aiv,List.length_singleton] at this
     omega
theorem I5 {pk:Qn → It × Bool} {fd:Qn → Ne.Nt × Bool} {now:Int} {q:Qn} (h0:(vZ nm pk fd now q).e = 0) (h1:(vZ nm pk fd now q).hits.length = 1):(pk q).2 = true:=by
 unfold vZ at h0 h1
 cases hp:tl pk now q with
 | some x =>
  unfold tl at hp
  split at hp
  ·rename_i hh;exact hh.1
  ·cases hp
 | none =>
  cases ha:al nm pk now q with
  | none =>
   simp only [xW,hp,ha] at h1
   unfold Kc.fin at h1
   split at h1 <;> cases h1
  | some p =>
   obtain ⟨x,ZZ8⟩:=p
   rw [show (9:Nat) = 8 + 1 from rfl] at h0 h1
   rw [xW,hp,ha] at h0 h1
   simp only at h0 h1
   split at h0
   ·simp only at h0;exact absurd h0 (by decide)
   ·rename_i h3
    rw [ain h3] at h1
    have:=EX _ _ _ _ h0
    simp only [aiv,List.length_singleton,List.length_nil] at this
    omega
theorem I6 {pk:Qn → It × Bool}:∀ (l:List ByteArray) (a:List ByteArray × List ByteArray),(∀ x ∈ a.2,(pk ⟨x,1,1⟩).2 = false) → ∀ x ∈ (l.foldl (kS pk) a).2,(pk ⟨x,1,1⟩).2 = false
 | [],a,h=>h
 | y :: l,a,h=>I6 l _ (by
  unfold kS
  split
  ·exact h
  ·rename_i hy
   intro x hx
   rcases aiN.mp hx with hx | hx
   ·exact h x hx
   ·rw [aje.mp hx];exact ai6.mpr hy)
theorem Xc {pk:Qn → It × Bool} {l:List ByteArray}:∀ x ∈ (Yn nm pk l).2,(pk ⟨x,1,1⟩).2 = false:=by
 have key:∀ (l:List ByteArray) (a:List ByteArray × List ByteArray),(∀ x ∈ a.2,(pk ⟨x,1,1⟩).2 = false) → ∀ x ∈ (l.foldl (wh nm pk) a).2,(pk ⟨x,1,1⟩).2 = false:=by
  intro l
  induction l with
  | nil=>intro a h;exact h
  | cons d l ih=>intro a h;exact ih _ (I6 _ _ h)
 exact key l _ (fun x hx=>by simp at hx)
theorem I7 {pk:Qn → It × Bool} {roots:List ByteArray}:∀ (f:Nat) (z:ByteArray),∀ x ∈ (tq nm up pk roots f z).2.2,(pk ⟨x,1,1⟩).2 = false
 | 0,z,x,h=>by simp [tq] at h
 | f + 1,z,x,h=>by
  unfold tq at h
  split at h
  ·exact Xc x h
  ·split at h
   ·exact I7 f _ x h
   ·simp at h
theorem GN {pk:Qn → It × Bool} {roots:List ByteArray} {q:ByteArray}:∀ x ∈ (cut θ nm up pk roots q).2.2,(pk ⟨x,1,1⟩).2 = false:=by
 intro x h
 unfold cut at h
 split at h
 ·simp at h
 ·exact I7 _ _ x h
def OC (nm:Int → ByteArray → List ByteArray) (w:Wd) (g:Gl):Bool:=decide ((vZ nm (bB w.s w.now) (Ne.fD w.m w.now) w.now g.q).e = 0 ∧ (vZ nm (bB w.s w.now) (Ne.fD w.m w.now) w.now g.q).hits.length = 1)
def rk (nm:Int → ByteArray → List ByteArray) (w:Wd) (t:Tk):Nat:=match t.goals.getLast? with
 | none=>0
 | some g=>if OC nm w g = true then t.goals.length + 5 else 4 - t.goals.length
theorem OD {w:Wd} {init:List Gl} {g:Gl} {s:Int}:rk nm w ⟨init ++ [g],s⟩ = if OC nm w g = true then init.length + 6 else 3 - init.length:=by
 simp only [rk,List.getLast?_concat,aiv,List.length_singleton]
 split <;> omega
theorem Uh {w:Wd} {t:Tk}:rk nm w t ≤ t.goals.length + 5:=by
 unfold rk
 split
 ·omega
 ·split <;> omega
theorem Da {l:List Gl} {ns:List ByteArray} {x:ByteArray} (h:MW l ns = some x):x ∈ ns:=akf h
theorem Xd {w:Wd} {t:Tk} (h:(zk θ nm up w t).1.2 = false):rk nm w (zk θ nm up w t).2 < rk nm w t:=by
 obtain ⟨l,s⟩:=t
 by_cases h0:l = []
 ·subst h0;rw [C9] at h;cases h
 ·obtain ⟨init,g,rfl⟩:=Oz h0
  rw [um] at h ⊢
  rw [OD]
  unfold C8 at h ⊢
  simp only at h ⊢
  split
  ·rename_i h3
   rw [ail h3] at h
   have hno:¬ OC nm w g = true:=fun hk=>by unfold OC at hk;have:=aiI hk;omega
   rw [ain hno]
   have hcn:=@GN θ nm up (bB w.s w.now) w.roots (vZ nm (bB w.s w.now) (Ne.fD w.m w.now) w.now g.q).nm
   generalize cut θ nm up (bB w.s w.now) w.roots _ = R at h hcn ⊢
   unfold KI at h ⊢
   simp only at h ⊢
   split
   ·rename_i h4
    rw [ail h4] at h
    cases hf:MW (init ++ [qP R.1 g]) R.2.2 with
    | none=>rw [hf] at h;cases h
    | some x =>
     rw [hf] at h
     simp only at h ⊢
     split
     ·rename_i h5;rw [ail h5] at h;cases h
     ·rename_i h5
      rw [OD]
      have hx:=hcn x (Da hf)
      have af6:¬ OC nm w ⟨⟨x,1,1⟩,⟨#[]⟩,0⟩ = true:=fun hk=>by
       unfold OC at hk
       obtain ⟨k1,k2⟩:=aiI hk
       have:=I5 k1 k2
       rw [hx] at this;cases this
      rw [ain af6]
      simp only [aiv,List.length_singleton] at h5 ⊢
      omega
   ·rename_i h4
    rw [ain h4] at h
    split at h <;> cases h
  ·rename_i h3
   rw [ain h3] at h
   split
   ·rename_i h4;rw [ail h4] at h;cases h
   ·rename_i h4
    rw [ain h4] at h
    split
    ·rename_i h5
     have hok:OC nm w g = true:=aip h5
     rw [ail hok]
     have:=@Uh nm w ⟨init,s⟩
     simp only at this
     show rk nm w ⟨init,s⟩ < _
     omega
    ·rename_i h5;rw [ain h5] at h;cases h
end
section
attribute [local go_sem_proc] Nat.reduceAdd Nat.reduceMul Nat.reduceEqDiff Nat.reduceBEq Nat.reduceMod Nat.reduceDiv reduceCtorEq
attribute [local go_sem_proc ↓] reduceIte
open Go Ev Kc
variable {θ : Th} {nm:Int → ByteArray → List ByteArray} {gt:ByteArray → Int → Int → Int × Bool} {up:ByteArray → ByteArray × Bool} {ext:Env} {F n:Nat}
theorem EY {pk:Qn → It × Bool} {Q:ByteArray → Prop}:∀ (l:List ByteArray) (a:List ByteArray × List ByteArray),(∀ x ∈ l,Q x) → (∀ x ∈ a.2,Q x) → ∀ x ∈ (l.foldl (kS pk) a).2,Q x
 | [],a,_,h=>h
 | y :: l,a,hl,h=>EY l _ (fun x hx=>hl x (by simp [hx])) (by
  unfold kS
  split
  ·exact h
  ·intro x hx
   rcases aiN.mp hx with hx | hx
   ·exact h x hx
   ·rw [aje.mp hx];exact hl y (by simp))
theorem I8 {pk:Qn → It × Bool} {Q:ByteArray → Prop} (hn:∀ d,∀ x ∈ nm 2 d,Q x):∀ (l:List ByteArray) (a:List ByteArray × List ByteArray),(∀ x ∈ a.2,Q x) → ∀ x ∈ (l.foldl (wh nm pk) a).2,Q x
 | [],a,h=>h
 | d :: l,a,h=>I8 hn l _ (EY _ _ (hn d) h)
theorem Sc {pk:Qn → It × Bool} {roots:List ByteArray} {q:ByteArray} {Q:ByteArray → Prop} (hn:∀ d,∀ x ∈ nm 2 d,Q x):∀ x ∈ (cut θ nm up pk roots q).2.2,Q x:=by
 have hF:∀ (f:Nat) (z:ByteArray),∀ x ∈ (tq nm up pk roots f z).2.2,Q x:=by
  intro f
  induction f with
  | zero=>intro z x h;simp [tq] at h
  | succ f ih =>
   intro z x h
   unfold tq at h
   split at h
   ·exact I8 hn _ _ (fun y hy=>by simp at hy) x h
   ·split at h
    ·exact ih _ x h
    ·simp at h
 intro x h
 unfold cut at h
 split at h
 ·simp at h
 ·exact hF _ _ x h
structure Ui (t:Tk) (N:Nat):Prop extends abx t where
 len:t.goals.length ≤ N
theorem yZ {z:ByteArray} {g:Gl}:(qP z g).q = g.q:=by unfold qP;split <;> rfl
theorem Xe (S:Sk θ nm gt up ext) {w:Wd} (hw:w.work ≤ 9223372036854775807) {t:Tk} {N:Nat} (hN:4 ≤ N) (h:Ui t N):Ui (zk θ nm up w t).2 N:=by
 obtain ⟨l,s⟩:=t
 obtain ⟨⟨h1,h2,h3⟩,h4⟩:=h
 simp only at h1 h2 h3 h4
 by_cases h0:l = []
 ·subst h0;rw [C9];exact ⟨⟨h1,h2,h3⟩,h4⟩
 obtain ⟨init,g,rfl⟩:=Oz h0
 rw [aiv,List.length_singleton] at h4
 rw [um]
 have hg:=h1 g (by simp)
 have hi:=fun x hx=>h1 x (aiN.mpr (.inl hx))
 have same:Ui ⟨init ++ [g],s⟩ N:=⟨⟨h1,h2,h3⟩,by simpa using h4⟩
 unfold C8
 simp only
 split
 ·have hc:=@Sc θ nm up (bB w.s w.now) w.roots (vZ nm (bB w.s w.now) (Ne.fD w.m w.now) w.now g.q).nm (fun x=>x.size ≤ 1000000) (fun d x hx=>by have:=(S.nl 2 d).2 x hx;omega)
  generalize cut θ nm up (bB w.s w.now) w.roots _ = R at hc ⊢
  have same':∀ g':Gl,g'.q = g.q → ∀ s', -9223372036854775808 ≤ s' → s' ≤ 9223372036854775807 → Ui ⟨init ++ [g'],s'⟩ N:=fun g' e s' a b=>⟨⟨fun x hx=>by
   rcases aiN.mp hx with hx | hx
   ·exact hi x hx
   ·rw [aje.mp hx,e];exact hg,a,b⟩,by simpa using h4⟩
  unfold KI
  simp only
  split
  ·cases hf:MW (init ++ [qP R.1 g]) R.2.2 with
   | none=>exact same' _ yZ _ h2 h3
   | some x =>
    simp only
    split
    ·exact same' _ yZ _ h2 h3
    ·rename_i h5
     rw [aiv,List.length_singleton] at h5
     refine ⟨⟨fun y hy=>?_,h2,h3⟩,by simp;omega⟩
     rcases aiN.mp hy with hy | hy
     ·exact (same' (qP R.1 g) yZ s h2 h3).g y hy
     ·rw [aje.mp hy];exact hc x (Da hf)
  ·split
   ·exact same' _ yZ _ h2 h3
   ·rename_i h6
    exact same' ⟨(qP R.1 g).q,(qP R.1 g).zone,(qP R.1 g).tries + 1⟩ yZ _ (by omega) (by omega)
 ·split
  ·exact same
  ·split
   ·exact ⟨⟨hi,h2,h3⟩,by show init.length ≤ N;omega⟩
   ·exact same
theorem EZ (S:Sk θ nm gt up ext) (q:Qn) (hq:q.q.size ≤ 1000000):G2 ext F (n + 2) 34 [q.v] = some ([(Tk.v ⟨[⟨⟨θ.low q.q,q.t,q.c⟩,⟨#[]⟩,0⟩],0⟩)],[q.v]):=by
 refine dB (cf:=c34) rfl ?_
 have h1:=fun n=>aar (F:=F) (n:=n) S q.q hq
 dsimp only [c34,au,bY,aZ,bH,aG,bE,dR,eu,dA,aD,bT,dh,bJ,aQ];simp only [h1,go_sem]
 rfl
structure Cs where
 l:List Pt
 now:Int
 roots:List ByteArray
 work:Int
def rC (c:Cs):List FV:=[.sl (c.l.map rP),.int .i64 c.now,.sl (c.roots.map bn),.int .i64 c.work]
abbrev Cs.v (c:Cs):AV:=.agg [.f (.sl (c.l.map rP)),.f (.int .i64 c.now),.f (.sl (c.roots.map bn)),.f (.int .i64 c.work)]
abbrev Cs.ov (c:Cs):AV:=.agg [.own 10 (c.l.map rP),.f (.int .i64 c.now),.f (.sl (c.roots.map bn)),.f (.int .i64 c.work)]
def Cs.w (θ:Th) (gt:ByteArray → Int → Int → Int × Bool) (c:Cs):Wd:=⟨(mQ θ gt c.l).1,(mQ θ gt c.l).2,c.now,c.roots,c.work⟩
theorem E5 (S:Sk θ nm gt up ext) (c:Cs) (hl:c.l.length ≤ 1000) (hf:kR c.l = true):G2 ext F (n + 2) 25 [c.v] = some ([(c.w θ gt).v],[c.v]):=by
 refine dB (cf:=MV) rfl ?_
 have h1:=fun n=>afd (F:=F) (n:=n) S c.l hl hf
 unfold Cs.w
 generalize (mQ θ gt c.l).1 = s at h1 ⊢
 generalize (mQ θ gt c.l).2 = m at h1 ⊢
 dsimp only [MV,au,bY,aZ,bH,aG,bE,dR,eu,dA,aD,bT,dh,bJ,aQ];simp only [h1,go_sem]
 done
theorem u7 (S:Sk θ nm gt up ext) (c:Cs) (hl:c.l.length ≤ 1000) (hf:kR c.l = true):G2 ext F (n + 2) 25 [c.ov] = some ([(c.w θ gt).v],[c.ov]):=by
 refine dB (cf:=MV) rfl ?_
 have h1:=fun n=>afe (F:=F) (n:=n) S c.l hl hf
 unfold Cs.w
 generalize (mQ θ gt c.l).1 = s at h1 ⊢
 generalize (mQ θ gt c.l).2 = m at h1 ⊢
 dsimp only [MV,au,bY,aZ,bH,aG,bE,dR,eu,dA,aD,bT,dh,bJ,aQ];simp only [h1,go_sem]
 done
theorem y5 (a:ByteArray) (k:Int) (d:ByteArray):G2 ext F (n + 1) 64 [vs a,vi k,vs d] = some ([(Se.v ⟨a,k,1,[d],99⟩)],[vs a,vi k,vs d]):=by
 refine dB (cf:=c64) rfl ?_
 dsimp only [c64,au,bY,aZ,bH,aG,bE,dR,eu,dA,aD,bT,dh,bJ,aQ];simp only [go_sem]
 try rfl
end
section
attribute [local go_sem_proc] Nat.reduceAdd Nat.reduceMul Nat.reduceEqDiff Nat.reduceBEq Nat.reduceMod Nat.reduceDiv reduceCtorEq
attribute [local go_sem_proc ↓] reduceIte
open Go Ev Kc
variable {θ : Th} {nm:Int → ByteArray → List ByteArray} {gt:ByteArray → Int → Int → Int × Bool} {up:ByteArray → ByteArray × Bool} {ext:Env} {F n:Nat}
def nxT (w:Wd) (b:Bool) (x:Tk):St:=match b with
 | false=>⟨[(2,PV.c (CV.one (PL.ptr 60000 0))),(3,PV.c (CV.one (PL.ptr 80000 0))),(4,PV.c (CV.one (PL.ptr 100000 0))),(5,PV.c (CV.one (PL.ptr 120000 0)))],[(20201,Ob.eH [PL.f (FV.int IntKind.i64 w.s.room),PL.mp 20205,PL.f (FV.sl (List.map rQ w.s.o)),PL.f (FV.int IntKind.i64 w.s.ch)]),(20205,Ob.map lD (List.map ent w.s.m)),(20401,Ob.eH [PL.f (FV.int IntKind.i64 w.m.room),PL.mp 20405,PL.f (FV.sl (List.map rQ w.m.o)),PL.f (FV.int IntKind.i64 w.m.ch)]),(20405,Ob.map Ne.lD (List.map Ne.ent w.m.m)),(60000,Ob.eH [PL.ptr 20201 0,PL.ptr 20401 0,PL.f (FV.int IntKind.i64 w.now),PL.f (FV.sl (List.map bn w.roots)),PL.f (FV.int IntKind.i64 w.work)]),(80000,Ob.eH [PL.own 220200 (List.map rG x.goals).length,PL.f (FV.int IntKind.i64 x.sends)]),(100000,Ob.eH [PL.bP,PL.f (FV.int IntKind.i64 0)]),(120000,Ob.eH [PL.f (FV.int IntKind.i64 0),PL.bP,PL.f (FV.int IntKind.i64 0),PL.f (FV.str ⟨#[]⟩),PL.f (FV.str ⟨#[]⟩),PL.f (FV.int IntKind.i64 0),PL.f (FV.int IntKind.i64 0),PL.bP,PL.f (FV.int IntKind.i64 0),PL.f (FV.int IntKind.i64 0),PL.f (FV.str ⟨#[]⟩),PL.f (FV.str ⟨#[]⟩),PL.f (FV.int IntKind.i64 0),PL.f (FV.int IntKind.i64 0),PL.f (FV.str ⟨#[]⟩)]),(220200,Ob.row 5 (List.map rG x.goals))]⟩
 | true=>⟨[(2,PV.c (CV.one (PL.ptr 60000 0))),(3,PV.c (CV.one (PL.ptr 80000 0))),(4,PV.c (CV.one (PL.ptr 100000 0))),(5,PV.c (CV.one (PL.ptr 120000 0)))],[(20201,Ob.eH [PL.f (FV.int IntKind.i64 w.s.room),PL.mp 310004,PL.f (FV.sl (List.map rQ w.s.o)),PL.f (FV.int IntKind.i64 w.s.ch)]),(20401,Ob.eH [PL.f (FV.int IntKind.i64 w.m.room),PL.mp 310204,PL.f (FV.sl (List.map rQ w.m.o)),PL.f (FV.int IntKind.i64 w.m.ch)]),(60000,Ob.eH [PL.ptr 20201 0,PL.ptr 20401 0,PL.f (FV.int IntKind.i64 w.now),PL.f (FV.sl (List.map bn w.roots)),PL.f (FV.int IntKind.i64 w.work)]),(80000,Ob.eH [PL.own 220200 (List.map rG x.goals).length,PL.f (FV.int IntKind.i64 x.sends)]),(100000,Ob.eH [PL.bP,PL.f (FV.int IntKind.i64 0)]),(120000,Ob.eH [PL.f (FV.int IntKind.i64 0),PL.bP,PL.f (FV.int IntKind.i64 0),PL.f (FV.str ⟨#[]⟩),PL.f (FV.str ⟨#[]⟩),PL.f (FV.int IntKind.i64 0),PL.f (FV.int IntKind.i64 0),PL.bP,PL.f (FV.int IntKind.i64 0),PL.f (FV.int IntKind.i64 0),PL.f (FV.str ⟨#[]⟩),PL.f (FV.str ⟨#[]⟩),PL.f (FV.int IntKind.i64 0),PL.f (FV.int IntKind.i64 0),PL.f (FV.str ⟨#[]⟩)]),(220200,Ob.row 5 (List.map rG x.goals)),(310004,Ob.map lD (List.map ent w.s.m)),(310204,Ob.map Ne.lD (List.map Ne.ent w.m.m))]⟩
theorem Uj (w:Wd) (x:Tk):nxT w false x = ⟨[(2,PV.c (CV.one (PL.ptr 60000 0))),(3,PV.c (CV.one (PL.ptr 80000 0))),(4,PV.c (CV.one (PL.ptr 100000 0))),(5,PV.c (CV.one (PL.ptr 120000 0)))],[(20201,Ob.eH [PL.f (FV.int IntKind.i64 w.s.room),PL.mp 20205,PL.f (FV.sl (List.map rQ w.s.o)),PL.f (FV.int IntKind.i64 w.s.ch)]),(20205,Ob.map lD (List.map ent w.s.m)),(20401,Ob.eH [PL.f (FV.int IntKind.i64 w.m.room),PL.mp 20405,PL.f (FV.sl (List.map rQ w.m.o)),PL.f (FV.int IntKind.i64 w.m.ch)]),(20405,Ob.map Ne.lD (List.map Ne.ent w.m.m)),(60000,Ob.eH [PL.ptr 20201 0,PL.ptr 20401 0,PL.f (FV.int IntKind.i64 w.now),PL.f (FV.sl (List.map bn w.roots)),PL.f (FV.int IntKind.i64 w.work)]),(80000,Ob.eH [PL.own 220200 (List.map rG x.goals).length,PL.f (FV.int IntKind.i64 x.sends)]),(100000,Ob.eH [PL.bP,PL.f (FV.int IntKind.i64 0)]),(120000,Ob.eH [PL.f (FV.int IntKind.i64 0),PL.bP,PL.f (FV.int IntKind.i64 0),PL.f (FV.str ⟨#[]⟩),PL.f (FV.str ⟨#[]⟩),PL.f (FV.int IntKind.i64 0),PL.f (FV.int IntKind.i64 0),PL.bP,PL.f (FV.int IntKind.i64 0),PL.f (FV.int IntKind.i64 0),PL.f (FV.str ⟨#[]⟩),PL.f (FV.str ⟨#[]⟩),PL.f (FV.int IntKind.i64 0),PL.f (FV.int IntKind.i64 0),PL.f (FV.str ⟨#[]⟩)]),(220200,Ob.row 5 (List.map rG x.goals))]⟩:=rfl
theorem Uk (w:Wd) (x:Tk):nxT w true x = ⟨[(2,PV.c (CV.one (PL.ptr 60000 0))),(3,PV.c (CV.one (PL.ptr 80000 0))),(4,PV.c (CV.one (PL.ptr 100000 0))),(5,PV.c (CV.one (PL.ptr 120000 0)))],[(20201,Ob.eH [PL.f (FV.int IntKind.i64 w.s.room),PL.mp 310004,PL.f (FV.sl (List.map rQ w.s.o)),PL.f (FV.int IntKind.i64 w.s.ch)]),(20401,Ob.eH [PL.f (FV.int IntKind.i64 w.m.room),PL.mp 310204,PL.f (FV.sl (List.map rQ w.m.o)),PL.f (FV.int IntKind.i64 w.m.ch)]),(60000,Ob.eH [PL.ptr 20201 0,PL.ptr 20401 0,PL.f (FV.int IntKind.i64 w.now),PL.f (FV.sl (List.map bn w.roots)),PL.f (FV.int IntKind.i64 w.work)]),(80000,Ob.eH [PL.own 220200 (List.map rG x.goals).length,PL.f (FV.int IntKind.i64 x.sends)]),(100000,Ob.eH [PL.bP,PL.f (FV.int IntKind.i64 0)]),(120000,Ob.eH [PL.f (FV.int IntKind.i64 0),PL.bP,PL.f (FV.int IntKind.i64 0),PL.f (FV.str ⟨#[]⟩),PL.f (FV.str ⟨#[]⟩),PL.f (FV.int IntKind.i64 0),PL.f (FV.int IntKind.i64 0),PL.bP,PL.f (FV.int IntKind.i64 0),PL.f (FV.int IntKind.i64 0),PL.f (FV.str ⟨#[]⟩),PL.f (FV.str ⟨#[]⟩),PL.f (FV.int IntKind.i64 0),PL.f (FV.int IntKind.i64 0),PL.f (FV.str ⟨#[]⟩)]),(220200,Ob.row 5 (List.map rG x.goals)),(310004,Ob.map lD (List.map ent w.s.m)),(310204,Ob.map Ne.lD (List.map Ne.ent w.m.m))]⟩:=rfl
theorem I9 (S:Sk θ nm gt up ext) (w:Wd) (K:Wk θ nm up w) (hF:200000000000001 ≤ F) (t:Tk) (ht:Ui t 900) (R:Stp × Tk) (hR:I4 θ nm up w (t.goals.length + 6) t = R) :
  G2 ext F (n + 7) 26 [w.v,t.v] = some ([R.2.v,R.1.v],[w.v,t.v]):=by
 refine dB (cf:=c26) rfl ?_
 have cg:=fun n=>afc (F:=F) (n:=n) S t.goals (by have:=ht.len;omega)
 have htl:=ht.len
 dsimp only [c26,au,bY,aZ,bH,aG,bE,dR,eu,dA,aD,bT,dh,bJ,aQ];simp only [cg,go_sem]
 refine xR (t.goals.length + 6) (fun x:Bool × Tk=>nxT w x.1 x.2) (fun i x=>Ui x.2 900 ∧ rk nm w x.2 + i < t.goals.length + 6 ∧ I4 θ nm up w (t.goals.length + 6 - i) x.2 = R) (by omega) (false,t) rfl ⟨ht,by have:=@Uh nm w t;show rk nm w t + 0 < _;omega,hR⟩ (fun i x hi hP=>?_) (fun x hP=>absurd hP.2.1 (by omega))
 obtain ⟨b,x⟩:=x
 obtain ⟨h1,h2,h3⟩:=hP
 simp only at h1 h2 h3 ⊢
 have st:=fun n=>OB (F:=F) (n:=n) S w K hF x (by have:=h1.len;omega) h1.toabx _ rfl
 have hb:=Xe S K.hw (N:=900) (by decide) h1
 obtain ⟨f,hff⟩:∃ f,t.goals.length + 6 - i = f + 1:=⟨t.goals.length + 5 - i,by omega⟩
 rw [hff] at h3
 unfold I4 at h3
 have hrk:=@Xd θ nm up w x
 generalize zk θ nm up w x = M at st hb h3 hrk
 obtain ⟨⟨M1,M2⟩,M3⟩:=M
 simp only at st hb h3 hrk
 cases M2 with
 | true =>
  rw [ail rfl] at h3
  subst h3
  cases b
  all_goals
   first | rw [Uj] | rw [Uk]
   simp only [st,go_sem]
   try rfl
 | false =>
  rw [ain ajl] at h3
  have hlt:=hrk rfl
  cases b
  all_goals
   first | rw [Uj] | rw [Uk]
   simp only [st,go_sem]
   exact ⟨(true,M3),rfl,hb,by show rk nm w M3 + (i + 1) < _;omega,by rw [show t.goals.length + 6 - (i + 1) = f from by omega];exact h3⟩
end
section
open Go Ev Kc
variable {θ : Th} {nm:Int → ByteArray → List ByteArray} {gt:ByteArray → Int → Int → Int × Bool} {up:ByteArray → ByteArray × Bool} {ext:Env} {F n:Nat}
theorem E8 {pk:Qn → It × Bool} (hp:∀ q,(pk q).1.d.length ≤ 60):∀ (l:List ByteArray) (a:List ByteArray × List ByteArray),(l.foldl (kS pk) a).1.length ≤ a.1.length + 60 * l.length ∧ (l.foldl (kS pk) a).2.length ≤ a.2.length + l.length
 | [],a=>by simp
 | y :: l,a=>by
  have:=E8 hp l (kS pk a y)
  have h2:(kS pk a y).1.length ≤ a.1.length + 60 ∧ (kS pk a y).2.length ≤ a.2.length + 1:=by
   have:=hp ⟨y,1,1⟩
   unfold kS
   split
   ·simp only [aiv];omega
   ·simp only [aiv,List.length_singleton];omega
  simp only [List.foldl_cons,List.length_cons]
  omega
theorem Ja {pk:Qn → It × Bool} (hp:∀ q,(pk q).1.d.length ≤ 60) (hn:∀ d,(nm 2 d).length ≤ 2):∀ (l:List ByteArray) (a:List ByteArray × List ByteArray),(l.foldl (wh nm pk) a).1.length ≤ a.1.length + 120 * l.length ∧ (l.foldl (wh nm pk) a).2.length ≤ a.2.length + 2 * l.length
 | [],a=>by simp
 | y :: l,a=>by
  have h1:=Ja hp hn l (wh nm pk a y)
  have h2:=E8 hp (nm 2 y) a
  have h3:=hn y
  have h4:(wh nm pk a y).1.length ≤ a.1.length + 120 ∧ (wh nm pk a y).2.length ≤ a.2.length + 2:=by
   unfold wh;omega
  simp only [List.foldl_cons,List.length_cons]
  omega
theorem Sd {pk:Qn → It × Bool} (hp:∀ q,(pk q).1.d.length ≤ 60) (hn:∀ d,(nm 2 d).length ≤ 2) {roots:List ByteArray} (hr:roots.length ≤ 1000000) (q:ByteArray):(cut θ nm up pk roots q).2.1.length ≤ 1000000 ∧ (cut θ nm up pk roots q).2.2.length ≤ 1000000:=by
 have hF:∀ (f:Nat) (z:ByteArray),(tq nm up pk roots f z).2.1.length ≤ 1000000 ∧ (tq nm up pk roots f z).2.2.length ≤ 1000000:=by
  intro f
  induction f with
  | zero=>intro z;exact ⟨hr,by simp [tq]⟩
  | succ f ih =>
   intro z
   unfold tq
   split
   ·have h1:=Ja hp hn (pk ⟨z,2,1⟩).1.d ([],[])
    have h2:=hp ⟨z,2,1⟩
    simp only [List.length_nil] at h1
    unfold Yn
    simp only
    omega
   ·split
    ·exact ih _
    ·exact ⟨hr,by simp⟩
 unfold cut
 split
 ·simp
 ·exact hF _ _
theorem OE {pk:Qn → It × Bool} {fd:Qn → Ne.Nt × Bool} {now:Int} (hn:∀ d,∀ x ∈ nm 5 d,x.size ≤ 255):∀ (f:Nat) (met:List ByteArray) (hits:List nM) (q:Qn),q.q.size ≤ 1000000 → (xW nm pk fd now f met hits q).nm.size ≤ 1000000
 | 0,met,hits,q,h=>h
 | f + 1,met,hits,q,h=>by
  cases h1:tl pk now q with
  | some x=>simp only [xW,h1];exact h
  | none =>
   cases h2:al nm pk now q with
   | none =>
    simp only [xW,h1,h2]
    unfold Kc.fin
    split <;> exact h
   | some p =>
    obtain ⟨x,ZZ8⟩:=p
    simp only [xW,h1,h2]
    split
    ·exact h
    ·refine OE hn f _ _ _ ?_
     unfold al at h2
     split at h2
     ·cases h2
     ·obtain ⟨y,hy,h3⟩:=zbm h2
      obtain ⟨z,hz,h4⟩:=zmm h3
      cases h4
      unfold tg at hz
      split at hz
      ·obtain ⟨d, -,hd⟩:=zbm hz
       have:=hn d ZZ8 (List.mem_of_mem_head? hd)
       show ZZ8.size ≤ 1000000
       omega
      ·cases hz
theorem Xf {pk:Qn → It × Bool} {fd:Qn → Ne.Nt × Bool} {now:Int} (hn:∀ d,∀ x ∈ nm 5 d,x.size ≤ 255) (q:Qn) (h:q.q.size ≤ 1000000):(vZ nm pk fd now q).nm.size ≤ 1000000:=OE hn 9 _ _ q h
theorem aby {s:Sv} {now:Int} (h:∀ x ∈ s.m,x.d.length ≤ 60) (q:Qn):(bB s now q).1.d.length ≤ 60:=by
 unfold bB
 split
 ·rename_i x ho
  split
  ·exact h x (jT ho).2
  ·exact aiU _
 ·exact aiU _
theorem Xg {l:List Pt} (hf:kR l = true):∀ x ∈ (mQ θ gt l).1.m,x.d.length ≤ 60:=fun x hx=>by
 obtain ⟨p,hp, -,rfl⟩:=(fiA (θ:=θ) (gt:=gt) l).s.it x hx
 have:=aiA.mp hf p hp
 rw [aiw] at this
 exact (Au this.1).2.1
theorem Ul (S:Sk θ nm gt up ext) (c:Cs) (hf:kR c.l = true) (hr:c.roots.length ≤ 1000000) (hw:c.work ≤ 9223372036854775807):Wk θ nm up (c.w θ gt):=by
 have W:=(fiA (θ:=θ) (gt:=gt) c.l).w hf
 refine ⟨W,W.hd,W.hy,hr,hw,fun q=>?_,fun q h=>Xf (fun d x hx=>(S.nl 5 d).2 x hx) q h⟩
 have:=Sd (θ:=θ) (nm:=nm) (up:=up) (pk:=bB (c.w θ gt).s (c.w θ gt).now) (aby (Xg hf)) (fun d=>(S.nl 2 d).1) (roots:=c.roots) hr q
 exact ⟨aiH this.1 (by decide),aiH this.2 (by decide)⟩
end
section
attribute [local go_sem_proc] Nat.reduceAdd Nat.reduceMul Nat.reduceEqDiff Nat.reduceBEq Nat.reduceMod Nat.reduceDiv reduceCtorEq
attribute [local go_sem_proc ↓] reduceIte
open Go Ev Kc
variable {θ : Th} {nm:Int → ByteArray → List ByteArray} {gt:ByteArray → Int → Int → Int × Bool} {up:ByteArray → ByteArray × Bool} {ext:Env} {F n:Nat}
abbrev OG (c:Cs):Prop:=(kR c.l = true ∧ (c.l.length:Int) ≤ 40) ∧ (c.roots.length:Int) ≤ 20
theorem GQ (hs:∀ (l:List Pt) (m:Int),l.length ≤ 200000000000000 → (∀ x ∈ l,x.s.d.length ≤ 200000000000000) → ext 10 [vl (l.map rP),vi m] = some ([vi (if kR l = true ∧ (l.length:Int) ≤ m then 1 else 0)],[vl (l.map rP),vi m])) (c:Cs) (hl:c.l.length ≤ 200000000000000) (hd:∀ x ∈ c.l,x.s.d.length ≤ 200000000000000) (hr:c.roots.length ≤ 200000000000000):G2 ext F (n + 2) 23 [c.v] = some ([vb (decide (OG c))],[c.v]):=by
 refine dB (cf:=c23) rfl ?_
 have h1:=fun n=>(ai0 (gY (oM:=oM) (ext:=ext) (F:=F) (n:=n) (f:=10) rfl) _).trans (hs c.l 40 hl hd)
 by_cases h:kR c.l = true ∧ (c.l.length:Int) ≤ 40
 ·rw [ail h] at h1
  have z1:decide ((1:Int) = 1) = true:=rfl
  by_cases h2:(c.roots.length:Int) ≤ 20
  ·have h2':decide ((c.roots.length:Int) ≤ 20) = true:=aip h2
   rw [aip (show OG c from ⟨h,h2⟩)]
   dsimp only [c23,au,bY,aZ,bH,aG,bE,dR,eu,dA,aD,bT,dh,bJ,aQ];simp only [h1,z1,h2',aio,go_sem]
   try rfl
  ·have h2':decide ((c.roots.length:Int) ≤ 20) = false:=air h2
   rw [air (show ¬ OG c from fun x=>h2 x.2)]
   dsimp only [c23,au,bY,aZ,bH,aG,bE,dR,eu,dA,aD,bT,dh,bJ,aQ];simp only [h1,z1,h2',aio,go_sem]
   try rfl
 ·rw [ain h] at h1
  have z1:decide ((0:Int) = 1) = false:=rfl
  rw [air (show ¬ OG c from fun x=>h x.1)]
  dsimp only [c23,au,bY,aZ,bH,aG,bE,dR,eu,dA,aD,bT,dh,bJ,aQ];simp only [h1,z1,go_sem]
  try rfl
theorem Jb {R:ByteArray × List ByteArray × List ByteArray} {work:Int} {init:List Gl} {g:Gl} {s:Int} {q:ByteArray} (h:(KI R work init g s q).1.2 = true):(KI R work init g s q).1.1.kind ≠ 1:=by
 unfold KI at h ⊢
 simp only at h ⊢
 split
 ·rename_i h4
  rw [ail h4] at h
  cases hf:MW (init ++ [qP R.1 g]) R.2.2 with
  | none=>simp only;decide
  | some x =>
   rw [hf] at h
   simp only at h ⊢
   split
   ·simp only;decide
   ·rename_i h5;rw [ain h5] at h;cases h
 ·split
  ·simp only;decide
  ·simp only;decide
theorem E9 {R:ByteArray × List ByteArray × List ByteArray} {work:Int} {init:List Gl} {g:Gl} {s:Int} {q:ByteArray} (h:(KI R work init g s q).1.2 = false):∃ x ∈ R.2.2,(KI R work init g s q).2 = ⟨init ++ [qP R.1 g] ++ [⟨⟨x,1,1⟩,⟨#[]⟩,0⟩],s⟩:=by
 unfold KI at h ⊢
 simp only at h ⊢
 split
 ·rename_i h4
  rw [ail h4] at h
  cases hf:MW (init ++ [qP R.1 g]) R.2.2 with
  | none=>rw [hf] at h;cases h
  | some x =>
   rw [hf] at h
   simp only at h ⊢
   split
   ·rename_i h5;rw [ail h5] at h;cases h
   ·exact ⟨x,Da hf,rfl⟩
 ·rename_i h4
  rw [ain h4] at h
  split at h <;> cases h
theorem OH {w:Wd} {x:ByteArray} (h:(bB w.s w.now ⟨x,1,1⟩).2 = false):OC nm w ⟨⟨x,1,1⟩,⟨#[]⟩,0⟩ = false:=by
 refine ai6.mpr fun hk=>?_
 unfold OC at hk
 obtain ⟨k1,k2⟩:=aiI hk
 have:=I5 k1 k2
 rw [h] at this;cases this
theorem OI {w:Wd}:∀ (f:Nat) (init:List Gl) (g:Gl) (s:Int),init ≠ [] → OC nm w g = false → (I4 θ nm up w f ⟨init ++ [g],s⟩).1.kind ≠ 1
 | 0,init,g,s,_,_=>by unfold I4;show (2:Int) ≠ 1;decide
 | f + 1,init,g,s,h0,hg=>by
  unfold I4
  rw [um]
  unfold C8
  simp only
  split
  ·rename_i h3
   have hcn:=@GN θ nm up (bB w.s w.now) w.roots (vZ nm (bB w.s w.now) (Ne.fD w.m w.now) w.now g.q).nm
   generalize cut θ nm up (bB w.s w.now) w.roots _ = R at hcn ⊢
   split
   ·rename_i h;exact Jb h
   ·rename_i h
    obtain ⟨x,hx,he⟩:=E9 (ai6.mpr h)
    rw [he]
    exact OI f _ _ _ (by simp) (OH (hcn x hx))
  ·rename_i h3
   split
   ·rename_i h4;exact absurd h4.2 h0
   ·split
    ·rename_i h4
     unfold OC at hg
     exact absurd h4 (of_decide_eq_false hg)
    ·rw [ail rfl];show (2:Int) ≠ 1;decide
theorem Sg {w:Wd} {g:Gl} {s:Int} {f:Nat} (c:Ch) (hc:vZ nm (bB w.s w.now) (Ne.fD w.m w.now) w.now g.q = c) :
  (c.e ≠ 3 → c.e ≠ 4 → I4 θ nm up w (f + 1) ⟨[g],s⟩ = (⟨1,c,⟨#[]⟩,⟨⟨#[]⟩,0,0⟩,⟨#[]⟩⟩,⟨[g],s⟩)) ∧ (c.e = 3 ∨ c.e = 4 → (I4 θ nm up w (f + 1) ⟨[g],s⟩).1.kind ≠ 1):=by
 have e:zk θ nm up w ⟨[g],s⟩ = C8 θ nm up w [] g s:=um (init:=[])
 unfold I4
 rw [e]
 unfold C8
 simp only [hc]
 refine ⟨fun h3 h4=>?_,fun h=>?_⟩
 ·rw [ain h3,ail (show c.e ≠ 4 ∧ True from ⟨h4,trivial⟩)];rfl
 ·by_cases h3:c.e = 3
  ·rw [ail h3]
   have hcn:=@GN θ nm up (bB w.s w.now) w.roots c.nm
   generalize cut θ nm up (bB w.s w.now) w.roots _ = R at hcn ⊢
   split
   ·rename_i h;exact Jb h
   ·rename_i h
    obtain ⟨x,hx,he⟩:=E9 (ai6.mpr h)
    rw [he]
    exact OI f _ _ _ (by simp) (OH (hcn x hx))
  ·have h4:c.e = 4:=h.resolve_left h3
   rw [ain h3,ain (fun x:c.e ≠ 4 ∧ True=>x.1 h4),ain (fun x:c.e = 0 ∧ c.hits.length = 1=>by rw [h4] at x;exact absurd x.1 (by decide)),ail rfl]
   show (2:Int) ≠ 1
   decide
end
end Go.Proofs.YtfokaoeinpnagaaGreat.Kd
namespace Go.Proofs.YtfokaoeinpnagaaGreat.Kc
section
open Go Ev
variable {nm : Int → ByteArray → List ByteArray} {pk:Qn → It × Bool} {fd:Qn → Ne.Nt × Bool} {now:Int}
inductive Path (nm:Int → ByteArray → List ByteArray) (c:Int) (a:ByteArray):List nM → ByteArray → Prop
 | nil:Path nm c a [] a
 | snoc {hits:List nM} {b ZZ8:ByteArray} {h:nM}:Path nm c a hits b → h.s.q = b → h.s.t = 5 → h.s.c = c → 1 ≤ h.left → tg nm h.s = some ZZ8 → Path nm c a (hits ++ [h]) ZZ8
structure OJ (pk:Qn → It × Bool) (now:Int):Prop where
 key:∀ q,(pk q).2 = true → (pk q).1.q = q.q ∧ (pk q).1.t = q.t ∧ (pk q).1.c = q.c
 live:∀ q,(pk q).2 = true → jE now (pk q).1.u = true
theorem OL {now u:Int} (h:jE now u = true):1 ≤ qX now u:=by
 unfold qX
 rw [ail h]
 unfold jE at h
 rw [aiw,aiG] at h
 split <;> omega
theorem Um (hp:OJ pk now) {q:Qn} {h:nM} (ht:tl pk now q = some h):h.s.q = q.q ∧ h.s.t = q.t ∧ h.s.c = q.c ∧ 1 ≤ h.left:=by
 unfold tl at ht
 split at ht
 ·rename_i hc
  cases ht
  obtain ⟨k1,k2,k3⟩:=hp.key q hc.1
  exact ⟨k1,k2,k3,OL (hp.live q hc.1)⟩
 ·cases ht
theorem abz (hp:OJ pk now) {q:Qn} {h:nM} {ZZ8:ByteArray} (ht:al nm pk now q = some (h,ZZ8)):q.t ≠ 5 ∧ h.s.q = q.q ∧ h.s.t = 5 ∧ h.s.c = q.c ∧ 1 ≤ h.left ∧ tg nm h.s = some ZZ8:=by
 unfold al at ht
 split at ht
 ·cases ht
 rename_i h5
 obtain ⟨h',h1,h2⟩:=zbm ht
 obtain ⟨to',h3,h4⟩:=zmm h2
 cases h4
 obtain ⟨k1,k2,k3,k4⟩:=Um hp h1
 exact ⟨h5,k1,k2,k3,k4,h3⟩
structure Lnk (nm:Int → ByteArray → List ByteArray) (q:Qn) (c:Ch):Prop where
 len:c.hits.length ≤ 9
 e:0 ≤ c.e ∧ c.e ≤ 4
 found:c.e = 0 → ∃ hits h,c.hits = hits ++ [h] ∧ Path nm q.c q.q hits c.nm ∧ h.s.q = c.nm ∧ h.s.t = q.t ∧ h.s.c = q.c ∧ 1 ≤ h.left ∧ (hits ≠ [] → q.t ≠ 5)
 long:c.e = 4 → q.t ≠ 5 ∧ c.hits ≠ [] ∧ ∃ ZZ8,Path nm q.c q.q c.hits ZZ8
 rest:c.e ≠ 0 → c.e ≠ 4 → Path nm q.c q.q c.hits c.nm ∧ (c.hits ≠ [] → q.t ≠ 5)
theorem Jc (hp:OJ pk now) (q0:Qn):∀ (f:Nat) (met:List ByteArray) (hits:List nM) (q:Qn),hits.length + f = 9 → 1 ≤ f → q.t = q0.t → q.c = q0.c → Path nm q0.c q0.q hits q.q → (hits ≠ [] → q0.t ≠ 5) → Lnk nm q0 (xW nm pk fd now f met hits q)
 | 0,_,_,_,_,h,_,_,_,_=>by omega
 | f + 1,met,hits,q,hl,_,ht,hc,hP,hn=>by
  unfold xW
  cases h1:tl pk now q with
  | some h =>
   obtain ⟨k1,k2,k3,k4⟩:=Um hp h1
   refine ⟨by show (hits ++ [h]).length ≤ 9;simp;omega,by show (0:Int) ≤ 0 ∧ (0:Int) ≤ 4;omega,fun _=>⟨hits,h,rfl,hP,k1,by rw [k2,ht],by rw [k3,hc],k4,hn⟩,fun e=>(by cases e),fun e=>absurd rfl e⟩
  | none =>
   cases h2:al nm pk now q with
   | none =>
    dsimp only
    unfold fin
    split
    ·refine ⟨by show hits.length ≤ 9;omega,?_,fun e=>?_,fun e=>?_,fun _ _=>⟨hP,hn⟩⟩
     ·show 0 ≤ (if _ then (2:Int) else 1) ∧ (if _ then (2:Int) else 1) ≤ 4
      split <;> omega
     ·exfalso
      have e':(if (fd q).1.nx = true then (2:Int) else 1) = 0:=e
      split at e' <;> omega
     ·exfalso
      have e':(if (fd q).1.nx = true then (2:Int) else 1) = 4:=e
      split at e' <;> omega
    ·exact ⟨by show hits.length ≤ 9;omega,by show (0:Int) ≤ 3 ∧ (3:Int) ≤ 4;omega,fun e=>absurd (show (3:Int) = 0 from e) (by decide),fun e=>absurd (show (3:Int) = 4 from e) (by decide),fun _ _=>⟨hP,hn⟩⟩
   | some p =>
    obtain ⟨h,ZZ8⟩:=p
    obtain ⟨k0,k1,k2,k3,k4,k5⟩:=abz hp h2
    have hP':Path nm q0.c q0.q (hits ++ [h]) ZZ8:=.snoc hP k1 k2 (by rw [k3,hc]) k4 k5
    have hn':q0.t ≠ 5:=by rw [← ht];exact k0
    dsimp only
    split
    ·exact ⟨by show (hits ++ [h]).length ≤ 9;simp;omega,by show (0:Int) ≤ 4 ∧ (4:Int) ≤ 4;omega,fun e=>absurd (show (4:Int) = 0 from e) (by decide),fun _=>⟨hn',by simp,ZZ8,hP'⟩,fun _ e=>absurd rfl e⟩
    ·rename_i hm
     have h8:hits.length < 8:=by
      have:¬ 8 ≤ hits.length:=fun h=>hm (.inl h)
      omega
     exact Jc hp q0 f (met ++ [ZZ8]) (hits ++ [h]) ⟨ZZ8,q.t,q.c⟩ (by simp;omega) (by omega) ht hc hP' (fun _=>hn')
theorem Si (hp:OJ pk now) (q:Qn):Lnk nm q (vZ nm pk fd now q):=Jc hp q 9 [q.q] [] q rfl (by omega) rfl rfl .nil (fun h=>absurd rfl h)
end
section
open Go Ev
variable {nm : Int → ByteArray → List ByteArray}
def Un (nm:Int → ByteArray → List ByteArray) (a:ByteArray) (hits:List nM):Nat → ByteArray
 | 0=>a
 | i + 1=>match hits[i]? with
  | some h=>(zi nm h.s).1
  | none=>⟨#[]⟩
theorem y7 {a:ByteArray} {hits:List nM} {i:Nat}:Un nm a hits (i + 1) = match hits[i]? with | some h=>(zi nm h.s).1 | none=>⟨#[]⟩:=rfl
theorem uo {a:ByteArray} {hits:List nM} {h:nM}:∀ {i:Nat},i ≤ hits.length → Un nm a (hits ++ [h]) i = Un nm a hits i
 | 0,_=>rfl
 | i + 1,hi=>by
  rw [y7,y7,ajK (by omega)]
theorem Jd {c:Int} {a b:ByteArray} {hits:List nM} (hP:Path nm c a hits b):(∀ i h,hits[i]? = some h → h.s.q = Un nm a hits i ∧ h.s.t = 5 ∧ h.s.c = c ∧ 1 ≤ h.left ∧ (zi nm h.s).2 = true) ∧ Un nm a hits hits.length = b:=by
 induction hP with
 | nil=>exact ⟨fun i h hi=>by simp at hi,rfl⟩
 | snoc hP h1 h2 h3 h4 h5 ih =>
  rename_i hits b ZZ8 h
  have ht:zi nm h.s = (ZZ8,true):=by unfold zi;rw [h5]
  refine ⟨fun i x hx=>?_,?_⟩
  ·by_cases hi:i < hits.length
   ·rw [ajK hi] at hx
    rw [uo (by omega)]
    exact ih.1 i x hx
   ·have hl:=(ajb.mp hx).1
    rw [aiv,List.length_singleton] at hl
    obtain rfl:i = hits.length:=by omega
    rw [aj2 (aiq _),Nat.sub_self] at hx
    cases hx
    rw [uo (aiq _),ih.2]
    exact ⟨h1,h2,h3,h4,by rw [ht]⟩
  ·rw [aiv,List.length_singleton,y7]
   rw [aj2 (aiq _),Nat.sub_self]
   show (zi nm h.s).1 = _
   rw [ht]
def nmv (nm:Int → ByteArray → List ByteArray) (a:ByteArray) (c:Ch) (i:Nat):ByteArray:=if i = c.hits.length ∧ c.e = 0 then Un nm a c.hits (i - 1) else Un nm a c.hits i
structure abA (nm:Int → ByteArray → List ByteArray) (q:Qn) (c:Ch):Prop where
 len:c.hits.length ≤ 9
 e:0 ≤ c.e ∧ c.e ≤ 4
 key:∀ i h,c.hits[i]? = some h → h.s.q = Un nm q.q c.hits i ∧ h.s.c = q.c ∧ 1 ≤ h.left
 last:∀ i h,c.hits[i]? = some h → i + 1 = c.hits.length → c.e = 0 → h.s.t = q.t
 mid:∀ i h,c.hits[i]? = some h → ¬ (i + 1 = c.hits.length ∧ c.e = 0) → h.s.t = 5 ∧ (zi nm h.s).2 = true ∧ q.t ≠ 5
 found:c.e = 0 → c.hits ≠ []
 long:c.e = 4 → c.hits ≠ []
 name:c.e ≠ 4 → c.nm = nmv nm q.q c c.hits.length
theorem abB {q:Qn} {c:Ch} (h:Lnk nm q c):abA nm q c:=by
 by_cases h0:c.e = 0
 ·obtain ⟨hits,x,e1,hP,k1,k2,k3,k4,k5⟩:=h.found h0
  obtain ⟨p1,p2⟩:=Jd hP
  have hl:c.hits.length = hits.length + 1:=by rw [e1];simp
  have GR:∀ i y,c.hits[i]? = some y → (i < hits.length ∧ hits[i]? = some y) ∨ (i = hits.length ∧ y = x):=fun i y hy=>by
   have hb:=(ajb.mp hy).1
   rw [e1] at hy
   by_cases hi:i < hits.length
   ·rw [ajK hi] at hy;exact .inl ⟨hi,hy⟩
   ·obtain rfl:i = hits.length:=by omega
    rw [aj2 (aiq _),Nat.sub_self] at hy
    cases hy
    exact .inr ⟨rfl,rfl⟩
  refine ⟨h.len,h.e,fun i y hy=>?_,fun i y hy hi _=>?_,fun i y hy hi=>?_,fun _=>by rw [e1];simp,fun e=>by omega,fun _=>?_⟩
  ·rcases GR i y hy with ⟨hi,hy'⟩ | ⟨rfl,rfl⟩
   ·obtain ⟨g1,g2,g3,g4,g5⟩:=p1 i y hy'
    rw [e1,uo (by omega)]
    exact ⟨g1,g3,g4⟩
   ·rw [e1,uo (aiq _),p2]
    exact ⟨k1,k3,k4⟩
  ·rcases GR i y hy with ⟨hi',hy'⟩ | ⟨rfl,rfl⟩
   ·omega
   ·exact k2
  ·rcases GR i y hy with ⟨hi',hy'⟩ | ⟨rfl,rfl⟩
   ·obtain ⟨g1,g2,g3,g4,g5⟩:=p1 i y hy'
    exact ⟨g2,g5,k5 (by intro e;rw [e] at hi';simp at hi')⟩
   ·exact absurd ⟨hl.symm,h0⟩ hi
  ·unfold nmv
   rw [ail ⟨rfl,h0⟩,hl,Nat.add_sub_cancel,e1,uo (aiq _),p2]
 ·have main:∃ b,Path nm q.c q.q c.hits b ∧ (c.hits ≠ [] → q.t ≠ 5) ∧ (c.e ≠ 4 → b = c.nm) ∧ (c.e = 4 → c.hits ≠ []):=by
   by_cases h4:c.e = 4
   ·obtain ⟨g1,g2,ZZ8,g3⟩:=h.long h4
    exact ⟨ZZ8,g3,fun _=>g1,fun e=>absurd h4 e,fun _=>g2⟩
   ·obtain ⟨g1,g2⟩:=h.rest h0 h4
    exact ⟨_,g1,g2,fun _=>rfl,fun e=>absurd e h4⟩
  obtain ⟨b,hP,g1,g2,g3⟩:=main
  obtain ⟨p1,p2⟩:=Jd hP
  refine ⟨h.len,h.e,fun i y hy=>?_,fun i y hy hi e=>absurd e h0,fun i y hy hi=>?_,fun e=>absurd e h0,g3,fun e=>?_⟩
  ·obtain ⟨k1,k2,k3,k4,k5⟩:=p1 i y hy
   exact ⟨k1,k3,k4⟩
  ·obtain ⟨k1,k2,k3,k4,k5⟩:=p1 i y hy
   exact ⟨k2,k5,g1 (by intro e;rw [e] at hy;simp at hy)⟩
  ·unfold nmv
   rw [ain (fun x=>h0 x.2),p2,g2 e]
theorem abC (s:Sv) (now:Int):OJ (bB s now) now where
 key q h:=by
  obtain ⟨-,h1, -⟩:=Co h
  exact ⟨aiK Qn.q h1,aiK Qn.t h1,aiK Qn.c h1⟩
 live q h:=(Co h).2.2
theorem abD (s:Sv) (fd:Qn → Ne.Nt × Bool) (now:Int) (q:Qn):abA nm q (vZ nm (bB s now) fd now q):=abB (Si (abC s now) q)
theorem abE {s:Sv} {now:Int} {q:Qn} {h:nM} (hy:∀ x ∈ s.m,x.d.length ≤ 1000000) (ht:tl (bB s now) now q = some h):h.s.d.length ≤ 1000000000000:=by
 unfold tl at ht
 split at ht
 ·rename_i hc
  cases ht
  have:=hy _ (Co hc.1).1
  show (bB s now q).1.d.length ≤ _
  omega
 ·cases ht
theorem Uo {a:Sv × Ne.Nv} {now:Int} (W:FW a):∀ (f:Nat) (met:List ByteArray) (hits:List nM) (q:Qn),(∀ h ∈ hits,h.s.d.length ≤ 1000000000000) → (∀ h ∈ (xW nm (bB a.1 now) (Ne.fD a.2 now) now f met hits q).hits,h.s.d.length ≤ 1000000000000) ∧ (xW nm (bB a.1 now) (Ne.fD a.2 now) now f met hits q).iM.s.d.length ≤ 1000000000000
 | 0,met,hits,q,hh=>by unfold xW;exact ⟨hh,aiU _⟩
 | f + 1,met,hits,q,hh=>by
  have app:∀ x:nM,x.s.d.length ≤ 1000000000000 → ∀ h ∈ hits ++ [x],h.s.d.length ≤ 1000000000000:=fun x hx h hm=>by
   rcases aiN.mp hm with hm | hm
   ·exact hh h hm
   ·rw [aje] at hm;subst hm;exact hx
  unfold xW
  cases h1:tl (bB a.1 now) now q with
  | some x=>exact ⟨app x (abE W.hd h1),aiU _⟩
  | none =>
   cases h2:al nm (bB a.1 now) now q with
   | none =>
    dsimp only
    unfold fin
    split
    ·rename_i hf
     refine ⟨hh,?_⟩
     show (Ne.fD a.2 now q).1.s.d.length ≤ _
     have h9:∀ b y,Ne.nof a.2.m now b = some y → y.s.d.length ≤ 1000000000000:=fun b y hy=>by
      have:=W.hd2 y (abu hy).1
      omega
     unfold Ne.fD
     split
     ·rename_i y hy;exact h9 _ _ hy
     ·unfold Ne.ofR
      split
      ·rename_i y hy;exact h9 _ _ hy
      ·exact aiU _
    ·exact ⟨hh,aiU _⟩
   | some p =>
    obtain ⟨x,ZZ8⟩:=p
    have hx:x.s.d.length ≤ 1000000000000:=by
     unfold al at h2
     split at h2
     ·cases h2
     obtain ⟨z,g1,g2⟩:=zbm h2
     obtain ⟨v,g3,g4⟩:=zmm g2
     cases g4
     exact abE W.hd g1
    dsimp only
    split
    ·exact ⟨app x hx,aiU _⟩
    ·exact Uo W f _ _ _ (app x hx)
theorem Xh {a:Sv × Ne.Nv} {now:Int} {q:Qn} (W:FW a):(∀ h ∈ (vZ nm (bB a.1 now) (Ne.fD a.2 now) now q).hits,h.s.d.length ≤ 1000000000000) ∧ (vZ nm (bB a.1 now) (Ne.fD a.2 now) now q).iM.s.d.length ≤ 1000000000000:=Uo W 9 _ _ _ (by simp)
end
end Go.Proofs.YtfokaoeinpnagaaGreat.Kc
namespace Go.Proofs.YtfokaoeinpnagaaGreat.Kd
section
attribute [local go_sem_proc] Nat.reduceAdd Nat.reduceMul Nat.reduceEqDiff Nat.reduceBEq Nat.reduceMod Nat.reduceDiv reduceCtorEq
attribute [local go_sem_proc ↓] reduceIte
open Go Ev Kc
variable {θ : Th} {nm:Int → ByteArray → List ByteArray} {gt:ByteArray → Int → Int → Int × Bool} {up:ByteArray → ByteArray × Bool} {ext:Env} {F n:Nat}
structure ExD (θ:Th) (ext:Env):Prop where
 sm:∀ (l:List Pt) (m:Int),l.length ≤ 200000000000000 → (∀ x ∈ l,x.s.d.length ≤ 200000000000000) → ext 10 [vl (l.map rP),vi m] = some ([vi (if kR l = true ∧ (l.length:Int) ≤ m then 1 else 0)],[vl (l.map rP),vi m])
 rl:∀ q,q.size ≤ 1000000 → ext 41 [vs q] = some ([vs (θ.low q)],[vs q])
 td:∀ k:Ch,k.hits.length ≤ 1000000 → ext 17 [k.v] = some ([k.v],[k.v])
 sa:∀ k:Ch,k.hits.length ≤ 1000000 → (∀ h ∈ k.hits,h.s.d.length ≤ 1000000000000) → k.iM.s.d.length ≤ 1000000000000 → ext 16 [k.v,k.v] = some ([vb true],[k.v,k.v])
theorem tk1 {q:Qn} {z:ByteArray} {r s:Int} (h:q.q.size ≤ 1000000) (h1:-9223372036854775808 ≤ s) (h2:s ≤ 9223372036854775807):Ui ⟨[⟨q,z,r⟩],s⟩ 900:=⟨⟨fun g hg=>by rw [aje.mp hg];exact h,h1,h2⟩,by simp⟩
theorem xx {f:FuncId} (h:Ev.look oM f = none) (d9:List AV) (r) (he:ext f d9 = some r) (n:Nat):G2 ext F (n + 1) f d9 = some r:=(ai0 (gY h) _).trans he
theorem Fa (S:Sk θ nm gt up ext) (hv:∀ n,G2 ext F (n + 8) 24 [] = some ([vb true],[])) (E:ExD θ ext) (hF:200000000000001 ≤ F) (c:Cs) (q:Qn) (hl:c.l.length ≤ 200000000000000) (hd:∀ x ∈ c.l,x.s.d.length ≤ 200000000000000) (hr:c.roots.length ≤ 200000000000000) (hw:c.work ≤ 9223372036854775807):G2 ext F (n + 9) 7 [c.v,q.v] = some ([vb true],[c.v,q.v]):=by
 refine dB (cf:=c7) rfl ?_
 have hs:=fun n=>GQ (F:=F) (n:=n) E.sm c hl hd hr
 by_cases h1:OG c
 case neg =>
  rw [air h1] at hs
  dsimp only [c7,au,bY,aZ,bH,aG,bE,dR,eu,dA,aD,bT,dh,bJ,aQ];simp only [hs,hv,go_sem]
  try rfl
 rw [aip h1] at hs
 by_cases h3:q.q.size ≤ 300
 case neg =>
  have h3':decide ((300:Int) < (q.q.size:Int)) = true:=aip (by omega)
  dsimp only [c7,au,bY,aZ,bH,aG,bE,dR,eu,dA,aD,bT,dh,bJ,aQ];simp only [hs,hv,h3',go_sem]
  try rfl
 have h3':decide ((300:Int) < (q.q.size:Int)) = false:=air (by omega)
 have K:=Ul S c h1.1.1 (by omega) hw
 have wd:=fun n=>E5 (F:=F) (n:=n) (gt:=gt) S c (by omega) h1.1.1
 have st:=fun n=>EZ (F:=F) (n:=n) S q (by omega)
 have hls:=S.ls q.q
 have rl:=fun n=>xx (F:=F) (f:=41) rfl _ _ (E.rl q.q (by omega)) n
 have fw:=fun n=>aaq (F:=F) (n:=n) S (c.w θ gt).s (c.w θ gt).m (c.w θ gt).now ⟨θ.low q.q,q.t,q.c⟩ K.fw
 have nx:=fun n=>I9 (F:=F) (n:=n) S (c.w θ gt) K hF ⟨[⟨⟨θ.low q.q,q.t,q.c⟩,⟨#[]⟩,0⟩],0⟩ (tk1 (by show (θ.low q.q).size ≤ 1000000;omega) (by decide) (by decide)) _ rfl
 have N1:=@Sg θ nm up (c.w θ gt) ⟨⟨θ.low q.q,q.t,q.c⟩,⟨#[]⟩,0⟩ 0 6 _ rfl
 have hA:=abD (nm:=nm) (c.w θ gt).s (Ne.fD (c.w θ gt).m (c.w θ gt).now) (c.w θ gt).now ⟨θ.low q.q,q.t,q.c⟩
 have hAd:=Xh (nm:=nm) (q:=⟨θ.low q.q,q.t,q.c⟩) (now:=(c.w θ gt).now) K.fw
 simp only at N1
 generalize vZ nm (bB (c.w θ gt).s (c.w θ gt).now) (Ne.fD (c.w θ gt).m (c.w θ gt).now) (c.w θ gt).now ⟨θ.low q.q,q.t,q.c⟩ = A at fw N1 hA hAd
 change ∀ n,_ = some ([(I4 θ nm up (c.w θ gt) 7 ⟨[⟨⟨θ.low q.q,q.t,q.c⟩,⟨#[]⟩,0⟩],0⟩).2.v,(I4 θ nm up (c.w θ gt) 7 ⟨[⟨⟨θ.low q.q,q.t,q.c⟩,⟨#[]⟩,0⟩],0⟩).1.v],_) at nx
 generalize I4 θ nm up (c.w θ gt) (6 + 1) ⟨[⟨⟨θ.low q.q,q.t,q.c⟩,⟨#[]⟩,0⟩],0⟩ = R at nx N1
 have af8:(c.w θ gt).now = c.now:=rfl
 rw [af8] at fw
 generalize c.w θ gt = w at wd nx fw hA K
 have hlen:=hA.len
 have he:=hA.e
 have t1:=fun n=>xx (F:=F) (f:=17) rfl _ _ (E.td A (by omega)) n
 have t2:=fun n=>xx (F:=F) (f:=16) rfl _ _ (E.sa A (by omega) hAd.1 hAd.2) n
 simp only [Tk.v,aiy,aiF,rG] at st nx
 dsimp only [c7,au,bY,aZ,bH,aG,bE,dR,eu,dA,aD,bT,dh,bJ,aQ];simp (maxSteps:=100000000) only [hs,h3',wd,st,nx,rl,fw,go_sem]
 by_cases hk:A.e = 3 ∨ A.e = 4
 ·have hk1:=N1.2 hk
  have k0:decide (A.e = 0) = false:=air (by omega)
  have k1:decide (A.e = 1) = false:=air (by omega)
  have k2:decide (A.e = 2) = false:=air (by omega)
  have k3:decide (R.1.kind = 1) = false:=air hk1
  simp only [k0,k1,k2,k3,hv,ajU,go_sem]
  try rfl
 ·have hk1:=N1.1 (fun h=>hk (.inl h)) (fun h=>hk (.inr h))
  subst hk1
  simp only at t1 t2 ⊢
  have k9:decide ((1:Int) = 1) = true:=rfl
  by_cases e0:A.e = 0
  ·have k0:decide (A.e = 0) = true:=aip e0
   simp only [k0,k9,t1,t2,hv,ajU,go_sem]
   try rfl
  ·have k0:decide (A.e = 0) = false:=air e0
   by_cases e1:A.e = 1
   ·have k1:decide (A.e = 1) = true:=aip e1
    simp only [k0,k1,k9,t1,t2,hv,ajU,go_sem]
    try rfl
   ·have k1:decide (A.e = 1) = false:=air e1
    have k2:decide (A.e = 2) = true:=aip (by omega)
    simp only [k0,k1,k2,k9,t1,t2,hv,ajU,go_sem]
    try rfl
end
section
attribute [local go_sem_proc] Nat.reduceAdd Nat.reduceMul Nat.reduceEqDiff Nat.reduceBEq Nat.reduceMod Nat.reduceDiv reduceCtorEq
attribute [local go_sem_proc ↓] reduceIte
open Go Ev Kc
variable {θ : Th} {nm:Int → ByteArray → List ByteArray} {gt:ByteArray → Int → Int → Int × Bool} {up:ByteArray → ByteArray × Bool} {ext:Env} {F n:Nat}
def Kq (Γ:Env) (gs:List G) (ks lZ:List Nat) (σ r:St) (os:List (List Nat)):Prop:=kM Γ gs ks lZ σ r os
theorem Xi {k:Out × St → Prop} {u:Tok k} {Γ:Env} {σ:St} {gs:List G} {o:List Nat} {os:List (List Nat)} {ks lZ:List Nat}:W k u (ev Γ F (.any gs (o :: os) ks lZ) σ) ↔ W (fun s=>W (fun r=>Kq Γ gs ks lZ σ r os ∧ W k ⟨⟩ (some (.iV,r))) ⟨⟩ (some (⟨pick ks s.tm,pick lZ s.ob⟩:St))) ⟨⟩ (vW Γ false (o.map fun i=>gs.getD i default) σ):=Zi
abbrev n_X : ByteArray:=⟨#[1,88,1,97,0]⟩
abbrev n_x : ByteArray:=⟨#[1,120,1,97,0]⟩
abbrev n_a : ByteArray:=⟨#[1,97,0]⟩
abbrev Yq : ByteArray:=⟨#[1,110,0]⟩
abbrev Xj : ByteArray:=⟨#[48,48,48,48]⟩
abbrev r_1 : ByteArray:=⟨#[48,48,48,49]⟩
abbrev a_1 : ByteArray:=⟨#[49,49,49,49]⟩
abbrev a_2 : ByteArray:=⟨#[50,50,50,50]⟩
abbrev q00 : Qn:=⟨⟨#[]⟩,0,0⟩
abbrev t_x : Tk:=⟨[⟨⟨n_x,1,1⟩,⟨#[]⟩,0⟩],0⟩
abbrev p_1 : Pt:=⟨0,⟨n_a,2,1,[Yq],99⟩,1,q00⟩
abbrev p_2 : Pt:=⟨0,⟨Yq,1,1,[a_1],99⟩,1,q00⟩
abbrev p_3 : Pt:=⟨0,⟨n_x,1,1,[a_2],99⟩,5,q00⟩
abbrev KJ : Cs:=⟨[],0,[Xj,r_1],5⟩
abbrev Uq : Cs:=⟨[],0,[Xj],0⟩
abbrev OY : Cs:=⟨[p_1],0,[Xj],5⟩
abbrev Sj : Cs:=⟨[p_1,p_2],0,[Xj],5⟩
abbrev Sl : Cs:=⟨[p_1,p_2,p_3],0,[Xj],5⟩
abbrev nX (θ:Th) (nm:Int → ByteArray → List ByteArray) (gt:ByteArray → Int → Int → Int × Bool) (up:ByteArray → ByteArray × Bool) (c:Cs):Stp × Tk:=I4 θ nm up (c.w θ gt) 7 t_x
structure Ur (θ:Th) (nm:Int → ByteArray → List ByteArray) (gt:ByteArray → Int → Int → Int × Bool) (up:ByteArray → ByteArray × Bool):Prop where
 lo:θ.low n_X = n_x
 a1:(nX θ nm gt up KJ).1.kind = 0
 a2:(nX θ nm gt up KJ).1.server = Xj
 a3:(nX θ nm gt up KJ).1.zone = rt0
 a4:(nX θ nm gt up KJ).2.goals.map (fun g=>g.tries) = [1]
 a5:(nX θ nm gt up KJ).2.sends = 1
 y1:(nX θ nm gt up Uq).1.kind = 2
 z1:(nX θ nm gt up OY).1.kind = 0
 z2:(nX θ nm gt up OY).1.q.q = Yq
 b1:(nX θ nm gt up OY).2.goals.map (fun g=>g.q.t) = [1,1]
 u1:(nX θ nm gt up Sj).1.server = a_1
 u2:(nX θ nm gt up Sj).1.zone = n_a
 v1:(nX θ nm gt up Sl).1.kind = 1
 v2:(nX θ nm gt up Sl).1.ch.hits.length = 1
theorem abF : Ui t_x 900:=⟨⟨fun g hg=>by rw [aje.mp hg];decide,by decide,by decide⟩,by decide⟩
theorem Kr (S:Sk θ nm gt up ext) (L:Ur θ nm gt up) (hF:200000000000001 ≤ F):G2 ext F (n + 8) 24 [] = some ([vb true],[]):=by
 refine dB (cf:=c24) rfl ?_
 have st:=fun n=>EZ (F:=F) (n:=n) S ⟨n_X,1,1⟩ (by decide)
 rw [L.lo] at st
 have wd:=fun n c h1 h2=>E5 (F:=F) (n:=n) (gt:=gt) S c h1 h2
 have nx:=fun n c h1 h2 h3=>I9 (F:=F) (n:=n) S (Cs.w θ gt c) (Ul S c h1 h2 h3) hF t_x abF _ rfl
 have wa:=fun n=>wd n KJ (by decide) (by decide)
 have wy:=fun n=>wd n Uq (by decide) (by decide)
 have wb:=fun n=>u7 (F:=F) (n:=n) (gt:=gt) S OY (by decide) (by decide)
 have wc:=fun n=>u7 (F:=F) (n:=n) (gt:=gt) S Sj (by decide) (by decide)
 have we:=fun n=>u7 (F:=F) (n:=n) (gt:=gt) S Sl (by decide) (by decide)
 have xa:=fun n=>nx n KJ (by decide) (by decide) (by decide)
 have xy:=fun n=>nx n Uq (by decide) (by decide) (by decide)
 have xb:=fun n=>nx n OY (by decide) (by decide) (by decide)
 have xc:=fun n=>nx n Sj (by decide) (by decide) (by decide)
 have xd:=fun n=>nx n Sl (by decide) (by decide) (by decide)
 clear nx wd
 obtain ⟨-,a1,a2,a3,a4,a5,y1,z1,z2,b1,u1,u2,v1,v2⟩:=L
 change ∀ n,_ = some ([(nX θ nm gt up KJ).2.v,(nX θ nm gt up KJ).1.v],_) at xa
 change ∀ n,_ = some ([(nX θ nm gt up Uq).2.v,(nX θ nm gt up Uq).1.v],_) at xy
 change ∀ n,_ = some ([(nX θ nm gt up OY).2.v,(nX θ nm gt up OY).1.v],_) at xb
 change ∀ n,_ = some ([(nX θ nm gt up Sj).2.v,(nX θ nm gt up Sj).1.v],_) at xc
 change ∀ n,_ = some ([(nX θ nm gt up Sl).2.v,(nX θ nm gt up Sl).1.v],_) at xd
 generalize nX θ nm gt up KJ = Ra at *
 generalize nX θ nm gt up Uq = Ry at *
 generalize nX θ nm gt up OY = Rb at *
 generalize nX θ nm gt up Sj = Rc at *
 generalize nX θ nm gt up Sl = Rd at *
 generalize Cs.w θ gt KJ = Wa at *
 generalize Cs.w θ gt Uq = Wy at *
 generalize Cs.w θ gt OY = Wb at *
 generalize Cs.w θ gt Sj = Wc at *
 generalize Cs.w θ gt Sl = We at *
 obtain ⟨⟨ka,cha,sva,qa,za⟩,⟨ga,na⟩⟩:=Ra
 obtain ⟨⟨ky,chy,svy,qy,zy⟩,⟨gy,ny⟩⟩:=Ry
 obtain ⟨⟨kb,chb,svb,⟨qb,qbt,qbc⟩,zb⟩,⟨gb,nb⟩⟩:=Rb
 obtain ⟨⟨kc,chc,svc,qc,zc⟩,⟨gc,nc⟩⟩:=Rc
 obtain ⟨⟨kd,chd,svd,qd,zd⟩,⟨gd,nd⟩⟩:=Rd
 simp only at a1 a2 a3 a4 a5 y1 z1 z2 b1 u1 u2 v1 v2
 subst a1 a2 a3 a5 y1 z1 z2 u1 u2 v1
 obtain ⟨q1,z1,rfl⟩:∃ q z,ga = [⟨q,z,1⟩]:=by
  match ga,a4 with
  | [⟨q,z,r⟩],h=>simp only [aiy,aiF,ajD,and_true] at h;subst h;exact ⟨q,z,rfl⟩
 obtain ⟨q2,c2,z2,r2,q3,c3,z3,r3,rfl⟩:∃ q c z r q' c' z' r',gb = [⟨⟨q,1,c⟩,z,r⟩,⟨⟨q',1,c'⟩,z',r'⟩]:=by
  match gb,b1 with
  | [⟨⟨q,t,c⟩,z,r⟩,⟨⟨q',t',c'⟩,z',r'⟩],h=>simp only [aiy,aiF,ajD,and_true] at h;obtain ⟨rfl,rfl⟩:=h;exact ⟨_,_,_,_,_,_,_,_,rfl⟩
 have hv:((chd.hits.length:Nat):Int) = 1:=by omega
 have s1:=fun n=>y5 (ext:=ext) (F:=F) (n:=n) n_a 2 Yq
 have s2:=fun n=>y5 (ext:=ext) (F:=F) (n:=n) Yq 1 a_1
 have s3:=fun n=>y5 (ext:=ext) (F:=F) (n:=n) n_x 1 a_2
 simp only [KJ,Uq,OY,Sj,Sl,p_1,p_2,p_3,t_x,q00,n_X,n_x,n_a,Yq,Xj,r_1,a_1,a_2,rt0,Cs.v,Cs.ov,Tk.v,Qn.v,Se.v,oO,aiy,aiF,rG,rP,bn] at st wa wy wb wc we xa xy xb xc xd s1 s2 s3
 dsimp only [c24,au,bY,aZ,bH,aG,bE,dR,eu,dA,aD,bT,dh,bJ,aQ];simp (maxSteps:=100000000) only [↓Xi,st,wa,wy,wb,wc,we,xa,xy,xb,xc,xd,s1,s2,s3,aio,hv,ajU,go_sem]
 refine ⟨?_,?_,?_,by decide,?_,by decide,?_,?_⟩
 ·unfold Kq;as_aux_lemma=>simp (maxSteps:=100000000) only [wa,xa,go_sem]
 ·unfold Kq;as_aux_lemma=>simp (maxSteps:=100000000) only [wy,xy,go_sem]
 ·unfold Kq;as_aux_lemma=>simp (maxSteps:=100000000) only [wb,xb,go_sem]
 ·unfold Kq;as_aux_lemma=>simp (maxSteps:=100000000) only [wc,xc,go_sem]
 ·unfold Kq;as_aux_lemma=>simp (maxSteps:=100000000) only [we,xd,go_sem]
 have d1:decide (((1:Nat):Int) = 1) = true:=rfl
 have d2:decide (((2:Nat):Int) = 2) = true:=rfl
 have d3:decide ((0:Int) < ((1:Nat):Int)) = true:=rfl
 have d4:decide ((1:Int) < ((2:Nat):Int)) = true:=rfl
 have d5:decide ((0:Int) < ((2:Nat):Int)) = true:=rfl
 have i1:(1:Int).toNat = 1:=rfl
 have d6:decide (((chd.hits.length:Nat):Int) = 1) = true:=aip hv
 simp only [d1,d2,d3,d4,d5,d6,i1,aio,Int.toNat_zero,List.getElem?_cons_zero,List.getElem?_cons_succ,ajU,go_sem]
 first | exact ⟨by decide,by decide,by decide,rfl⟩ | exact ⟨by decide,by decide,by decide⟩ | decide | omega
end
section
open Go Ev Kc
theorem abG : Ur uh nm₀ ET B.up:=by constructor <;> decide +kernel
end
end Go.Proofs.YtfokaoeinpnagaaGreat.Kd
namespace Go.Proofs.YtfokaoeinpnagaaGreat.Kc
section
attribute [local go_sem_proc] Nat.reduceAdd Nat.reduceMul Nat.reduceEqDiff Nat.reduceBEq Nat.reduceMod Nat.reduceDiv reduceCtorEq
attribute [local go_sem_proc ↓] reduceIte
open Go Ev
variable {ext : Env} {F n:Nat} {θ:Th} {nm:Int → ByteArray → List ByteArray} {gt:ByteArray → Int → Int → Int × Bool}
theorem Je (x:nM) (hl:x.s.d.length ≤ 1000000000000) (hF:200000000000001 ≤ F):G ext F (n + 3) 63 [x.v,x.v] = some ([vb true],[x.v,x.v]):=by
 refine dB (cf:=c63) rfl ?_
 have h1:=fun n=>QG (ext:=ext) (F:=F) (n:=n) x.s.q x.s.t x.s.c x.s.d x.s.ttl x.s.q x.s.t x.s.c x.s.d x.s.ttl hl hF
 rw [show Mr x.s.q x.s.t x.s.c x.s.d x.s.ttl x.s.q x.s.t x.s.c x.s.d x.s.ttl = true from aip ⟨rfl,rfl,rfl,rfl,rfl⟩] at h1
 dsimp only [c63,au,bY,aZ,bH,aG,bE,dR,eu,dA,aD,bT,dh,bJ,aQ];simp only [h1,ajU,go_sem]
theorem OM (c:Ch) (hl:c.hits.length ≤ 1000000) (hd:∀ h ∈ c.hits,h.s.d.length ≤ 1000000000000) (hs:c.iM.s.d.length ≤ 1000000000000) (hF:200000000000001 ≤ F):G ext F (n + 4) 16 [c.v,c.v] = some ([vb true],[c.v,c.v]):=by
 refine dB (cf:=c16) rfl ?_
 have h1:=fun n=>Je (ext:=ext) (F:=F) (n:=n) c.iM hs hF
 dsimp only [c16,au,bY,aZ,bH,aG,bE,dR,eu,dA,aD,bT,dh,bJ,aQ];simp only [h1,aio,ajU,go_sem]
 refine kQ c.hits.length (fun i=>⟨[(2,PV.c (CV.one (PL.ptr 60000 0))),(3,PV.c (CV.one (PL.ptr 80000 0))),(5,PV.c (CV.one (PL.f (FV.int .i64 i))))],[(60000,Ob.eH [PL.f (FV.sl (c.hits.map rH)),PL.f (FV.int .i64 c.e),PL.f (FV.str c.nm),PL.f (FV.str c.iM.s.q),PL.f (FV.int .i64 c.iM.s.t),PL.f (FV.int .i64 c.iM.s.c),PL.f (FV.sl (c.iM.s.d.map bn)),PL.f (FV.int .i64 c.iM.s.ttl),PL.f (FV.int .i64 c.iM.left)]),(80000,Ob.eH [PL.f (FV.sl (c.hits.map rH)),PL.f (FV.int .i64 c.e),PL.f (FV.str c.nm),PL.f (FV.str c.iM.s.q),PL.f (FV.int .i64 c.iM.s.t),PL.f (FV.int .i64 c.iM.s.c),PL.f (FV.sl (c.iM.s.d.map bn)),PL.f (FV.int .i64 c.iM.s.ttl),PL.f (FV.int .i64 c.iM.left)])]⟩) (fun i=>True) (by omega) rfl trivial (fun i hi hP=>?_) (fun hP=>?_)
 ·obtain ⟨x,hx,hlt,ht,h0⟩:=at_ hi
  have hn:=nx hi (by omega)
  have h2:=fun n=>Je (ext:=ext) (F:=F) (n:=n) x (hd x (ajn hx)) hF
  simp only [aio,ait,hlt,hx,ht,h0,hn,rH,h2,go_sem]
  try rfl
 ·have hde:=@end_ _ c.hits
  simp only [aio,hde,go_sem]
def tdT (c:Ch) (i:Nat) (hs:List nM):St:=match hs with
 | []=>⟨[(1,PV.c (CV.one (PL.ptr 40000 0))),(2,PV.c (CV.one (PL.ptr 60000 0))),(3,PV.c (CV.one (PL.ptr 80000 0))),(4,PV.c (CV.one (PL.f (FV.int IntKind.i64 i))))],[(40000,Ob.eH [PL.f (FV.sl (c.hits.map rH)),PL.f (FV.int .i64 c.e),PL.f (FV.str c.nm),PL.f (FV.str c.iM.s.q),PL.f (FV.int .i64 c.iM.s.t),PL.f (FV.int .i64 c.iM.s.c),PL.f (FV.sl (c.iM.s.d.map bn)),PL.f (FV.int .i64 c.iM.s.ttl),PL.f (FV.int .i64 c.iM.left)]),(60000,Ob.eH [PL.bP,PL.f (FV.int .i64 0),PL.f (FV.str ⟨#[]⟩),PL.f (FV.str ⟨#[]⟩),PL.f (FV.int .i64 0),PL.f (FV.int .i64 0),PL.bP,PL.f (FV.int .i64 0),PL.f (FV.int .i64 0)]),(80000,Ob.eH [PL.bP,PL.f (FV.int .i64 c.e),PL.f (FV.str c.nm),PL.f (FV.str c.iM.s.q),PL.f (FV.int .i64 c.iM.s.t),PL.f (FV.int .i64 c.iM.s.c),PL.f (FV.sl (c.iM.s.d.map bn)),PL.f (FV.int .i64 c.iM.s.ttl),PL.f (FV.int .i64 c.iM.left)])]⟩
 | _=>⟨[(1,PV.c (CV.one (PL.ptr 40000 0))),(2,PV.c (CV.one (PL.ptr 60000 0))),(3,PV.c (CV.one (PL.ptr 80000 0))),(4,PV.c (CV.one (PL.f (FV.int IntKind.i64 i))))],[(40000,Ob.eH [PL.f (FV.sl (c.hits.map rH)),PL.f (FV.int .i64 c.e),PL.f (FV.str c.nm),PL.f (FV.str c.iM.s.q),PL.f (FV.int .i64 c.iM.s.t),PL.f (FV.int .i64 c.iM.s.c),PL.f (FV.sl (c.iM.s.d.map bn)),PL.f (FV.int .i64 c.iM.s.ttl),PL.f (FV.int .i64 c.iM.left)]),(60000,Ob.eH [PL.bP,PL.f (FV.int .i64 0),PL.f (FV.str ⟨#[]⟩),PL.f (FV.str ⟨#[]⟩),PL.f (FV.int .i64 0),PL.f (FV.int .i64 0),PL.bP,PL.f (FV.int .i64 0),PL.f (FV.int .i64 0)]),(80000,Ob.eH [PL.own 560000 (hs.map rH).length,PL.f (FV.int .i64 c.e),PL.f (FV.str c.nm),PL.f (FV.str c.iM.s.q),PL.f (FV.int .i64 c.iM.s.t),PL.f (FV.int .i64 c.iM.s.c),PL.f (FV.sl (c.iM.s.d.map bn)),PL.f (FV.int .i64 c.iM.s.ttl),PL.f (FV.int .i64 c.iM.left)]),(560000,Ob.row 6 (hs.map rH))]⟩
theorem OO (c:Ch) (i:Nat):tdT c i [] = ⟨[(1,PV.c (CV.one (PL.ptr 40000 0))),(2,PV.c (CV.one (PL.ptr 60000 0))),(3,PV.c (CV.one (PL.ptr 80000 0))),(4,PV.c (CV.one (PL.f (FV.int IntKind.i64 i))))],[(40000,Ob.eH [PL.f (FV.sl (c.hits.map rH)),PL.f (FV.int .i64 c.e),PL.f (FV.str c.nm),PL.f (FV.str c.iM.s.q),PL.f (FV.int .i64 c.iM.s.t),PL.f (FV.int .i64 c.iM.s.c),PL.f (FV.sl (c.iM.s.d.map bn)),PL.f (FV.int .i64 c.iM.s.ttl),PL.f (FV.int .i64 c.iM.left)]),(60000,Ob.eH [PL.bP,PL.f (FV.int .i64 0),PL.f (FV.str ⟨#[]⟩),PL.f (FV.str ⟨#[]⟩),PL.f (FV.int .i64 0),PL.f (FV.int .i64 0),PL.bP,PL.f (FV.int .i64 0),PL.f (FV.int .i64 0)]),(80000,Ob.eH [PL.bP,PL.f (FV.int .i64 c.e),PL.f (FV.str c.nm),PL.f (FV.str c.iM.s.q),PL.f (FV.int .i64 c.iM.s.t),PL.f (FV.int .i64 c.iM.s.c),PL.f (FV.sl (c.iM.s.d.map bn)),PL.f (FV.int .i64 c.iM.s.ttl),PL.f (FV.int .i64 c.iM.left)])]⟩:=rfl
theorem Db (c:Ch) (i:Nat) (hs:List nM) (h:hs ≠ []):tdT c i hs = ⟨[(1,PV.c (CV.one (PL.ptr 40000 0))),(2,PV.c (CV.one (PL.ptr 60000 0))),(3,PV.c (CV.one (PL.ptr 80000 0))),(4,PV.c (CV.one (PL.f (FV.int IntKind.i64 i))))],[(40000,Ob.eH [PL.f (FV.sl (c.hits.map rH)),PL.f (FV.int .i64 c.e),PL.f (FV.str c.nm),PL.f (FV.str c.iM.s.q),PL.f (FV.int .i64 c.iM.s.t),PL.f (FV.int .i64 c.iM.s.c),PL.f (FV.sl (c.iM.s.d.map bn)),PL.f (FV.int .i64 c.iM.s.ttl),PL.f (FV.int .i64 c.iM.left)]),(60000,Ob.eH [PL.bP,PL.f (FV.int .i64 0),PL.f (FV.str ⟨#[]⟩),PL.f (FV.str ⟨#[]⟩),PL.f (FV.int .i64 0),PL.f (FV.int .i64 0),PL.bP,PL.f (FV.int .i64 0),PL.f (FV.int .i64 0)]),(80000,Ob.eH [PL.own 560000 (hs.map rH).length,PL.f (FV.int .i64 c.e),PL.f (FV.str c.nm),PL.f (FV.str c.iM.s.q),PL.f (FV.int .i64 c.iM.s.t),PL.f (FV.int .i64 c.iM.s.c),PL.f (FV.sl (c.iM.s.d.map bn)),PL.f (FV.int .i64 c.iM.s.ttl),PL.f (FV.int .i64 c.iM.left)]),(560000,Ob.row 6 (hs.map rH))]⟩:=by
 cases hs with
 | nil=>exact absurd rfl h
 | cons a l=>rfl
theorem Kt (k:Ch) (hl:k.hits.length ≤ 1000000) (hF:200000000000001 ≤ F):G ext F (n + 1) 17 [k.v] = some ([k.v],[k.v]):=by
 refine dB (cf:=c17) rfl ?_
 dsimp only [c17,au,bY,aZ,bH,aG,bE,dR,eu,dA,aD,bT,dh,bJ,aQ];simp only [go_sem]
 refine kQ k.hits.length (fun i=>tdT k i (k.hits.take i)) (fun i=>True) (by omega) rfl trivial (fun i hi hP=>?_) (fun hP=>?_)
 ·obtain ⟨x,hx,hlt,ht,h0⟩:=at_ hi
  have hn:=nx hi (by omega)
  have hsx:(k.hits.take (i + 1)).map rH = (k.hits.take i).map rH ++ [[.str x.s.q,.int .i64 x.s.t,.int .i64 x.s.c,.sl (x.s.d.map bn),.int .i64 x.s.ttl,.int .i64 x.left]]:=by rw [ai7,hx];simp [rH]
  have hg:k.hits.take (i + 1) ≠ []:=by
   intro e
   have hle:(k.hits.take (i + 1)).length = i + 1:=by rw [aiC];omega
   rw [e] at hle
   cases hle
  have hszz:(((k.hits.take i).map rH).length + 1) * 72 ≤ 140737488355328:=by simp;omega
  rw [Db _ _ _ hg]
  rcases xY (k.hits.take i) with hz0 | hz0
  ·rw [hsx,hz0,OO]
   simp only [aio,ait,hlt,hx,ht,h0,rH,hn,go_sem]
   try decide
  ·rw [hsx,Db _ _ _ hz0]
   simp only [ait,hlt,hx,ht,h0,rH,hn,hszz,aio,go_sem]
   simp
   omega
 ·have hde:=@end_ _ k.hits
  rw [ai2]
  rcases xY k.hits with hz0 | hz0
  ·obtain ⟨hits,e,nm',iM⟩:=k
   obtain rfl:hits = []:=hz0
   rw [OO]
   simp only [Ch.v,aiF,List.length_nil] at hde ⊢
   simp only [hde,List.length_nil,go_sem]
   done
  ·rw [Db _ _ _ hz0]
   simp only [hde,aio,go_sem]
   done
end
section
open Go Ev
variable {ext : Env} {F:Nat}
theorem af9 (k:Ch) (hl:k.hits.length ≤ 1000000) (hF:200000000000001 ≤ F):G ext F 40 17 [k.v] = some ([k.v],[k.v]):=by
 have h:=Kt (ext:=ext) (F:=F) (n:=40 - 1) k hl hF
 rw [show 40 - 1 + 1 = 40 from rfl] at h
 exact h
theorem aga (c:Ch) (hl:c.hits.length ≤ 1000000) (hd:∀ h ∈ c.hits,h.s.d.length ≤ 1000000000000) (hs:c.iM.s.d.length ≤ 1000000000000) (hF:200000000000001 ≤ F):G ext F 40 16 [c.v,c.v] = some ([vb true],[c.v,c.v]):=by
 have h:=OM (ext:=ext) (F:=F) (n:=40 - 4) c hl hd hs hF
 rw [show 40 - 4 + 4 = 40 from rfl] at h
 exact h
end
end Go.Proofs.YtfokaoeinpnagaaGreat.Kc
namespace Go.Proofs.YtfokaoeinpnagaaGreat.Kd
open Go Go.RowKit Ev Kc
theorem exD : ExD uh zP where
 sm l m h1 h2:=(e2 (by decide) (by decide) _).trans (af3 l m h1 h2 (aiq _))
 rl q h:=(e3 (by decide) (by decide) rfl _).trans (by simp [kK,zO,kV,jl,Ud,Al,Qw,h,vs,uh])
 td k h:=(e2 (by decide) (by decide) _).trans (af9 k h (aiq _))
 sa k h1 h2 h3:=(e2 (by decide) (by decide) _).trans (aga k h1 h2 h3 (aiq _))
theorem hv2 (n:Nat):G2 zP 200000000000001 (n + 8) 24 [] = some ([vb true],[]):=Kr Ue abG (aiq _)
end Go.Proofs.YtfokaoeinpnagaaGreat.Kd
namespace Go.Proofs.YtfokaoeinpnagaaGreat.Kc
open Go Ev
theorem opQ : GU Tryz.prog 24 rQ (fun _=>True) :=
 uw (fun p:ByteArray × Int × Int=>⟨p.1,p.2.1,p.2.2⟩) (by exact fun _=>rfl) (by exact fun _ _=>trivial) (oH Tryz.underlying24 (by kernel_rfl) (jf (sz:=1) (sz':=2) (Jf Tryz.underlying9) (by kernel_rfl) (jf (sz:=1) (sz':=1) (oG Tryz.underlying3) (by kernel_rfl) (qF (oG Tryz.underlying3) (by kernel_rfl)))))
theorem opD : GU Tryz.prog 40 (fun d:List ByteArray=>[.sl (d.map bn)]) (fun d=>d.length ≤ 140737488351232) :=
 uw (fun d:List ByteArray=>d) (by exact fun _=>rfl) (by exact fun _ h=>h.1) (Bh 1 Tryz.underlying40 (by kernel_rfl) (by decide) (fun _=>rfl) (by kernel_rfl) (Jf Tryz.underlying9))
theorem opS : GU Tryz.prog 42 rS (fun x=>x.d.length ≤ 140737488351232) :=
 uw (fun p:Qn × List ByteArray × Int=>⟨p.1.q,p.1.t,p.1.c,p.2.1,p.2.2⟩) (by exact fun _=>rfl) (by exact fun _ h=>h.2.1) (oH Tryz.underlying42 (by kernel_rfl) (jf (sz:=3) (sz':=2) opQ (by kernel_rfl) (jf (sz:=1) (sz':=1) opD (by kernel_rfl) (qF (oG Tryz.underlying3) (by kernel_rfl)))))
theorem opP : GU Tryz.prog 113 rP (fun x=>x.s.d.length ≤ 140737488351232) :=
 uw (fun p:Int × Se × Int × Qn=>⟨p.1,p.2.1,p.2.2.1,p.2.2.2⟩) (by exact fun _=>rfl) (by exact fun _ h=>h.2.1) (oH Tryz.underlying113 (by kernel_rfl) (jf (sz:=1) (sz':=9) (oG Tryz.underlying3) (by kernel_rfl) (jf (sz:=5) (sz':=4) opS (by kernel_rfl) (jf (sz:=1) (sz':=3) (oG Tryz.underlying3) (by kernel_rfl) (qF opQ (by kernel_rfl))))))
theorem agb : GU Tryz.prog 22 (fun l:List Pt=>[.sl (l.map rP)]) (fun l=>l.length ≤ 140737488351232 ∧ ∀ x ∈ l,x.s.d.length ≤ 140737488351232) :=
 Bh 10 Tryz.underlying22 (by kernel_rfl) (by decide) (fun _=>rfl) (by kernel_rfl) opP
end Go.Proofs.YtfokaoeinpnagaaGreat.Kc
namespace Go.Proofs.YtfokaoeinpnagaaGreat.Kd
open Go Ev Kc
theorem opC : GU Tryz.prog 63 rC (fun c=>(c.l.length ≤ 140737488351232 ∧ ∀ x ∈ c.l,x.s.d.length ≤ 140737488351232) ∧ c.roots.length ≤ 140737488351232 ∧ (Lit.int .i64 c.work).wf = true) :=
 uw (fun p:List Pt × Int × List ByteArray × Int=>⟨p.1,p.2.1,p.2.2.1,p.2.2.2⟩) (by exact fun _=>rfl) (by exact fun _ h=>⟨h.1,h.2.2.1,h.2.2.2⟩) (oH Tryz.underlying63 (by kernel_rfl) (jf (sz:=1) (sz':=3) agb (by kernel_rfl) (jf (sz:=1) (sz':=2) (oG Tryz.underlying3) (by kernel_rfl) (jf (sz:=1) (sz':=1) opD (by kernel_rfl) (qF (oG Tryz.underlying3) (by kernel_rfl))))))
theorem abH {n:Int} (h:(Lit.int .i64 n).wf = true):-9223372036854775808 ≤ n ∧ n ≤ 9223372036854775807:=by
 unfold Lit.wf at h
 rw [aiw,aiG,aiG] at h
 exact ⟨h.1,h.2⟩
end Go.Proofs.YtfokaoeinpnagaaGreat.Kd

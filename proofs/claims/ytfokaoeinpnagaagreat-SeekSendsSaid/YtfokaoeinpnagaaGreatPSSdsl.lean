/- A part of the proof of SeekSends: cut, joined and given short names by a program of this session (wip/tools/pack.py); Lean checks it. No condition. -/
import Derived.Test.YtfokaoeinpnagaaGreatPSSdsk
import Derived.Test.YtfokaoeinpnagaaGreatPSSdsi
import Derived.Test.YtfokaoeinpnagaaGreatPSSdsj
import Derived.KernelRfl
import Derived.Test.YtfokaoeinpnagaaGreatPSSdsd
set_option linter.unusedSectionVars false
set_option linter.unusedSimpArgs false
set_option linter.unusedVariables false
set_option maxHeartbeats 16000000
set_option maxRecDepth 100000
namespace Go.Proofs.YtfokaoeinpnagaaGreat.Kd
section
attribute [local go_sem_proc] Nat.reduceAdd Nat.reduceMul Nat.reduceEqDiff Nat.reduceBEq Nat.reduceMod Nat.reduceDiv reduceCtorEq
attribute [local go_sem_proc ↓] reduceIte
open Go Ev Kc
variable {θ : Th} {nm:Int → ByteArray → List ByteArray} {gt:ByteArray → Int → Int → Int × Bool} {up:ByteArray → ByteArray × Bool} {ext:Env} {F n:Nat}
def rO (θ:Th) (nm:Int → ByteArray → List ByteArray) (up:ByteArray → ByteArray × Bool) (w:Wd) (t:Tk):(Stp × Bool) × Tk :=
 match t.goals.getLast? with
 | none=>((yL,true),t)
 | some g=>Ij θ nm up w t.goals.dropLast g t.sends
def Lc (θ:Th) (nm:Int → ByteArray → List ByteArray) (up:ByteArray → ByteArray × Bool) (w:Wd):Nat → Tk → Stp × Tk
 | 0,t=>(yL,t)
 | f + 1,t=>if (rO θ nm up w t).1.2 = true then ((rO θ nm up w t).1.1,(rO θ nm up w t).2) else Lc θ nm up w f (rO θ nm up w t).2
theorem xB {w:Wd} {init:List Gl} {g:Gl} {s:Int}:rO θ nm up w ⟨init ++ [g],s⟩ = Ij θ nm up w init g s:=by simp [rO]
theorem DT {w:Wd} {s:Int}:rO θ nm up w ⟨[],s⟩ = ((yL,true),⟨[],s⟩):=rfl
theorem JI {l:List Gl} (h:l ≠ []):∃ init g,l = init ++ [g]:=⟨l.dropLast,l.getLast h,(List.dropLast_concat_getLast h).symm⟩
structure acz (t:Tk):Prop where
 g:∀ g ∈ t.goals,g.q.q.size ≤ 1000000
 lo:-9223372036854775808 ≤ t.sends
 hi:t.sends ≤ 9223372036854775807
theorem Pq (w:Wd) (sends:Int):G2 ext F (n + 6) 66 [w.v,Tk.pv ⟨[],sends⟩] = some ([yL.v,vb true],[w.v,Tk.pv ⟨[],sends⟩]):=by
 refine dI (cf:=LA) rfl ?_
 rw [show Tk.pv ⟨[],sends⟩ = .one (.ptr [.own 5 [],.f (.int .i64 sends)]) from rfl]
 have hz:decide (((0:Nat):Int) = 0) = true:=rfl
 dsimp only [LA,ay,dh,bA,bK,aG,bJ,dX,eD,dH,aD,cO,dG,bP,aV];simp only [List.length_nil,hz,go_sem]
 try rfl
theorem Pv (S:Sk θ nm gt up ext) (w:Wd) (K:Wk θ nm up w) (hF:200000000000001 ≤ F) (t:Tk) (ht:t.goals.length ≤ 1000) (h:acz t) (M:(Stp × Bool) × Tk) (hM:rO θ nm up w t = M) :
  G2 ext F (n + 6) 66 [w.v,t.pv] = some ([M.1.1.v,vb M.1.2],[w.v,M.2.pv]):=by
 obtain ⟨l,s⟩:=t
 by_cases h0:l = []
 ·subst h0
  rw [DT] at hM
  subst hM
  exact Pq w s
 ·obtain ⟨init,g,rfl⟩:=JI h0
  rw [xB] at hM
  simp only [ajl,List.length_singleton] at ht
  exact step_ok S w K hF init g s (by omega) h.hi h.lo (h.g g (by simp)) M hM
theorem F6 {pk:Qn → It × Bool} {fd:Qn → Ne.Nt × Bool} {now:Int}:∀ (f:Nat) (met:List ByteArray) (hits:List xk) (q:Qn),(EZ nm pk fd now f met hits q).e = 0 → hits.length < (EZ nm pk fd now f met hits q).hits.length
 | 0,met,hits,q,h=>absurd h (by simp [EZ])
 | f + 1,met,hits,q,h=>by
  cases h1:tl pk now q with
  | some x=>simp only [EZ,h1];simp
  | none =>
   cases h2:al nm pk now q with
   | none =>
    simp only [EZ,h1,h2] at h
    unfold Kc.fin at h
    split at h
    ·simp only at h
     split at h <;> exact absurd h (by decide)
    ·simp only at h
     exact absurd h (by decide)
   | some p =>
    obtain ⟨x,ZZ8⟩:=p
    simp only [EZ,h1,h2] at h ⊢
    split
    ·rename_i h3;rw [ajd h3] at h;simp only at h;exact absurd h (by decide)
    ·rename_i h3
     rw [aje h3] at h
     have:=F6 f _ _ _ h
     simp only [ajl,List.length_singleton] at this
     omega
theorem Tw {pk:Qn → It × Bool} {fd:Qn → Ne.Nt × Bool} {now:Int} {q:Qn} (h0:(Aa nm pk fd now q).e = 0) (h1:(Aa nm pk fd now q).hits.length = 1):(pk q).2 = true:=by
 unfold Aa at h0 h1
 cases hp:tl pk now q with
 | some x =>
  unfold tl at hp
  split at hp
  ·rename_i hh;exact hh.1
  ·cases hp
 | none =>
  cases ha:al nm pk now q with
  | none =>
   simp only [EZ,hp,ha] at h1
   unfold Kc.fin at h1
   split at h1 <;> cases h1
  | some p =>
   obtain ⟨x,ZZ8⟩:=p
   rw [show (9:Nat) = 8 + 1 from rfl] at h0 h1
   rw [EZ,hp,ha] at h0 h1
   simp only at h0 h1
   split at h0
   ·simp only at h0;exact absurd h0 (by decide)
   ·rename_i h3
    rw [aje h3] at h1
    have:=F6 _ _ _ _ h0
    simp only [ajl,List.length_singleton,List.length_nil] at this
    omega
theorem JJ {pk:Qn → It × Bool}:∀ (l:List ByteArray) (a:List ByteArray × List ByteArray),(∀ x ∈ a.2,(pk ⟨x,1,1⟩).2 = false) → ∀ x ∈ (l.foldl (kX pk) a).2,(pk ⟨x,1,1⟩).2 = false
 | [],a,h=>h
 | y :: l,a,h=>JJ l _ (by
  unfold kX
  split
  ·exact h
  ·rename_i hy
   intro x hx
   rcases ajJ.mp hx with hx | hx
   ·exact h x hx
   ·rw [aj3.mp hx];exact ajX.mpr hy)
theorem X3 {pk:Qn → It × Bool} {l:List ByteArray}:∀ x ∈ (Xg nm pk l).2,(pk ⟨x,1,1⟩).2 = false:=by
 have key:∀ (l:List ByteArray) (a:List ByteArray × List ByteArray),(∀ x ∈ a.2,(pk ⟨x,1,1⟩).2 = false) → ∀ x ∈ (l.foldl (wO nm pk) a).2,(pk ⟨x,1,1⟩).2 = false:=by
  intro l
  induction l with
  | nil=>intro a h;exact h
  | cons d l ih=>intro a h;exact ih _ (JJ _ _ h)
 exact key l _ (fun x hx=>by simp at hx)
theorem JK {pk:Qn → It × Bool} {roots:List ByteArray}:∀ (f:Nat) (z:ByteArray),∀ x ∈ (oO nm up pk roots f z).2.2,(pk ⟨x,1,1⟩).2 = false
 | 0,z,x,h=>by simp [oO] at h
 | f + 1,z,x,h=>by
  unfold oO at h
  split at h
  ·exact X3 x h
  ·split at h
   ·exact JK f _ x h
   ·simp at h
theorem X4 {pk:Qn → It × Bool} {roots:List ByteArray} {q:ByteArray}:∀ x ∈ (cut θ nm up pk roots q).2.2,(pk ⟨x,1,1⟩).2 = false:=by
 intro x h
 unfold cut at h
 split at h
 ·simp at h
 ·exact JK _ _ x h
def X5 (nm:Int → ByteArray → List ByteArray) (w:Wd) (g:Gl):Bool:=decide ((Aa nm (bH w.s w.now) (Ne.gH w.m w.now) w.now g.q).e = 0 ∧ (Aa nm (bH w.s w.now) (Ne.gH w.m w.now) w.now g.q).hits.length = 1)
def rk (nm:Int → ByteArray → List ByteArray) (w:Wd) (t:Tk):Nat:=match t.goals.getLast? with
 | none=>0
 | some g=>if X5 nm w g = true then t.goals.length + 5 else 4 - t.goals.length
theorem Pw {w:Wd} {init:List Gl} {g:Gl} {s:Int}:rk nm w ⟨init ++ [g],s⟩ = if X5 nm w g = true then init.length + 6 else 3 - init.length:=by
 simp only [rk,List.getLast?_concat,ajl,List.length_singleton]
 split <;> omega
theorem Vb {w:Wd} {t:Tk}:rk nm w t ≤ t.goals.length + 5:=by
 unfold rk
 split
 ·omega
 ·split <;> omega
theorem JL {l:List Gl} {ns:List ByteArray} {x:ByteArray} (h:P6 l ns = some x):x ∈ ns:=ak7 h
theorem X6 {w:Wd} {t:Tk} (h:(rO θ nm up w t).1.2 = false):rk nm w (rO θ nm up w t).2 < rk nm w t:=by
 obtain ⟨l,s⟩:=t
 by_cases h0:l = []
 ·subst h0;rw [DT] at h;cases h
 ·obtain ⟨init,g,rfl⟩:=JI h0
  rw [xB] at h ⊢
  rw [Pw]
  unfold Ij at h ⊢
  simp only at h ⊢
  split
  ·rename_i h3
   rw [ajd h3] at h
   have hno:¬ X5 nm w g = true:=fun hk=>by unfold X5 at hk;have:=ajC hk;omega
   rw [aje hno]
   have hcn:=@X4 θ nm up (bH w.s w.now) w.roots (Aa nm (bH w.s w.now) (Ne.gH w.m w.now) w.now g.q).nm
   generalize cut θ nm up (bH w.s w.now) w.roots _ = R at h hcn ⊢
   unfold vM at h ⊢
   simp only at h ⊢
   split
   ·rename_i h4
    rw [ajd h4] at h
    cases hf:P6 (init ++ [lq R.1 g]) R.2.2 with
    | none=>rw [hf] at h;cases h
    | some x =>
     rw [hf] at h
     simp only at h ⊢
     split
     ·rename_i h5;rw [ajd h5] at h;cases h
     ·rename_i h5
      rw [Pw]
      have hx:=hcn x (JL hf)
      have agY:¬ X5 nm w ⟨⟨x,1,1⟩,⟨#[]⟩,0⟩ = true:=fun hk=>by
       unfold X5 at hk
       obtain ⟨k1,k2⟩:=ajC hk
       have:=Tw k1 k2
       rw [hx] at this;cases this
      rw [aje agY]
      simp only [ajl,List.length_singleton] at h5 ⊢
      omega
   ·rename_i h4
    rw [aje h4] at h
    split at h <;> cases h
  ·rename_i h3
   rw [aje h3] at h
   split
   ·rename_i h4;rw [ajd h4] at h;cases h
   ·rename_i h4
    rw [aje h4] at h
    split
    ·rename_i h5
     have hok:X5 nm w g = true:=ajf h5
     rw [ajd hok]
     have:=@Vb nm w ⟨init,s⟩
     simp only at this
     show rk nm w ⟨init,s⟩ < _
     omega
    ·rename_i h5;rw [aje h5] at h;cases h
end
section
attribute [local go_sem_proc] Nat.reduceAdd Nat.reduceMul Nat.reduceEqDiff Nat.reduceBEq Nat.reduceMod Nat.reduceDiv reduceCtorEq
attribute [local go_sem_proc ↓] reduceIte
open Go Ev Kc
variable {θ : Th} {nm:Int → ByteArray → List ByteArray} {gt:ByteArray → Int → Int → Int × Bool} {up:ByteArray → ByteArray × Bool} {ext:Env} {F n:Nat}
theorem F7 {pk:Qn → It × Bool} {Q:ByteArray → Prop}:∀ (l:List ByteArray) (a:List ByteArray × List ByteArray),(∀ x ∈ l,Q x) → (∀ x ∈ a.2,Q x) → ∀ x ∈ (l.foldl (kX pk) a).2,Q x
 | [],a,_,h=>h
 | y :: l,a,hl,h=>F7 l _ (fun x hx=>hl x (by simp [hx])) (by
  unfold kX
  split
  ·exact h
  ·intro x hx
   rcases ajJ.mp hx with hx | hx
   ·exact h x hx
   ·rw [aj3.mp hx];exact hl y (by simp))
theorem JM {pk:Qn → It × Bool} {Q:ByteArray → Prop} (hn:∀ d,∀ x ∈ nm 2 d,Q x):∀ (l:List ByteArray) (a:List ByteArray × List ByteArray),(∀ x ∈ a.2,Q x) → ∀ x ∈ (l.foldl (wO nm pk) a).2,Q x
 | [],a,h=>h
 | d :: l,a,h=>JM hn l _ (F7 _ _ (hn d) h)
theorem Tx {pk:Qn → It × Bool} {roots:List ByteArray} {q:ByteArray} {Q:ByteArray → Prop} (hn:∀ d,∀ x ∈ nm 2 d,Q x):∀ x ∈ (cut θ nm up pk roots q).2.2,Q x:=by
 have hF:∀ (f:Nat) (z:ByteArray),∀ x ∈ (oO nm up pk roots f z).2.2,Q x:=by
  intro f
  induction f with
  | zero=>intro z x h;simp [oO] at h
  | succ f ih =>
   intro z x h
   unfold oO at h
   split at h
   ·exact JM hn _ _ (fun y hy=>by simp at hy) x h
   ·split at h
    ·exact ih _ x h
    ·simp at h
 intro x h
 unfold cut at h
 split at h
 ·simp at h
 ·exact hF _ _ x h
structure Px (t:Tk) (N:Nat):Prop extends acz t where
 len:t.goals.length ≤ N
theorem zI {z:ByteArray} {g:Gl}:(lq z g).q = g.q:=by unfold lq;split <;> rfl
theorem Ik (S:Sk θ nm gt up ext) {w:Wd} (hw:w.work ≤ 9223372036854775807) {t:Tk} {N:Nat} (hN:4 ≤ N) (h:Px t N):Px (rO θ nm up w t).2 N:=by
 obtain ⟨l,s⟩:=t
 obtain ⟨⟨h1,h2,h3⟩,h4⟩:=h
 simp only at h1 h2 h3 h4
 by_cases h0:l = []
 ·subst h0;rw [DT];exact ⟨⟨h1,h2,h3⟩,h4⟩
 obtain ⟨init,g,rfl⟩:=JI h0
 rw [ajl,List.length_singleton] at h4
 rw [xB]
 have hg:=h1 g (by simp)
 have hi:=fun x hx=>h1 x (ajJ.mpr (.inl hx))
 have same:Px ⟨init ++ [g],s⟩ N:=⟨⟨h1,h2,h3⟩,by simpa using h4⟩
 unfold Ij
 simp only
 split
 ·have hc:=@Tx θ nm up (bH w.s w.now) w.roots (Aa nm (bH w.s w.now) (Ne.gH w.m w.now) w.now g.q).nm (fun x=>x.size ≤ 1000000) (fun d x hx=>by have:=(S.nl 2 d).2 x hx;omega)
  generalize cut θ nm up (bH w.s w.now) w.roots _ = R at hc ⊢
  have same':∀ g':Gl,g'.q = g.q → ∀ s', -9223372036854775808 ≤ s' → s' ≤ 9223372036854775807 → Px ⟨init ++ [g'],s'⟩ N:=fun g' e s' a b=>⟨⟨fun x hx=>by
   rcases ajJ.mp hx with hx | hx
   ·exact hi x hx
   ·rw [aj3.mp hx,e];exact hg,a,b⟩,by simpa using h4⟩
  unfold vM
  simp only
  split
  ·cases hf:P6 (init ++ [lq R.1 g]) R.2.2 with
   | none=>exact same' _ zI _ h2 h3
   | some x =>
    simp only
    split
    ·exact same' _ zI _ h2 h3
    ·rename_i h5
     rw [ajl,List.length_singleton] at h5
     refine ⟨⟨fun y hy=>?_,h2,h3⟩,by simp;omega⟩
     rcases ajJ.mp hy with hy | hy
     ·exact (same' (lq R.1 g) zI s h2 h3).g y hy
     ·rw [aj3.mp hy];exact hc x (JL hf)
  ·split
   ·exact same' _ zI _ h2 h3
   ·rename_i h6
    exact same' ⟨(lq R.1 g).q,(lq R.1 g).zone,(lq R.1 g).tries + 1⟩ zI _ (by omega) (by omega)
 ·split
  ·exact same
  ·split
   ·exact ⟨⟨hi,h2,h3⟩,by show init.length ≤ N;omega⟩
   ·exact same
theorem F8 (S:Sk θ nm gt up ext) (q:Qn) (hq:q.q.size ≤ 1000000):G2 ext F (n + 2) 34 [q.v] = some ([(Tk.v ⟨[⟨⟨θ.low q.q,q.t,q.c⟩,⟨#[]⟩,0⟩],0⟩)],[q.v]):=by
 refine dI (cf:=c34) rfl ?_
 have h1:=fun n=>abg (F:=F) (n:=n) S q.q hq
 dsimp only [c34,ay,dh,bA,bK,aG,bJ,dX,eD,dH,aD,cO,dG,bP,aV];simp only [h1,go_sem]
 rfl
structure Cs where
 l:List Pt
 now:Int
 roots:List ByteArray
 work:Int
def rC (c:Cs):List FV:=[.sl (c.l.map rP),.int .i64 c.now,.sl (c.roots.map bC),.int .i64 c.work]
abbrev Cs.v (c:Cs):AV:=.agg [.f (.sl (c.l.map rP)),.f (.int .i64 c.now),.f (.sl (c.roots.map bC)),.f (.int .i64 c.work)]
abbrev Cs.ov (c:Cs):AV:=.agg [.own 10 (c.l.map rP),.f (.int .i64 c.now),.f (.sl (c.roots.map bC)),.f (.int .i64 c.work)]
def Cs.w (θ:Th) (gt:ByteArray → Int → Int → Int × Bool) (c:Cs):Wd:=⟨(nC θ gt c.l).1,(nC θ gt c.l).2,c.now,c.roots,c.work⟩
theorem F9 (S:Sk θ nm gt up ext) (c:Cs) (hl:c.l.length ≤ 1000) (hf:kW c.l = true):G2 ext F (n + 2) 25 [c.v] = some ([(c.w θ gt).v],[c.v]):=by
 refine dI (cf:=NR) rfl ?_
 have h1:=fun n=>af4 (F:=F) (n:=n) S c.l hl hf
 unfold Cs.w
 generalize (nC θ gt c.l).1 = s at h1 ⊢
 generalize (nC θ gt c.l).2 = m at h1 ⊢
 dsimp only [NR,ay,dh,bA,bK,aG,bJ,dX,eD,dH,aD,cO,dG,bP,aV];simp only [h1,go_sem]
 done
theorem vN (S:Sk θ nm gt up ext) (c:Cs) (hl:c.l.length ≤ 1000) (hf:kW c.l = true):G2 ext F (n + 2) 25 [c.ov] = some ([(c.w θ gt).v],[c.ov]):=by
 refine dI (cf:=NR) rfl ?_
 have h1:=fun n=>af5 (F:=F) (n:=n) S c.l hl hf
 unfold Cs.w
 generalize (nC θ gt c.l).1 = s at h1 ⊢
 generalize (nC θ gt c.l).2 = m at h1 ⊢
 dsimp only [NR,ay,dh,bA,bK,aG,bJ,dX,eD,dH,aD,cO,dG,bP,aV];simp only [h1,go_sem]
 done
theorem zJ (a:ByteArray) (k:Int) (d:ByteArray):G2 ext F (n + 1) 64 [vs a,vi k,vs d] = some ([(Se.v ⟨a,k,1,[d],99⟩)],[vs a,vi k,vs d]):=by
 refine dI (cf:=c64) rfl ?_
 dsimp only [c64,ay,dh,bA,bK,aG,bJ,dX,eD,dH,aD,cO,dG,bP,aV];simp only [go_sem]
 try rfl
end
section
attribute [local go_sem_proc] Nat.reduceAdd Nat.reduceMul Nat.reduceEqDiff Nat.reduceBEq Nat.reduceMod Nat.reduceDiv reduceCtorEq
attribute [local go_sem_proc ↓] reduceIte
open Go Ev Kc
variable {θ : Th} {nm:Int → ByteArray → List ByteArray} {gt:ByteArray → Int → Int → Int × Bool} {up:ByteArray → ByteArray × Bool} {ext:Env} {F n:Nat}
def nxT (w:Wd) (b:Bool) (x:Tk):St:=match b with
 | false=>⟨[(2,PV.c (CV.one (PL.ptr 60000 0))),(3,PV.c (CV.one (PL.ptr 80000 0))),(4,PV.c (CV.one (PL.ptr 100000 0))),(5,PV.c (CV.one (PL.ptr 120000 0)))],[(20201,Ob.fu [PL.f (FV.int IntKind.i64 w.s.room),PL.mp 20205,PL.f (FV.sl (List.map rQ w.s.o)),PL.f (FV.int IntKind.i64 w.s.ch)]),(20205,Ob.map lu (List.map ent w.s.m)),(20401,Ob.fu [PL.f (FV.int IntKind.i64 w.m.room),PL.mp 20405,PL.f (FV.sl (List.map rQ w.m.o)),PL.f (FV.int IntKind.i64 w.m.ch)]),(20405,Ob.map Ne.lu (List.map Ne.ent w.m.m)),(60000,Ob.fu [PL.ptr 20201 0,PL.ptr 20401 0,PL.f (FV.int IntKind.i64 w.now),PL.f (FV.sl (List.map bC w.roots)),PL.f (FV.int IntKind.i64 w.work)]),(80000,Ob.fu [PL.own 220200 (List.map rG x.goals).length,PL.f (FV.int IntKind.i64 x.sends)]),(100000,Ob.fu [PL.bY,PL.f (FV.int IntKind.i64 0)]),(120000,Ob.fu [PL.f (FV.int IntKind.i64 0),PL.bY,PL.f (FV.int IntKind.i64 0),PL.f (FV.str ⟨#[]⟩),PL.f (FV.str ⟨#[]⟩),PL.f (FV.int IntKind.i64 0),PL.f (FV.int IntKind.i64 0),PL.bY,PL.f (FV.int IntKind.i64 0),PL.f (FV.int IntKind.i64 0),PL.f (FV.str ⟨#[]⟩),PL.f (FV.str ⟨#[]⟩),PL.f (FV.int IntKind.i64 0),PL.f (FV.int IntKind.i64 0),PL.f (FV.str ⟨#[]⟩)]),(220200,Ob.row 5 (List.map rG x.goals))]⟩
 | true=>⟨[(2,PV.c (CV.one (PL.ptr 60000 0))),(3,PV.c (CV.one (PL.ptr 80000 0))),(4,PV.c (CV.one (PL.ptr 100000 0))),(5,PV.c (CV.one (PL.ptr 120000 0)))],[(20201,Ob.fu [PL.f (FV.int IntKind.i64 w.s.room),PL.mp 310004,PL.f (FV.sl (List.map rQ w.s.o)),PL.f (FV.int IntKind.i64 w.s.ch)]),(20401,Ob.fu [PL.f (FV.int IntKind.i64 w.m.room),PL.mp 310204,PL.f (FV.sl (List.map rQ w.m.o)),PL.f (FV.int IntKind.i64 w.m.ch)]),(60000,Ob.fu [PL.ptr 20201 0,PL.ptr 20401 0,PL.f (FV.int IntKind.i64 w.now),PL.f (FV.sl (List.map bC w.roots)),PL.f (FV.int IntKind.i64 w.work)]),(80000,Ob.fu [PL.own 220200 (List.map rG x.goals).length,PL.f (FV.int IntKind.i64 x.sends)]),(100000,Ob.fu [PL.bY,PL.f (FV.int IntKind.i64 0)]),(120000,Ob.fu [PL.f (FV.int IntKind.i64 0),PL.bY,PL.f (FV.int IntKind.i64 0),PL.f (FV.str ⟨#[]⟩),PL.f (FV.str ⟨#[]⟩),PL.f (FV.int IntKind.i64 0),PL.f (FV.int IntKind.i64 0),PL.bY,PL.f (FV.int IntKind.i64 0),PL.f (FV.int IntKind.i64 0),PL.f (FV.str ⟨#[]⟩),PL.f (FV.str ⟨#[]⟩),PL.f (FV.int IntKind.i64 0),PL.f (FV.int IntKind.i64 0),PL.f (FV.str ⟨#[]⟩)]),(220200,Ob.row 5 (List.map rG x.goals)),(310004,Ob.map lu (List.map ent w.s.m)),(310204,Ob.map Ne.lu (List.map Ne.ent w.m.m))]⟩
theorem Vd (w:Wd) (x:Tk):nxT w false x = ⟨[(2,PV.c (CV.one (PL.ptr 60000 0))),(3,PV.c (CV.one (PL.ptr 80000 0))),(4,PV.c (CV.one (PL.ptr 100000 0))),(5,PV.c (CV.one (PL.ptr 120000 0)))],[(20201,Ob.fu [PL.f (FV.int IntKind.i64 w.s.room),PL.mp 20205,PL.f (FV.sl (List.map rQ w.s.o)),PL.f (FV.int IntKind.i64 w.s.ch)]),(20205,Ob.map lu (List.map ent w.s.m)),(20401,Ob.fu [PL.f (FV.int IntKind.i64 w.m.room),PL.mp 20405,PL.f (FV.sl (List.map rQ w.m.o)),PL.f (FV.int IntKind.i64 w.m.ch)]),(20405,Ob.map Ne.lu (List.map Ne.ent w.m.m)),(60000,Ob.fu [PL.ptr 20201 0,PL.ptr 20401 0,PL.f (FV.int IntKind.i64 w.now),PL.f (FV.sl (List.map bC w.roots)),PL.f (FV.int IntKind.i64 w.work)]),(80000,Ob.fu [PL.own 220200 (List.map rG x.goals).length,PL.f (FV.int IntKind.i64 x.sends)]),(100000,Ob.fu [PL.bY,PL.f (FV.int IntKind.i64 0)]),(120000,Ob.fu [PL.f (FV.int IntKind.i64 0),PL.bY,PL.f (FV.int IntKind.i64 0),PL.f (FV.str ⟨#[]⟩),PL.f (FV.str ⟨#[]⟩),PL.f (FV.int IntKind.i64 0),PL.f (FV.int IntKind.i64 0),PL.bY,PL.f (FV.int IntKind.i64 0),PL.f (FV.int IntKind.i64 0),PL.f (FV.str ⟨#[]⟩),PL.f (FV.str ⟨#[]⟩),PL.f (FV.int IntKind.i64 0),PL.f (FV.int IntKind.i64 0),PL.f (FV.str ⟨#[]⟩)]),(220200,Ob.row 5 (List.map rG x.goals))]⟩:=rfl
theorem Ve (w:Wd) (x:Tk):nxT w true x = ⟨[(2,PV.c (CV.one (PL.ptr 60000 0))),(3,PV.c (CV.one (PL.ptr 80000 0))),(4,PV.c (CV.one (PL.ptr 100000 0))),(5,PV.c (CV.one (PL.ptr 120000 0)))],[(20201,Ob.fu [PL.f (FV.int IntKind.i64 w.s.room),PL.mp 310004,PL.f (FV.sl (List.map rQ w.s.o)),PL.f (FV.int IntKind.i64 w.s.ch)]),(20401,Ob.fu [PL.f (FV.int IntKind.i64 w.m.room),PL.mp 310204,PL.f (FV.sl (List.map rQ w.m.o)),PL.f (FV.int IntKind.i64 w.m.ch)]),(60000,Ob.fu [PL.ptr 20201 0,PL.ptr 20401 0,PL.f (FV.int IntKind.i64 w.now),PL.f (FV.sl (List.map bC w.roots)),PL.f (FV.int IntKind.i64 w.work)]),(80000,Ob.fu [PL.own 220200 (List.map rG x.goals).length,PL.f (FV.int IntKind.i64 x.sends)]),(100000,Ob.fu [PL.bY,PL.f (FV.int IntKind.i64 0)]),(120000,Ob.fu [PL.f (FV.int IntKind.i64 0),PL.bY,PL.f (FV.int IntKind.i64 0),PL.f (FV.str ⟨#[]⟩),PL.f (FV.str ⟨#[]⟩),PL.f (FV.int IntKind.i64 0),PL.f (FV.int IntKind.i64 0),PL.bY,PL.f (FV.int IntKind.i64 0),PL.f (FV.int IntKind.i64 0),PL.f (FV.str ⟨#[]⟩),PL.f (FV.str ⟨#[]⟩),PL.f (FV.int IntKind.i64 0),PL.f (FV.int IntKind.i64 0),PL.f (FV.str ⟨#[]⟩)]),(220200,Ob.row 5 (List.map rG x.goals)),(310004,Ob.map lu (List.map ent w.s.m)),(310204,Ob.map Ne.lu (List.map Ne.ent w.m.m))]⟩:=rfl
theorem JN (S:Sk θ nm gt up ext) (w:Wd) (K:Wk θ nm up w) (hF:200000000000001 ≤ F) (t:Tk) (ht:Px t 900) (R:Stp × Tk) (hR:Lc θ nm up w (t.goals.length + 6) t = R) :
  G2 ext F (n + 7) 26 [w.v,t.v] = some ([R.2.v,R.1.v],[w.v,t.v]):=by
 refine dI (cf:=c26) rfl ?_
 have cg:=fun n=>af3 (F:=F) (n:=n) S t.goals (by have:=ht.len;omega)
 have htl:=ht.len
 dsimp only [c26,ay,dh,bA,bK,aG,bJ,dX,eD,dH,aD,cO,dG,bP,aV];simp only [cg,go_sem]
 refine rJ (t.goals.length + 6) (fun x:Bool × Tk=>nxT w x.1 x.2) (fun i x=>Px x.2 900 ∧ rk nm w x.2 + i < t.goals.length + 6 ∧ Lc θ nm up w (t.goals.length + 6 - i) x.2 = R) (by omega) (false,t) rfl ⟨ht,by have:=@Vb nm w t;show rk nm w t + 0 < _;omega,hR⟩ (fun i x hi hP=>?_) (fun x hP=>absurd hP.2.1 (by omega))
 obtain ⟨b,x⟩:=x
 obtain ⟨h1,h2,h3⟩:=hP
 simp only at h1 h2 h3 ⊢
 have st:=fun n=>Pv (F:=F) (n:=n) S w K hF x (by have:=h1.len;omega) h1.toacz _ rfl
 have hb:=Ik S K.hw (N:=900) (by decide) h1
 obtain ⟨f,hff⟩:∃ f,t.goals.length + 6 - i = f + 1:=⟨t.goals.length + 5 - i,by omega⟩
 rw [hff] at h3
 unfold Lc at h3
 have hrk:=@X6 θ nm up w x
 generalize rO θ nm up w x = M at st hb h3 hrk
 obtain ⟨⟨M1,M2⟩,M3⟩:=M
 simp only at st hb h3 hrk
 cases M2 with
 | true =>
  rw [ajd rfl] at h3
  subst h3
  cases b
  all_goals
   first | rw [Vd] | rw [Ve]
   simp only [st,go_sem]
   try rfl
 | false =>
  rw [aje akc] at h3
  have hlt:=hrk rfl
  cases b
  all_goals
   first | rw [Vd] | rw [Ve]
   simp only [st,go_sem]
   exact ⟨(true,M3),rfl,hb,by show rk nm w M3 + (i + 1) < _;omega,by rw [show t.goals.length + 6 - (i + 1) = f from by omega];exact h3⟩
end
section
open Go Ev Kc
variable {θ : Th} {nm:Int → ByteArray → List ByteArray} {gt:ByteArray → Int → Int → Int × Bool} {up:ByteArray → ByteArray × Bool} {ext:Env} {F n:Nat}
theorem Ga {pk:Qn → It × Bool} (hp:∀ q,(pk q).1.d.length ≤ 60):∀ (l:List ByteArray) (a:List ByteArray × List ByteArray),(l.foldl (kX pk) a).1.length ≤ a.1.length + 60 * l.length ∧ (l.foldl (kX pk) a).2.length ≤ a.2.length + l.length
 | [],a=>by simp
 | y :: l,a=>by
  have:=Ga hp l (kX pk a y)
  have h2:(kX pk a y).1.length ≤ a.1.length + 60 ∧ (kX pk a y).2.length ≤ a.2.length + 1:=by
   have:=hp ⟨y,1,1⟩
   unfold kX
   split
   ·simp only [ajl];omega
   ·simp only [ajl,List.length_singleton];omega
  simp only [List.foldl_cons,List.length_cons]
  omega
theorem JO {pk:Qn → It × Bool} (hp:∀ q,(pk q).1.d.length ≤ 60) (hn:∀ d,(nm 2 d).length ≤ 2):∀ (l:List ByteArray) (a:List ByteArray × List ByteArray),(l.foldl (wO nm pk) a).1.length ≤ a.1.length + 120 * l.length ∧ (l.foldl (wO nm pk) a).2.length ≤ a.2.length + 2 * l.length
 | [],a=>by simp
 | y :: l,a=>by
  have h1:=JO hp hn l (wO nm pk a y)
  have h2:=Ga hp (nm 2 y) a
  have h3:=hn y
  have h4:(wO nm pk a y).1.length ≤ a.1.length + 120 ∧ (wO nm pk a y).2.length ≤ a.2.length + 2:=by
   unfold wO;omega
  simp only [List.foldl_cons,List.length_cons]
  omega
theorem Tz {pk:Qn → It × Bool} (hp:∀ q,(pk q).1.d.length ≤ 60) (hn:∀ d,(nm 2 d).length ≤ 2) {roots:List ByteArray} (hr:roots.length ≤ 1000000) (q:ByteArray):(cut θ nm up pk roots q).2.1.length ≤ 1000000 ∧ (cut θ nm up pk roots q).2.2.length ≤ 1000000:=by
 have hF:∀ (f:Nat) (z:ByteArray),(oO nm up pk roots f z).2.1.length ≤ 1000000 ∧ (oO nm up pk roots f z).2.2.length ≤ 1000000:=by
  intro f
  induction f with
  | zero=>intro z;exact ⟨hr,by simp [oO]⟩
  | succ f ih =>
   intro z
   unfold oO
   split
   ·have h1:=JO hp hn (pk ⟨z,2,1⟩).1.d ([],[])
    have h2:=hp ⟨z,2,1⟩
    simp only [List.length_nil] at h1
    unfold Xg
    simp only
    omega
   ·split
    ·exact ih _
    ·exact ⟨hr,by simp⟩
 unfold cut
 split
 ·simp
 ·exact hF _ _
theorem Py {pk:Qn → It × Bool} {fd:Qn → Ne.Nt × Bool} {now:Int} (hn:∀ d,∀ x ∈ nm 5 d,x.size ≤ 255):∀ (f:Nat) (met:List ByteArray) (hits:List xk) (q:Qn),q.q.size ≤ 1000000 → (EZ nm pk fd now f met hits q).nm.size ≤ 1000000
 | 0,met,hits,q,h=>h
 | f + 1,met,hits,q,h=>by
  cases h1:tl pk now q with
  | some x=>simp only [EZ,h1];exact h
  | none =>
   cases h2:al nm pk now q with
   | none =>
    simp only [EZ,h1,h2]
    unfold Kc.fin
    split <;> exact h
   | some p =>
    obtain ⟨x,ZZ8⟩:=p
    simp only [EZ,h1,h2]
    split
    ·exact h
    ·refine Py hn f _ _ _ ?_
     unfold al at h2
     split at h2
     ·cases h2
     ·obtain ⟨y,hy,h3⟩:=zbm h2
      obtain ⟨z,hz,h4⟩:=zmm h3
      cases h4
      unfold tg at hz
      split at hz
      ·obtain ⟨d, -,hd⟩:=zbm hz
       have:=hn d ZZ8 (List.mem_of_mem_head? hd)
       show ZZ8.size ≤ 1000000
       omega
      ·cases hz
theorem X8 {pk:Qn → It × Bool} {fd:Qn → Ne.Nt × Bool} {now:Int} (hn:∀ d,∀ x ∈ nm 5 d,x.size ≤ 255) (q:Qn) (h:q.q.size ≤ 1000000):(Aa nm pk fd now q).nm.size ≤ 1000000:=Py hn 9 _ _ q h
theorem acA {s:Sv} {now:Int} (h:∀ x ∈ s.m,x.d.length ≤ 60) (q:Qn):(bH s now q).1.d.length ≤ 60:=by
 unfold bH
 split
 ·rename_i x ho
  split
  ·exact h x (l5 ho).2
  ·exact ajT _
 ·exact ajT _
theorem X9 {l:List Pt} (hf:kW l = true):∀ x ∈ (nC θ gt l).1.m,x.d.length ≤ 60:=fun x hx=>by
 obtain ⟨p,hp, -,rfl⟩:=(fiA (θ:=θ) (gt:=gt) l).s.it x hx
 have:=aju.mp hf p hp
 rw [ajk] at this
 exact (Bh this.1).2.1
theorem Vf (S:Sk θ nm gt up ext) (c:Cs) (hf:kW c.l = true) (hr:c.roots.length ≤ 1000000) (hw:c.work ≤ 9223372036854775807):Wk θ nm up (c.w θ gt):=by
 have W:=(fiA (θ:=θ) (gt:=gt) c.l).w hf
 refine ⟨W,W.hd,W.hy,hr,hw,fun q=>?_,fun q h=>X8 (fun d x hx=>(S.nl 5 d).2 x hx) q h⟩
 have:=Tz (θ:=θ) (nm:=nm) (up:=up) (pk:=bH (c.w θ gt).s (c.w θ gt).now) (acA (X9 hf)) (fun d=>(S.nl 2 d).1) (roots:=c.roots) hr q
 exact ⟨ajA this.1 (by decide),ajA this.2 (by decide)⟩
end
section
attribute [local go_sem_proc] Nat.reduceAdd Nat.reduceMul Nat.reduceEqDiff Nat.reduceBEq Nat.reduceMod Nat.reduceDiv reduceCtorEq
attribute [local go_sem_proc ↓] reduceIte
open Go Ev Kc
variable {θ : Th} {nm:Int → ByteArray → List ByteArray} {gt:ByteArray → Int → Int → Int × Bool} {up:ByteArray → ByteArray × Bool} {ext:Env} {F n:Nat}
abbrev Pz (c:Cs):Prop:=(kW c.l = true ∧ (c.l.length:Int) ≤ 40) ∧ (c.roots.length:Int) ≤ 20
theorem Il (hs:∀ (l:List Pt) (m:Int),l.length ≤ 200000000000000 → (∀ x ∈ l,x.s.d.length ≤ 200000000000000) → ext 10 [vl (l.map rP),vi m] = some ([vi (if kW l = true ∧ (l.length:Int) ≤ m then 1 else 0)],[vl (l.map rP),vi m])) (c:Cs) (hl:c.l.length ≤ 200000000000000) (hd:∀ x ∈ c.l,x.s.d.length ≤ 200000000000000) (hr:c.roots.length ≤ 200000000000000):G2 ext F (n + 2) 23 [c.v] = some ([vb (decide (Pz c))],[c.v]):=by
 refine dI (cf:=c23) rfl ?_
 have h1:=fun n=>(ajR (iB (pI:=pI) (ext:=ext) (F:=F) (n:=n) (f:=10) rfl) _).trans (hs c.l 40 hl hd)
 by_cases h:kW c.l = true ∧ (c.l.length:Int) ≤ 40
 ·rw [ajd h] at h1
  have z1:decide ((1:Int) = 1) = true:=rfl
  by_cases h2:(c.roots.length:Int) ≤ 20
  ·have h2':decide ((c.roots.length:Int) ≤ 20) = true:=ajf h2
   rw [ajf (show Pz c from ⟨h,h2⟩)]
   dsimp only [c23,ay,dh,bA,bK,aG,bJ,dX,eD,dH,aD,cO,dG,bP,aV];simp only [h1,z1,h2',ajg,go_sem]
   try rfl
  ·have h2':decide ((c.roots.length:Int) ≤ 20) = false:=ajh h2
   rw [ajh (show ¬ Pz c from fun x=>h2 x.2)]
   dsimp only [c23,ay,dh,bA,bK,aG,bJ,dX,eD,dH,aD,cO,dG,bP,aV];simp only [h1,z1,h2',ajg,go_sem]
   try rfl
 ·rw [aje h] at h1
  have z1:decide ((0:Int) = 1) = false:=rfl
  rw [ajh (show ¬ Pz c from fun x=>h x.1)]
  dsimp only [c23,ay,dh,bA,bK,aG,bJ,dX,eD,dH,aD,cO,dG,bP,aV];simp only [h1,z1,go_sem]
  try rfl
end
section
open Go Ev Kc
theorem Ya {m:ByteArray} (h:B.gP m = true):B.up (B.iL m) = if (B.up m).2 = true then (B.iL (B.up m).1,true) else (⟨#[]⟩,false):=by
 obtain ⟨l,rfl,hok,hz⟩:=B.lG.mp h
 cases l with
 | nil =>
  rw [B.kN,ZQ.BP,B.Dr]
  rfl
 | cons x l =>
  have hok':∀ y ∈ l,B.xq y:=fun y hy=>hok y (by simp [hy])
  have hz':(B.enc (List.map B.iL (x :: l))).size ≤ 255:=by rw [← ZQ.oF _ hok,ZQ.lg];exact hz
  rw [ZQ.oF _ hok,B.y7 hok hz]
  rw [ajp] at hz' ⊢
  rw [B.y7 (by have:=ZQ.JR hok;rwa [ajp] at this) hz']
  simp [ZQ.oF _ hok']
theorem PE {m:ByteArray} (h:(B.up m).2 = true):B.gP (B.up m).1 = true:=by
 obtain ⟨x,l,e,hok,hz,h2⟩:=B.Dt h
 rw [h2]
 refine B.lG.mpr ⟨l,rfl,fun y hy=>hok y (by simp [hy]),?_⟩
 rw [e,B.jD,ajx] at hz
 omega
theorem TB {m:ByteArray} (h:B.gP m = true) (h2:(B.up m).2 = false):m = Xh:=by
 obtain ⟨l,rfl,hok,hz⟩:=B.lG.mp h
 cases l with
 | nil=>rw [B.kN];rfl
 | cons x l=>rw [B.y7 hok hz] at h2;cases h2
theorem PG {m:ByteArray} (h:B.gP m = true):m ≠ ⟨#[]⟩:=by
 rintro rfl
 exact absurd h (by decide +kernel)
theorem PI : B.gP Xh = true:=by decide +kernel
def Zh (LD:ByteArray → ByteArray → Bool) (up:ByteArray → ByteArray × Bool):Nat → ByteArray → ByteArray → Bool
 | 0,_,_=>false
 | f + 1,m,z=>if LD m z = true then true else if (up m).2 = true then Zh LD up f (up m).1 z else false
def in_ (gP:ByteArray → Bool) (LD:ByteArray → ByteArray → Bool) (up:ByteArray → ByteArray × Bool) (m z:ByteArray):Bool:=if gP m = true then Zh LD up (m.size + 1) m z else false
theorem acB {m:ByteArray} (h:(B.up m).2 = true):(B.up m).1.size < m.size:=by
 obtain ⟨x,l,e,hok, -,h2⟩:=B.Dt h
 rw [h2,e,B.jD,ajx,ajx,B.l6];omega
theorem PK {m:ByteArray} (h:B.gP m = true):B.same m (B.iL m) = true:=by
 unfold B.same
 rw [h,ZQ.xC h,ZQ.Ld]
 simp
theorem JU {nm:Int → ByteArray → List ByteArray} {pk:Qn → It × Bool} {roots:List ByteArray}:∀ (f k:Nat) (m:ByteArray),B.gP m = true → m.size < f → m.size < k → Zh B.same B.up k m (oO nm B.up pk roots f (B.iL m)).1 = true
 | 0,_,_,_,h,_=>absurd h (by omega)
 | _,0,_,_,_,h=>absurd h (by omega)
 | f + 1,k + 1,m,hm,h1,h2=>by
  unfold oO Zh
  rw [Ya hm]
  by_cases hp:(pk ⟨B.iL m,2,1⟩).2 = true
  ·rw [ajd hp,ajd (PK hm)]
  ·rw [aje hp]
   cases hu:(B.up m).2 with
   | true =>
    simp only [ajL]
    split
    ·rfl
    ·have:=acB hu
     exact JU f k _ (PE hu) (by omega) (by omega)
   | false =>
    have e:=TB hm hu
    simp only [ajF,ajy]
    rw [e,ajd (by decide +kernel)]
theorem Yb {nm:Int → ByteArray → List ByteArray} {pk:Qn → It × Bool} {roots:List ByteArray} {m:ByteArray} (h:B.gP m = true):in_ B.gP B.same B.up m (cut jF nm B.up pk roots m).1 = true:=by
 have e:jF.low m = B.iL m:=by show zD m = _;unfold zD;rw [ajd h]
 unfold in_ cut
 rw [ajd h,e,aje (PG (ZQ.xC h)),ZQ.lg]
 exact JU _ _ _ h (by omega) (by omega)
theorem Gc {nm:Int → ByteArray → List ByteArray} {pk:Qn → It × Bool} {roots:List ByteArray} {m:ByteArray} (h:B.gP m = false):cut jF nm B.up pk roots m = (⟨#[]⟩,[],[]):=by
 have e:jF.low m = ⟨#[]⟩:=by show zD m = _;unfold zD;rw [aje (by rw [h];decide)]
 unfold cut
 rw [e,ajd rfl]
end
section
open Go Ev Kc
variable {θ : Th} {nm:Int → ByteArray → List ByteArray} {gt:ByteArray → Int → Int → Int × Bool} {up:ByteArray → ByteArray × Bool} {ext:Env}
structure Snt (θ:Th) (nm:Int → ByteArray → List ByteArray) (up:ByteArray → ByteArray × Bool) (w:Wd) (s0:Int) (r:Stp × Tk):Prop where
 z:r.1.zone = (cut θ nm up (bH w.s w.now) w.roots r.1.q.q).1
 m:r.1.server ∈ (cut θ nm up (bH w.s w.now) w.roots r.1.q.q).2.1
 s:r.2.sends = s0 + 1
 lt:s0 < w.work
theorem TD {l:List ByteArray} {t:Int} (h:l ≠ []) (h0:0 ≤ t):Va l t ∈ l:=by
 have hp:=List.length_pos_iff.mpr h
 have h1:0 ≤ t.tmod (l.length:Int) ∧ t.tmod (l.length:Int) < l.length:=⟨Int.tmod_nonneg _ h0,Int.tmod_lt_of_pos _ (by omega)⟩
 unfold Va
 rw [ajB,ajt (by omega)]
 exact ak1 _
theorem Le {R:ByteArray × List ByteArray × List ByteArray} {work:Int} {init:List Gl} {g:Gl} {s:Int} {q:ByteArray} :
  ((vM R work init g s q).1.2 = false → (vM R work init g s q).2.sends = s) ∧ ((vM R work init g s q).1.2 = true → (vM R work init g s q).1.1.kind ≠ 0 → (vM R work init g s q).2.sends = s) ∧
  ((vM R work init g s q).1.2 = true → (vM R work init g s q).1.1.kind = 0 → (vM R work init g s q).1.1.zone = R.1 ∧ (vM R work init g s q).1.1.q.q = q ∧ (vM R work init g s q).1.1.server ∈ R.2.1 ∧ (vM R work init g s q).2.sends = s + 1 ∧ s < work):=by
 by_cases h4:R.2.1 = []
 ·cases hf:P6 (init ++ [lq R.1 g]) R.2.2 with
  | none =>
   have e:vM R work init g s q = ((yL,true),⟨init ++ [lq R.1 g],s⟩):=by unfold vM;simp only;rw [ajd h4,hf]
   rw [e]
   exact ⟨fun _=>rfl,fun _ _=>rfl,fun _ h=>absurd h (by show ¬ (2:Int) = 0;decide)⟩
  | some x =>
   by_cases h5:3 < (init ++ [lq R.1 g]).length
   ·have e:vM R work init g s q = ((yL,true),⟨init ++ [lq R.1 g],s⟩):=by unfold vM;simp only;rw [ajd h4,hf];simp only;rw [ajd h5]
    rw [e]
    exact ⟨fun _=>rfl,fun _ _=>rfl,fun _ h=>absurd h (by show ¬ (2:Int) = 0;decide)⟩
   ·have e:vM R work init g s q = ((Xf,false),⟨init ++ [lq R.1 g] ++ [⟨⟨x,1,1⟩,⟨#[]⟩,0⟩],s⟩):=by unfold vM;simp only;rw [ajd h4,hf];simp only;rw [aje h5]
    rw [e]
    exact ⟨fun _=>rfl,(fun h=>by cases h),(fun h=>by cases h)⟩
 ·by_cases h5:(lq R.1 g).tries < 0 ∨ 2 * (R.2.1.length:Int) ≤ (lq R.1 g).tries ∨ work ≤ s
  ·have e:vM R work init g s q = ((yL,true),⟨init ++ [lq R.1 g],s⟩):=by unfold vM;simp only;rw [aje h4,ajd h5]
   rw [e]
   exact ⟨fun _=>rfl,fun _ _=>rfl,fun _ h=>absurd h (by show ¬ (2:Int) = 0;decide)⟩
  ·have e:vM R work init g s q = ((⟨0,ch0,Va R.2.1 (lq R.1 g).tries,⟨q,(lq R.1 g).q.t,(lq R.1 g).q.c⟩,R.1⟩,true),⟨init ++ [⟨(lq R.1 g).q,(lq R.1 g).zone,(lq R.1 g).tries + 1⟩],s + 1⟩):=by unfold vM;simp only;rw [aje h4,aje h5]
   rw [e]
   exact ⟨(fun h=>by cases h),fun _ h=>absurd rfl h,fun _ _=>⟨rfl,rfl,TD h4 (by omega),rfl,by omega⟩⟩
theorem Lf {w:Wd} {t:Tk} :
  ((rO θ nm up w t).1.2 = false → (rO θ nm up w t).2.sends = t.sends) ∧ ((rO θ nm up w t).1.2 = true → (rO θ nm up w t).1.1.kind ≠ 0 → (rO θ nm up w t).2.sends = t.sends) ∧
  ((rO θ nm up w t).1.2 = true → (rO θ nm up w t).1.1.kind = 0 → Snt θ nm up w t.sends ((rO θ nm up w t).1.1,(rO θ nm up w t).2)):=by
 obtain ⟨l,s⟩:=t
 by_cases h0:l = []
 ·subst h0;exact ⟨fun _=>rfl,fun _ _=>rfl,fun _ h=>absurd h (by show ¬ (2:Int) = 0;decide)⟩
 obtain ⟨init,g,rfl⟩:=JI h0
 rw [xB]
 unfold Ij
 simp only
 by_cases h3:(Aa nm (bH w.s w.now) (Ne.gH w.m w.now) w.now g.q).e = 3
 ·simp only [ajd h3]
  obtain ⟨a,b,c⟩:=@Le (cut θ nm up (bH w.s w.now) w.roots (Aa nm (bH w.s w.now) (Ne.gH w.m w.now) w.now g.q).nm) w.work init g s (Aa nm (bH w.s w.now) (Ne.gH w.m w.now) w.now g.q).nm
  refine ⟨a,b,fun h k=>?_⟩
  obtain ⟨c1,c2,c3,c4,c5⟩:=c h k
  exact ⟨by rw [c1,c2],by rw [c2];exact c3,c4,c5⟩
 ·simp only [aje h3]
  split
  ·exact ⟨fun h=>rfl,fun _ _=>rfl,fun _ h=>absurd h (by show ¬ (1:Int) = 0;decide)⟩
  ·split
   ·exact ⟨fun h=>rfl,(fun h=>by cases h),(fun h=>by cases h)⟩
   ·exact ⟨fun h=>rfl,fun _ _=>rfl,fun _ h=>absurd h (by show ¬ (2:Int) = 0;decide)⟩
theorem BQ {w:Wd}:∀ (f:Nat) (t:Tk),((Lc θ nm up w f t).1.kind ≠ 0 → (Lc θ nm up w f t).2.sends = t.sends) ∧ ((Lc θ nm up w f t).1.kind = 0 → Snt θ nm up w t.sends (Lc θ nm up w f t))
 | 0,t=>⟨fun _=>rfl,fun h=>absurd h (by show ¬ (2:Int) = 0;decide)⟩
 | f + 1,t=>by
  obtain ⟨a,b,c⟩:=@Lf θ nm up w t
  unfold Lc
  cases he:(rO θ nm up w t).1.2 with
  | true=>simp only [ajL];exact ⟨b he,c he⟩
  | false =>
   simp only [ajF,ajy]
   have:=@BQ w f (rO θ nm up w t).2
   rw [a he] at this
   exact this
theorem PN (S:Sk θ nm gt up ext) {w:Wd} (hw:w.work ≤ 9223372036854775807) {N:Nat} (hN:4 ≤ N):∀ (f:Nat) (t:Tk),Px t N → Px (Lc θ nm up w f t).2 N
 | 0,t,h=>h
 | f + 1,t,h=>by
  unfold Lc
  split
  ·exact Ik S hw hN h
  ·exact PN S hw hN f _ (Ik S hw hN h)
end
section
attribute [local go_sem_proc] Nat.reduceAdd Nat.reduceMul Nat.reduceEqDiff Nat.reduceBEq Nat.reduceMod Nat.reduceDiv reduceCtorEq
attribute [local go_sem_proc ↓] reduceIte
open Go Ev Kc
variable {ext : Env} {F n:Nat}
structure NmL (gP:ByteArray → Bool) (LD:ByteArray → ByteArray → Bool) (up:ByteArray → ByteArray × Bool) (ext:Env):Prop where
 c:∀ q,q.size ≤ 1000000 → ext 42 [vs q] = some ([vb (gP q)],[vs q])
 s:∀ q z,q.size ≤ 1000000 → z.size ≤ 1000000 → ext 75 [vs q,vs z] = some ([vb (LD q z)],[vs q,vs z])
 u:∀ q,q.size ≤ 1000000 → ext 44 [vs q] = some ([vs (up q).1,vb (up q).2],[vs q])
theorem yy {f:FuncId} (h:Ev.look pI f = none) (dR:List AV) (r) (he:ext f dR = some r) (n:Nat):G2 ext F (n + 1) f dR = some r:=(ajR (iB h) _).trans he
theorem Yc {gP:ByteArray → Bool} {LD:ByteArray → ByteArray → Bool} {up:ByteArray → ByteArray × Bool} (E:NmL gP LD up ext) (us:∀ q,(up q).2 = true → (up q).1.size < q.size) (m z:ByteArray) (hm:m.size ≤ 1000000) (hz:z.size ≤ 1000000) (hF:200000000000001 ≤ F):G2 ext F (n + 2) 40 [vs m,vs z] = some ([vb (in_ gP LD up m z)],[vs m,vs z]):=by
 refine dI (cf:=c40) rfl ?_
 have h1:=fun n=>yy (F:=F) (f:=42) rfl _ _ (E.c m hm) n
 generalize hR:in_ gP LD up m z = R
 unfold in_ at hR
 cases hc:gP m with
 | false =>
  rw [hc] at h1 hR
  simp only [ajF,ajy] at hR
  subst hR
  dsimp only [c40,ay,dh,bA,bK,aG,bJ,dX,eD,dH,aD,cO,dG,bP,aV];simp only [h1,go_sem]
  refine rJ 1 (fun _:Unit=>⟨[(0,PV.c (CV.one (PL.f (FV.str m)))),(1,PV.c (CV.one (PL.f (FV.str z)))),(5,PV.c (CV.one (PL.f (FV.bool false))))],[]⟩) (fun i _=>i = 0) (by omega) () rfl rfl (fun i x hi hP=>?_) (fun x hP=>absurd hP (by decide))
  simp only [go_sem]
  try rfl
 | true =>
  rw [hc] at h1 hR
  simp only [ajL] at hR
  dsimp only [c40,ay,dh,bA,bK,aG,bJ,dX,eD,dH,aD,cO,dG,bP,aV];simp only [h1,go_sem]
  refine rJ (m.size + 2) (fun x:ByteArray × Bool=>⟨[(0,PV.c (CV.one (PL.f (FV.str x.1)))),(1,PV.c (CV.one (PL.f (FV.str z)))),(5,PV.c (CV.one (PL.f (FV.bool x.2))))],[]⟩) (fun i x=>i ≤ m.size + 1 ∧ (x.2 = true → x.1.size + i ≤ m.size ∧ Zh LD up (m.size + 1 - i) x.1 z = R) ∧ (x.2 = false → R = false)) (by omega) (m,true) rfl ⟨by omega,fun _=>⟨by simp,hR⟩,fun h=>by cases h⟩ (fun i x hi hP=>?_) (fun x hP=>absurd hP.1 (by omega))
  obtain ⟨y,b⟩:=x
  obtain ⟨hP0,hP1,hP2⟩:=hP
  cases b with
  | false =>
   obtain rfl:=hP2 rfl
   simp only [go_sem]
   try rfl
  | true =>
   obtain ⟨hs,hi2⟩:=hP1 rfl
   simp only at hs hi2 ⊢
   obtain ⟨f,hf⟩:∃ f,m.size + 1 - i = f + 1:=⟨m.size - i,by omega⟩
   rw [hf] at hi2
   unfold Zh at hi2
   have h2:=fun n=>yy (F:=F) (f:=75) rfl _ _ (E.s y z (by omega) hz) n
   have h3:=fun n=>yy (F:=F) (f:=44) rfl _ _ (E.u y (by omega)) n
   cases hsm:LD y z with
   | true =>
    rw [hsm] at h2
    rw [ajd hsm] at hi2
    subst hi2
    simp only [h2,go_sem]
    try rfl
   | false =>
    rw [hsm] at h2
    rw [aje (by rw [hsm];decide)] at hi2
    cases hu:(up y).2 with
    | true =>
     rw [hu] at h3
     rw [ajd hu] at hi2
     have:=us y hu
     simp only [h2,h3,go_sem]
     exact ⟨((up y).1,true),rfl,by omega,fun _=>⟨by show (up y).1.size + (i + 1) ≤ _;omega,by rw [show m.size + 1 - (i + 1) = f from by omega];exact hi2⟩,fun h=>by cases h⟩
    | false =>
     rw [hu] at h3
     rw [aje (by rw [hu];decide)] at hi2
     simp only [h2,h3,go_sem]
     exact ⟨((up y).1,false),rfl,by omega,(fun h=>by cases h),fun _=>hi2.symm⟩
end
section
open Go Ev Kc
variable {nm : Int → ByteArray → List ByteArray} {gt:ByteArray → Int → Int → Int × Bool} {ext:Env} {F n:Nat}
theorem Lg {up:ByteArray → ByteArray × Bool} {pk:Qn → It × Bool} {roots:List ByteArray} {f:Nat} {z:ByteArray}:oO nm up pk roots (f + 1) z = if (pk ⟨z,2,1⟩).2 = true then (z,Xg nm pk (pk ⟨z,2,1⟩).1.d) else if (up z).2 = true then oO nm up pk roots f (up z).1 else (Xh,roots,[]):=rfl
theorem PO {pk:Qn → It × Bool} {roots:List ByteArray}:∀ (f:Nat) (z:ByteArray),B.gP z = true → B.gP (oO nm B.up pk roots f z).1 = true
 | 0,z,_=>PI
 | f + 1,z,h=>by
  rw [Lg]
  split
  ·exact h
  ·split
   ·rename_i hu;exact PO f _ (PE hu)
   ·exact PI
theorem PS {z:ByteArray} (h:B.gP z = true):z.size ≤ 255:=by obtain ⟨l, -, -,h⟩:=B.lG.mp h;exact h
end
section
attribute [local go_sem_proc] Nat.reduceAdd Nat.reduceMul Nat.reduceEqDiff Nat.reduceBEq Nat.reduceMod Nat.reduceDiv reduceCtorEq
attribute [local go_sem_proc ↓] reduceIte
open Go Ev Kc
variable {nm : Int → ByteArray → List ByteArray} {gt:ByteArray → Int → Int → Int × Bool} {ext:Env} {F n:Nat}
structure ExS (ext:Env):Prop where
 sm:∀ (l:List Pt) (m:Int),l.length ≤ 200000000000000 → (∀ x ∈ l,x.s.d.length ≤ 200000000000000) → ext 10 [vl (l.map rP),vi m] = some ([vi (if kW l = true ∧ (l.length:Int) ≤ m then 1 else 0)],[vl (l.map rP),vi m])
 nl:NmL B.gP B.same B.up ext
 inn:∀ (l:List ByteArray) (s:ByteArray),l.length ≤ 1000000000000 → ext 39 [vl (l.map bC),vs s] = some ([vb (uP l s)],[vl (l.map bC),vs s])
theorem DV (S:Sk jF nm gt B.up ext) (hv:∀ n,G2 ext F (n + 8) 24 [] = some ([vb true],[])) (E:ExS ext) (hF:200000000000001 ≤ F) (c:Cs) (q:Qn) (hl:c.l.length ≤ 200000000000000) (hd:∀ x ∈ c.l,x.s.d.length ≤ 200000000000000) (hr:c.roots.length ≤ 200000000000000) (hw:c.work ≤ 9223372036854775807):G2 ext F (n + 9) 6 [c.v,q.v] = some ([vb true],[c.v,q.v]):=by
 refine dI (cf:=c6) rfl ?_
 have hs:=fun n=>Il (F:=F) (n:=n) E.sm c hl hd hr
 by_cases h1:Pz c
 case neg =>
  rw [ajh h1] at hs
  dsimp only [c6,ay,dh,bA,bK,aG,bJ,dX,eD,dH,aD,cO,dG,bP,aV];simp only [hs,hv,go_sem]
  try rfl
 rw [ajf h1] at hs
 by_cases h3:q.q.size ≤ 300
 case neg =>
  have h3':decide ((300:Int) < (q.q.size:Int)) = true:=ajf (by omega)
  dsimp only [c6,ay,dh,bA,bK,aG,bJ,dX,eD,dH,aD,cO,dG,bP,aV];simp only [hs,hv,h3',go_sem]
  try rfl
 have h3':decide ((300:Int) < (q.q.size:Int)) = false:=ajh (by omega)
 by_cases h4:c.work ≤ 60
 case neg =>
  have h4':decide ((60:Int) < c.work) = true:=ajf (by omega)
  dsimp only [c6,ay,dh,bA,bK,aG,bJ,dX,eD,dH,aD,cO,dG,bP,aV];simp only [hs,hv,h3',h4',go_sem]
  try rfl
 have h4':decide ((60:Int) < c.work) = false:=ajh (by omega)
 have K:=Vf S c h1.1.1 (by omega) hw
 have wd:=fun n=>F9 (F:=F) (n:=n) (gt:=gt) S c (by omega) h1.1.1
 have st:=fun n=>F8 (F:=F) (n:=n) S q (by omega)
 have hls:=S.ls q.q
 have ajb:(c.w jF gt).now = c.now:=rfl
 have hwk:(c.w jF gt).work = c.work:=rfl
 have t0:Px ⟨[⟨⟨jF.low q.q,q.t,q.c⟩,⟨#[]⟩,0⟩],0⟩ 4:=⟨⟨fun g hg=>by rw [aj3.mp hg];show (jF.low q.q).size ≤ 1000000;omega,by show (-9223372036854775808:Int) ≤ 0;decide,by show (0:Int) ≤ 9223372036854775807;decide⟩,by simp⟩
 generalize ht0:(⟨[⟨⟨jF.low q.q,q.t,q.c⟩,⟨#[]⟩,0⟩],0⟩:Tk) = tk at st t0
 have hs0:tk.sends = 0:=by rw [← ht0]
 generalize c.w jF gt = w at *
 dsimp only [c6,ay,dh,bA,bK,aG,bJ,dX,eD,dH,aD,cO,dG,bP,aV];simp only [hs,h3',h4',wd,st,go_sem]
 refine rJ 70 (fun x:Nat × Tk=>⟨[(2,PV.c (CV.one (PL.ptr 60000 0))),(5,PV.c (CV.one (PL.ptr 120000 0))),(6,PV.c (CV.one (PL.ptr 140000 0))),(7,PV.c (CV.one (PL.f (FV.int IntKind.i64 x.1)))),(8,PV.c (CV.one (PL.f (FV.int IntKind.i64 x.1))))],[(60000,Ob.fu [PL.f (FV.sl (List.map rP c.l)),PL.f (FV.int IntKind.i64 c.now),PL.f (FV.sl (List.map bC c.roots)),PL.f (FV.int IntKind.i64 c.work)]),(120000,Ob.fu [PL.ptr 620200 0,PL.ptr 620400 0,PL.f (FV.int IntKind.i64 w.now),PL.f (FV.sl (List.map bC w.roots)),PL.f (FV.int IntKind.i64 w.work)]),(140000,Ob.fu [PL.f (FV.sl (List.map rG x.2.goals)),PL.f (FV.int IntKind.i64 x.2.sends)]),(620200,Ob.fu [PL.f (FV.int IntKind.i64 w.s.room),PL.mp 620204,PL.f (FV.sl (List.map rQ w.s.o)),PL.f (FV.int IntKind.i64 w.s.ch)]),(620204,Ob.map lu (List.map ent w.s.m)),(620400,Ob.fu [PL.f (FV.int IntKind.i64 w.m.room),PL.mp 620404,PL.f (FV.sl (List.map rQ w.m.o)),PL.f (FV.int IntKind.i64 w.m.ch)]),(620404,Ob.map Ne.lu (List.map Ne.ent w.m.m))]⟩) (fun i x=>x.1 = i ∧ Px x.2 4 ∧ x.2.sends = (i:Int) ∧ (i:Int) ≤ max c.work 0) (by omega) (0,tk) rfl ⟨rfl,t0,hs0,by show (0:Int) ≤ _;omega⟩ (fun i x hi hP=>?_) (fun x hP=>absurd hP.2.2.2 (by omega))
 obtain ⟨k,t⟩:=x
 obtain ⟨rfl,hb,hts,hm⟩:=hP
 simp only at hb hts ⊢
 have nx:=fun n=>JN (F:=F) (n:=n) S w K hF t ⟨hb.toacz,by have:=hb.len;omega⟩ _ rfl
 have hB:=PN S (w:=w) (by rw [hwk];omega) (N:=4) (by decide) (t.goals.length + 6) t hb
 obtain ⟨n1,n2⟩:=@BQ jF nm B.up w (t.goals.length + 6) t
 generalize Lc jF nm B.up w (t.goals.length + 6) t = R at nx hB n1 n2
 have hlen:=hB.len
 have e1:decide ((4:Int) < (R.2.goals.length:Int)) = false:=ajh (by omega)
 have acC:decide ((k:Int) < 70) = true:=ajf (by omega)
 have hk1:IntKind.i64.wrap ((k:Int) + 1) = ((k + 1:Nat):Int):=by rw [pK (by omega) (by omega)];omega
 by_cases hk:R.1.kind = 0
 case neg =>
  have e2:decide (R.1.kind = 0) = false:=ajh hk
  have e3:decide ((k:Int) ≤ if c.work < 0 then 0 else c.work) = true:=ajf (by simp only at hm;split <;> omega)
  have e4:decide (R.2.sends = (k:Int)) = true:=ajf (by rw [n1 hk,hts])
  simp only [acC,nx,ajg,e1,e2,e3,e4,hv,go_sem]
  try rfl
 have e2:decide (R.1.kind = 0) = true:=ajf hk
 obtain ⟨m1,m2,m3,m4⟩:=n2 hk
 have hN:B.gP R.1.q.q = true:=by
  cases hN:B.gP R.1.q.q with
  | true=>rfl
  | false=>rw [Gc hN] at m2;simp at m2
 have hqs:=PS hN
 have ct:=fun n=>Pp (F:=F) (n:=n) S w K.hd K.hy K.hr hF R.1.q.q (by omega) _ rfl
 have hcc:=K.hc R.1.q.q
 have hin:=@Yb nm (bH w.s w.now) w.roots R.1.q.q hN
 have hCN:B.gP (cut jF nm B.up (bH w.s w.now) w.roots R.1.q.q).1 = true:=by
  unfold cut
  rw [show jF.low R.1.q.q = B.iL R.1.q.q from by show zD _ = _;unfold zD;rw [ajd hN],aje (PG (ZQ.xC hN))]
  exact PO _ _ (ZQ.xC hN)
 generalize cut jF nm B.up (bH w.s w.now) w.roots R.1.q.q = C at ct m1 m2 hcc hin hCN
 have hzz:C.1.size ≤ 1000000:=by have:=PS hCN;omega
 have hi2:=fun n=>Yc (F:=F) (n:=n) E.nl S.us R.1.q.q C.1 (by omega) hzz hF
 rw [hin] at hi2
 have hi3:=fun n=>yy (F:=F) (f:=39) rfl _ _ (E.inn C.2.1 R.1.server (by omega)) n
 rw [show uP C.2.1 R.1.server = true from C9.mpr m2] at hi3
 have e5:decide (C.1 = R.1.zone) = true:=ajf m1.symm
 have e6:decide (R.2.sends = ((k + 1:Nat):Int)) = true:=ajf (by rw [m3,hts];omega)
 simp only [acC,nx,ajg,e1,e2,ct,e5,hi3,hi2,hk1,e6,go_sem]
 exact ⟨(k + 1,R.2),rfl,rfl,hB,by show R.2.sends = _;rw [m3,hts];omega,by rw [hwk] at m4;omega⟩
end
section
attribute [local go_sem_proc] Nat.reduceAdd Nat.reduceMul Nat.reduceEqDiff Nat.reduceBEq Nat.reduceMod Nat.reduceDiv reduceCtorEq
attribute [local go_sem_proc ↓] reduceIte
open Go Ev Kc
variable {θ : Th} {nm:Int → ByteArray → List ByteArray} {gt:ByteArray → Int → Int → Int × Bool} {up:ByteArray → ByteArray × Bool} {ext:Env} {F n:Nat}
def Lh (Γ:Env) (gs:List G) (ks mE:List Nat) (σ r:St) (os:List (List Nat)):Prop:=kT Γ gs ks mE σ r os
theorem Yd {k:Out × St → Prop} {u:Tok k} {Γ:Env} {σ:St} {gs:List G} {o:List Nat} {os:List (List Nat)} {ks mE:List Nat}:W k u (ev Γ F (.any gs (o :: os) ks mE) σ) ↔ W (fun s=>W (fun r=>Lh Γ gs ks mE σ r os ∧ W k ⟨⟩ (some (.jf,r))) ⟨⟩ (some (⟨pick ks s.tm,pick mE s.ob⟩:St))) ⟨⟩ (wL Γ false (o.map fun i=>gs.getD i default) σ):=aai
abbrev n_X : ByteArray:=⟨#[1,88,1,97,0]⟩
abbrev n_x : ByteArray:=⟨#[1,120,1,97,0]⟩
abbrev n_a : ByteArray:=⟨#[1,97,0]⟩
abbrev Zi : ByteArray:=⟨#[1,110,0]⟩
abbrev Ye : ByteArray:=⟨#[48,48,48,48]⟩
abbrev r_1 : ByteArray:=⟨#[48,48,48,49]⟩
abbrev a_1 : ByteArray:=⟨#[49,49,49,49]⟩
abbrev a_2 : ByteArray:=⟨#[50,50,50,50]⟩
abbrev q00 : Qn:=⟨⟨#[]⟩,0,0⟩
abbrev t_x : Tk:=⟨[⟨⟨n_x,1,1⟩,⟨#[]⟩,0⟩],0⟩
abbrev p_1 : Pt:=⟨0,⟨n_a,2,1,[Zi],99⟩,1,q00⟩
abbrev p_2 : Pt:=⟨0,⟨Zi,1,1,[a_1],99⟩,1,q00⟩
abbrev p_3 : Pt:=⟨0,⟨n_x,1,1,[a_2],99⟩,5,q00⟩
abbrev LG : Cs:=⟨[],0,[Ye,r_1],5⟩
abbrev Vg : Cs:=⟨[],0,[Ye],0⟩
abbrev P8 : Cs:=⟨[p_1],0,[Ye],5⟩
abbrev TF : Cs:=⟨[p_1,p_2],0,[Ye],5⟩
abbrev TG : Cs:=⟨[p_1,p_2,p_3],0,[Ye],5⟩
abbrev nX (θ:Th) (nm:Int → ByteArray → List ByteArray) (gt:ByteArray → Int → Int → Int × Bool) (up:ByteArray → ByteArray × Bool) (c:Cs):Stp × Tk:=Lc θ nm up (c.w θ gt) 7 t_x
structure Vh (θ:Th) (nm:Int → ByteArray → List ByteArray) (gt:ByteArray → Int → Int → Int × Bool) (up:ByteArray → ByteArray × Bool):Prop where
 lo:θ.low n_X = n_x
 a1:(nX θ nm gt up LG).1.kind = 0
 a2:(nX θ nm gt up LG).1.server = Ye
 a3:(nX θ nm gt up LG).1.zone = Xh
 a4:(nX θ nm gt up LG).2.goals.map (fun g=>g.tries) = [1]
 a5:(nX θ nm gt up LG).2.sends = 1
 y1:(nX θ nm gt up Vg).1.kind = 2
 z1:(nX θ nm gt up P8).1.kind = 0
 z2:(nX θ nm gt up P8).1.q.q = Zi
 b1:(nX θ nm gt up P8).2.goals.map (fun g=>g.q.t) = [1,1]
 u1:(nX θ nm gt up TF).1.server = a_1
 u2:(nX θ nm gt up TF).1.zone = n_a
 v1:(nX θ nm gt up TG).1.kind = 1
 v2:(nX θ nm gt up TG).1.ch.hits.length = 1
theorem acD : Px t_x 900:=⟨⟨fun g hg=>by rw [aj3.mp hg];decide,by decide,by decide⟩,by decide⟩
theorem Li (S:Sk θ nm gt up ext) (L:Vh θ nm gt up) (hF:200000000000001 ≤ F):G2 ext F (n + 8) 24 [] = some ([vb true],[]):=by
 refine dI (cf:=c24) rfl ?_
 have st:=fun n=>F8 (F:=F) (n:=n) S ⟨n_X,1,1⟩ (by decide)
 rw [L.lo] at st
 have wd:=fun n c h1 h2=>F9 (F:=F) (n:=n) (gt:=gt) S c h1 h2
 have nx:=fun n c h1 h2 h3=>JN (F:=F) (n:=n) S (Cs.w θ gt c) (Vf S c h1 h2 h3) hF t_x acD _ rfl
 have wa:=fun n=>wd n LG (by decide) (by decide)
 have wy:=fun n=>wd n Vg (by decide) (by decide)
 have wb:=fun n=>vN (F:=F) (n:=n) (gt:=gt) S P8 (by decide) (by decide)
 have wc:=fun n=>vN (F:=F) (n:=n) (gt:=gt) S TF (by decide) (by decide)
 have we:=fun n=>vN (F:=F) (n:=n) (gt:=gt) S TG (by decide) (by decide)
 have xa:=fun n=>nx n LG (by decide) (by decide) (by decide)
 have xy:=fun n=>nx n Vg (by decide) (by decide) (by decide)
 have xb:=fun n=>nx n P8 (by decide) (by decide) (by decide)
 have xc:=fun n=>nx n TF (by decide) (by decide) (by decide)
 have xd:=fun n=>nx n TG (by decide) (by decide) (by decide)
 clear nx wd
 obtain ⟨-,a1,a2,a3,a4,a5,y1,z1,z2,b1,u1,u2,v1,v2⟩:=L
 change ∀ n,_ = some ([(nX θ nm gt up LG).2.v,(nX θ nm gt up LG).1.v],_) at xa
 change ∀ n,_ = some ([(nX θ nm gt up Vg).2.v,(nX θ nm gt up Vg).1.v],_) at xy
 change ∀ n,_ = some ([(nX θ nm gt up P8).2.v,(nX θ nm gt up P8).1.v],_) at xb
 change ∀ n,_ = some ([(nX θ nm gt up TF).2.v,(nX θ nm gt up TF).1.v],_) at xc
 change ∀ n,_ = some ([(nX θ nm gt up TG).2.v,(nX θ nm gt up TG).1.v],_) at xd
 generalize nX θ nm gt up LG = Ra at *
 generalize nX θ nm gt up Vg = Ry at *
 generalize nX θ nm gt up P8 = Rb at *
 generalize nX θ nm gt up TF = Rc at *
 generalize nX θ nm gt up TG = Rd at *
 generalize Cs.w θ gt LG = Wa at *
 generalize Cs.w θ gt Vg = Wy at *
 generalize Cs.w θ gt P8 = Wb at *
 generalize Cs.w θ gt TF = Wc at *
 generalize Cs.w θ gt TG = We at *
 obtain ⟨⟨ka,cha,sva,qa,za⟩,⟨ga,na⟩⟩:=Ra
 obtain ⟨⟨ky,chy,svy,qy,zy⟩,⟨gy,ny⟩⟩:=Ry
 obtain ⟨⟨kb,chb,svb,⟨qb,qbt,qbc⟩,zb⟩,⟨gb,nb⟩⟩:=Rb
 obtain ⟨⟨kc,chc,svc,qc,zc⟩,⟨gc,nc⟩⟩:=Rc
 obtain ⟨⟨kd,chd,svd,qd,zd⟩,⟨gd,nd⟩⟩:=Rd
 simp only at a1 a2 a3 a4 a5 y1 z1 z2 b1 u1 u2 v1 v2
 subst a1 a2 a3 a5 y1 z1 z2 u1 u2 v1
 obtain ⟨q1,z1,rfl⟩:∃ q z,ga = [⟨q,z,1⟩]:=by
  match ga,a4 with
  | [⟨q,z,r⟩],h=>simp only [ajp,ajs,akv,and_true] at h;subst h;exact ⟨q,z,rfl⟩
 obtain ⟨q2,c2,z2,r2,q3,c3,z3,r3,rfl⟩:∃ q c z r q' c' z' r',gb = [⟨⟨q,1,c⟩,z,r⟩,⟨⟨q',1,c'⟩,z',r'⟩]:=by
  match gb,b1 with
  | [⟨⟨q,t,c⟩,z,r⟩,⟨⟨q',t',c'⟩,z',r'⟩],h=>simp only [ajp,ajs,akv,and_true] at h;obtain ⟨rfl,rfl⟩:=h;exact ⟨_,_,_,_,_,_,_,_,rfl⟩
 have hv:((chd.hits.length:Nat):Int) = 1:=by omega
 have s1:=fun n=>zJ (ext:=ext) (F:=F) (n:=n) n_a 2 Zi
 have s2:=fun n=>zJ (ext:=ext) (F:=F) (n:=n) Zi 1 a_1
 have s3:=fun n=>zJ (ext:=ext) (F:=F) (n:=n) n_x 1 a_2
 simp only [LG,Vg,P8,TF,TG,p_1,p_2,p_3,t_x,q00,n_X,n_x,n_a,Zi,Ye,r_1,a_1,a_2,Xh,Cs.v,Cs.ov,Tk.v,Qn.v,Se.v,tQ,ajp,ajs,rG,rP,bC] at st wa wy wb wc we xa xy xb xc xd s1 s2 s3
 dsimp only [c24,ay,dh,bA,bK,aG,bJ,dX,eD,dH,aD,cO,dG,bP,aV];simp (maxSteps:=100000000) only [↓Yd,st,wa,wy,wb,wc,we,xa,xy,xb,xc,xd,s1,s2,s3,ajg,hv,decide_true,go_sem]
 refine ⟨?_,?_,?_,by decide,?_,by decide,?_,?_⟩
 ·unfold Lh;as_aux_lemma=>simp (maxSteps:=100000000) only [wa,xa,go_sem]
 ·unfold Lh;as_aux_lemma=>simp (maxSteps:=100000000) only [wy,xy,go_sem]
 ·unfold Lh;as_aux_lemma=>simp (maxSteps:=100000000) only [wb,xb,go_sem]
 ·unfold Lh;as_aux_lemma=>simp (maxSteps:=100000000) only [wc,xc,go_sem]
 ·unfold Lh;as_aux_lemma=>simp (maxSteps:=100000000) only [we,xd,go_sem]
 have d1:decide (((1:Nat):Int) = 1) = true:=rfl
 have d2:decide (((2:Nat):Int) = 2) = true:=rfl
 have d3:decide ((0:Int) < ((1:Nat):Int)) = true:=rfl
 have d4:decide ((1:Int) < ((2:Nat):Int)) = true:=rfl
 have d5:decide ((0:Int) < ((2:Nat):Int)) = true:=rfl
 have i1:(1:Int).toNat = 1:=rfl
 have d6:decide (((chd.hits.length:Nat):Int) = 1) = true:=ajf hv
 simp only [d1,d2,d3,d4,d5,d6,i1,ajg,Int.toNat_zero,List.getElem?_cons_zero,List.getElem?_cons_succ,decide_true,go_sem]
 first | exact ⟨by decide,by decide,by decide,rfl⟩ | exact ⟨by decide,by decide,by decide⟩ | decide | omega
end
section
open Go Ev Kc
theorem acE : Vh jF nm₀ FZ B.up:=by constructor <;> decide +kernel
end
end Go.Proofs.YtfokaoeinpnagaaGreat.Kd
namespace Go.Proofs.YtfokaoeinpnagaaGreat.Kc
open Go Ev
variable {ext : Env} {F:Nat}
theorem agZ (l:List ByteArray) (s:ByteArray) (hl:l.length ≤ 1000000000000) (hF:200000000000001 ≤ F):G ext F 40 39 [vl (l.map bC),vs s] = some ([vb (uP l s)],[vl (l.map bC),vs s]):=by
 have h:=aa4 (ext:=ext) (F:=F) (n:=40 - 1) l s hl hF
 rw [show 40 - 1 + 1 = 40 from rfl] at h
 exact h
end Go.Proofs.YtfokaoeinpnagaaGreat.Kc
namespace Go.Proofs.YtfokaoeinpnagaaGreat.Kd
open Go Go.RowKit Ev Kc
theorem nmL : NmL B.gP B.same B.up zH where
 c q h:=(e3 (by decide) (by decide) rfl _).trans (by simp [kH,wW,kr,iW,Tj,xg,Nb,h,vs,vb])
 s q z h h2:=(e3 (by decide) (by decide) rfl _).trans (by simp [kH,wW,kr,iW,gB2,xg,Nb,h,h2,vs,vb])
 u q h:=(e3 (by decide) (by decide) rfl _).trans (by simp [kH,wW,kr,iW,Zg,xg,Nb,h,vs,vb])
theorem exS : ExS zH where
 sm l m h1 h2:=(e2 (by decide) (by decide) _).trans (agV l m h1 h2 (aji _))
 nl:=nmL
 inn l s h:=(e2 (by decide) (by decide) _).trans (agZ l s h (aji _))
theorem hv2 (n:Nat):G2 zH 200000000000001 (n + 8) 24 [] = some ([vb true],[]):=Li U7 acE (aji _)
end Go.Proofs.YtfokaoeinpnagaaGreat.Kd
namespace Go.Proofs.YtfokaoeinpnagaaGreat.Kc
open Go Ev
theorem opQ : Im Tryz.prog 24 rQ (fun _=>True) :=
 uO (fun p:ByteArray × Int × Int=>⟨p.1,p.2.1,p.2.2⟩) (by exact fun _=>rfl) (by exact fun _ _=>trivial) (pq Tryz.underlying24 (by kernel_rfl) (jq (sz:=1) (sz':=2) (JV Tryz.underlying9) (by kernel_rfl) (jq (sz:=1) (sz':=1) (oZ Tryz.underlying3) (by kernel_rfl) (qU (oZ Tryz.underlying3) (by kernel_rfl)))))
theorem opD : Im Tryz.prog 40 (fun d:List ByteArray=>[.sl (d.map bC)]) (fun d=>d.length ≤ 140737488351232) :=
 uO (fun d:List ByteArray=>d) (by exact fun _=>rfl) (by exact fun _ h=>h.1) (BS 1 Tryz.underlying40 (by kernel_rfl) (by decide) (fun _=>rfl) (by kernel_rfl) (JV Tryz.underlying9))
theorem opS : Im Tryz.prog 42 rS (fun x=>x.d.length ≤ 140737488351232) :=
 uO (fun p:Qn × List ByteArray × Int=>⟨p.1.q,p.1.t,p.1.c,p.2.1,p.2.2⟩) (by exact fun _=>rfl) (by exact fun _ h=>h.2.1) (pq Tryz.underlying42 (by kernel_rfl) (jq (sz:=3) (sz':=2) opQ (by kernel_rfl) (jq (sz:=1) (sz':=1) opD (by kernel_rfl) (qU (oZ Tryz.underlying3) (by kernel_rfl)))))
theorem opP : Im Tryz.prog 113 rP (fun x=>x.s.d.length ≤ 140737488351232) :=
 uO (fun p:Int × Se × Int × Qn=>⟨p.1,p.2.1,p.2.2.1,p.2.2.2⟩) (by exact fun _=>rfl) (by exact fun _ h=>h.2.1) (pq Tryz.underlying113 (by kernel_rfl) (jq (sz:=1) (sz':=9) (oZ Tryz.underlying3) (by kernel_rfl) (jq (sz:=5) (sz':=4) opS (by kernel_rfl) (jq (sz:=1) (sz':=3) (oZ Tryz.underlying3) (by kernel_rfl) (qU opQ (by kernel_rfl))))))
theorem ag0 : Im Tryz.prog 22 (fun l:List Pt=>[.sl (l.map rP)]) (fun l=>l.length ≤ 140737488351232 ∧ ∀ x ∈ l,x.s.d.length ≤ 140737488351232) :=
 BS 10 Tryz.underlying22 (by kernel_rfl) (by decide) (fun _=>rfl) (by kernel_rfl) opP
end Go.Proofs.YtfokaoeinpnagaaGreat.Kc
namespace Go.Proofs.YtfokaoeinpnagaaGreat.Kd
open Go Ev Kc
theorem opC : Im Tryz.prog 63 rC (fun c=>(c.l.length ≤ 140737488351232 ∧ ∀ x ∈ c.l,x.s.d.length ≤ 140737488351232) ∧ c.roots.length ≤ 140737488351232 ∧ (Lit.int .i64 c.work).wf = true) :=
 uO (fun p:List Pt × Int × List ByteArray × Int=>⟨p.1,p.2.1,p.2.2.1,p.2.2.2⟩) (by exact fun _=>rfl) (by exact fun _ h=>⟨h.1,h.2.2.1,h.2.2.2⟩) (pq Tryz.underlying63 (by kernel_rfl) (jq (sz:=1) (sz':=3) ag0 (by kernel_rfl) (jq (sz:=1) (sz':=2) (oZ Tryz.underlying3) (by kernel_rfl) (jq (sz:=1) (sz':=1) opD (by kernel_rfl) (qU (oZ Tryz.underlying3) (by kernel_rfl))))))
theorem acF {n:Int} (h:(Lit.int .i64 n).wf = true):-9223372036854775808 ≤ n ∧ n ≤ 9223372036854775807:=by
 unfold Lit.wf at h
 rw [ajk,ajz,ajz] at h
 exact ⟨h.1,h.2⟩
end Go.Proofs.YtfokaoeinpnagaaGreat.Kd

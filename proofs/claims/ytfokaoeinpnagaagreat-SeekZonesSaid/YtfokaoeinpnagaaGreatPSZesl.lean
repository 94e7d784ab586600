/- A part of the proof of SeekZones: cut, joined and given short names by a program of this session (wip/tools/pack.py); Lean checks it. No condition. -/
import Derived.Test.YtfokaoeinpnagaaGreatPSZesk
import Derived.Test.YtfokaoeinpnagaaGreatPSZesi
import Derived.Test.YtfokaoeinpnagaaGreatPSZesj
import Derived.KernelRfl
import Derived.Test.YtfokaoeinpnagaaGreatPSZesd
set_option linter.unusedSectionVars false
set_option linter.unusedSimpArgs false
set_option linter.unusedVariables false
set_option maxHeartbeats 16000000
set_option maxRecDepth 100000
namespace Go.Proofs.YtfokaoeinpnagaaGreat.Kd
section
attribute [local go_sem_proc] Nat.reduceAdd Nat.reduceMul Nat.reduceEqDiff Nat.reduceBEq Nat.reduceMod Nat.reduceDiv reduceCtorEq
attribute [local go_sem_proc ↓] reduceIte
open Go Ev Kc
variable {θ : Th} {nm:Int → ByteArray → List ByteArray} {gt:ByteArray → Int → Int → Int × Bool} {up:ByteArray → ByteArray × Bool} {ext:Env} {F n:Nat}
structure Wk (θ:Th) (nm:Int → ByteArray → List ByteArray) (up:ByteArray → ByteArray × Bool) (w:Wd):Prop where
 fw:FW (w.s,w.m)
 hd:∀ x ∈ w.s.m,x.d.length ≤ 1000000
 hy:∀ x ∈ w.s.m,∀ y ∈ x.d,y.size ≤ 1000000
 hr:w.roots.length ≤ 1000000
 hw:w.work ≤ 9223372036854775807
 hc:∀ q,(cut θ nm up (bG w.s w.now) w.roots q).2.1.length ≤ 100000000 ∧ (cut θ nm up (bG w.s w.now) w.roots q).2.2.length ≤ 100000000
 hn:∀ q:Qn,q.q.size ≤ 1000000 → (DX nm (bG w.s w.now) (Ne.ig w.m w.now) w.now q).nm.size ≤ 1000000
def K7 (θ:Th) (nm:Int → ByteArray → List ByteArray) (up:ByteArray → ByteArray × Bool) (w:Wd) (init:List Gl) (g:Gl) (sends:Int):(Stp × Bool) × Tk :=
 let c:=DX nm (bG w.s w.now) (Ne.ig w.m w.now) w.now g.q
 if c.e = 3 then Ze (cut θ nm up (bG w.s w.now) w.roots c.nm) w.work init g sends c.nm
 else if c.e ≠ 4 ∧ init = [] then ((⟨1,c,⟨#[]⟩,⟨⟨#[]⟩,0,0⟩,⟨#[]⟩⟩,true),⟨init ++ [g],sends⟩)
 else if c.e = 0 ∧ c.hits.length = 1 then ((abd,false),⟨init,sends⟩)
 else ((EZ,true),⟨init ++ [g],sends⟩)
theorem step_ok (S:Sk θ nm gt up ext) (w:Wd) (K:Wk θ nm up w) (hF:200000000000001 ≤ F) (init:List Gl) (g:Gl) (sends:Int) (hi:init.length ≤ 1000) (hs:sends ≤ 9223372036854775807) (hs2:-9223372036854775808 ≤ sends) (hg:g.q.q.size ≤ 1000000) (M:(Stp × Bool) × Tk) (hM:K7 θ nm up w init g sends = M) :
  G2 ext F (n + 6) 66 [w.v,Tk.pv ⟨init ++ [g],sends⟩] = some ([M.1.1.v,vb M.1.2],[w.v,M.2.pv]):=by
 refine dI (cf:=Lp) rfl ?_
 have fw:=fun n=>afT (F:=F) (n:=n) S w.s w.m w.now g.q K.fw
 have hcn:=K.hn g.q hg
 have hcc:=K.hc (DX nm (bG w.s w.now) (Ne.ig w.m w.now) w.now g.q).nm
 have hw1:IntKind.i64.wrap (((init.length + 1:Nat):Int) - 1) = (init.length:Int):=by rw [qh (by omega) (by omega)];omega
 have hge:∀ y,(init.map rG ++ [y])[init.length]? = some y:=fun y=>by have:=acv (init.map rG) y;rwa [ajb] at this
 have htk:∀ y,(init.map rG ++ [y]).take init.length = init.map rG:=fun y=>by rw [akU (by simp),akL (by simp)]
 have ms:=fun n=>Ic (F:=F) (n:=n) S w K.hd K.hy K.hr hF (DX nm (bG w.s w.now) (Ne.ig w.m w.now) w.now g.q).nm hcn _ rfl hcc.1 hcc.2 init g sends hi hs K.hw hs2 _ rfl
 have hz0:decide (((init.length + 1:Nat):Int) = 0) = false:=ajc (by omega)
 unfold K7 at hM
 generalize DX nm (bG w.s w.now) (Ne.ig w.m w.now) w.now g.q = c at *
 simp only at hM
 have hv:Tk.pv ⟨init ++ [g],sends⟩ = .one (.ptr [.own 5 (init.map rG ++ [[FV.str g.q.q,FV.int .i64 g.q.t,FV.int .i64 g.q.c,FV.str g.zone,FV.int .i64 g.tries]]),.f (.int .i64 sends)]):=by simp [Tk.pv,rG]
 by_cases h3:c.e = 3
 ·have h3':decide (c.e = 3) = true:=aja h3
  rw [ai8 h3] at hM
  rw [hM] at ms
  rw [hv] at ms ⊢
  dsimp only [Lp,av,dh,bB,bK,aG,bI,dR,eG,dF,aD,cK,dH,bP,aV];simp only [ajh,ajb,List.length_cons,List.length_nil,hz0,hw1,hge,htk,Int.toNat_natCast,fw,h3',ms,go_sem]
  first | exact ⟨by omega,by omega,by omega,rfl⟩ | omega
 ·have h3':decide (c.e = 3) = false:=ajc h3
  rw [ai9 h3] at hM
  clear ms
  by_cases h1:init = []
  ·have h7:decide (((init.length + 1:Nat):Int) = 1) = true:=aja (by rw [h1];rfl)
   by_cases h4:c.e = 4
   ·rw [ai9 (fun h=>h.1 h4),ai9 (fun h=>by rw [h4] at h;exact absurd h.1 (by decide))] at hM
    subst hM
    have h5:decide (c.e = 4) = true:=aja h4
    have h6:decide (c.e = 0) = false:=ajc (by omega)
    rw [hv]
    dsimp only [Lp,av,dh,bB,bK,aG,bI,dR,eG,dF,aD,cK,dH,bP,aV];simp only [ajh,ajb,List.length_cons,List.length_nil,hz0,hw1,hge,htk,Int.toNat_natCast,fw,h3',h5,h6,h7,go_sem]
    first | exact ⟨by omega,by omega,by omega,rfl⟩ | omega
   ·rw [ai8 ⟨h4,h1⟩] at hM
    subst hM
    have h5:decide (c.e = 4) = false:=ajc h4
    rw [hv]
    dsimp only [Lp,av,dh,bB,bK,aG,bI,dR,eG,dF,aD,cK,dH,bP,aV];simp only [ajh,ajb,List.length_cons,List.length_nil,hz0,hw1,hge,htk,Int.toNat_natCast,fw,h3',h5,h7,go_sem]
    first | exact ⟨by omega,by omega,by omega,rfl⟩ | omega
  ·have h7:decide (((init.length + 1:Nat):Int) = 1) = false:=ajc (by have:=List.length_pos_iff.mpr h1;omega)
   rw [ai9 (fun h=>h1 h.2)] at hM
   by_cases h4:c.e = 4
   ·rw [ai9 (fun h=>by rw [h4] at h;exact absurd h.1 (by decide))] at hM
    subst hM
    have h5:decide (c.e = 4) = true:=aja h4
    have h6:decide (c.e = 0) = false:=ajc (by omega)
    rw [hv]
    dsimp only [Lp,av,dh,bB,bK,aG,bI,dR,eG,dF,aD,cK,dH,bP,aV];simp only [ajh,ajb,List.length_cons,List.length_nil,hz0,hw1,hge,htk,Int.toNat_natCast,fw,h3',h5,h6,h7,go_sem]
    first | exact ⟨by omega,by omega,by omega,rfl⟩ | omega
   ·have h5:decide (c.e = 4) = false:=ajc h4
    by_cases h6:c.e = 0
    ·have h6':decide (c.e = 0) = true:=aja h6
     by_cases h8:c.hits.length = 1
     ·rw [ai8 ⟨h6,h8⟩] at hM
      subst hM
      have h9:decide ((c.hits.length:Int) = 1) = true:=aja (by omega)
      rw [hv]
      dsimp only [Lp,av,dh,bB,bK,aG,bI,dR,eG,dF,aD,cK,dH,bP,aV];simp only [ajh,ajb,List.length_cons,List.length_nil,hz0,hw1,hge,htk,Int.toNat_natCast,fw,h3',h5,h6',h7,h9,go_sem]
      exact ⟨by omega,by omega,by omega,by omega,rfl⟩
     ·rw [ai9 (fun h=>h8 h.2)] at hM
      subst hM
      have h9:decide ((c.hits.length:Int) = 1) = false:=ajc (by omega)
      rw [hv]
      dsimp only [Lp,av,dh,bB,bK,aG,bI,dR,eG,dF,aD,cK,dH,bP,aV];simp only [ajh,ajb,List.length_cons,List.length_nil,hz0,hw1,hge,htk,Int.toNat_natCast,fw,h3',h5,h6',h7,h9,go_sem]
      first | exact ⟨by omega,by omega,by omega,rfl⟩ | omega
    ·have h6':decide (c.e = 0) = false:=ajc h6
     rw [ai9 (fun h=>h6 h.1)] at hM
     subst hM
     rw [hv]
     dsimp only [Lp,av,dh,bB,bK,aG,bI,dR,eG,dF,aD,cK,dH,bP,aV];simp only [ajh,ajb,List.length_cons,List.length_nil,hz0,hw1,hge,htk,Int.toNat_natCast,fw,h3',h5,h6',h7,go_sem]
     first | exact ⟨by omega,by omega,by omega,rfl⟩ | omega
end
section
attribute [local go_sem_proc] Nat.reduceAdd Nat.reduceMul Nat.reduceEqDiff Nat.reduceBEq Nat.reduceMod Nat.reduceDiv reduceCtorEq
attribute [local go_sem_proc ↓] reduceIte
open Go Ev Kc
variable {θ : Th} {nm:Int → ByteArray → List ByteArray} {gt:ByteArray → Int → Int → Int × Bool} {up:ByteArray → ByteArray × Bool} {ext:Env} {F n:Nat}
def zV (θ:Th) (nm:Int → ByteArray → List ByteArray) (up:ByteArray → ByteArray × Bool) (w:Wd) (t:Tk):(Stp × Bool) × Tk :=
 match t.goals.getLast? with
 | none=>((EZ,true),t)
 | some g=>K7 θ nm up w t.goals.dropLast g t.sends
def nxt (θ:Th) (nm:Int → ByteArray → List ByteArray) (up:ByteArray → ByteArray × Bool) (w:Wd):Nat → Tk → Stp × Tk
 | 0,t=>(EZ,t)
 | f + 1,t=>if (zV θ nm up w t).1.2 = true then ((zV θ nm up w t).1.1,(zV θ nm up w t).2) else nxt θ nm up w f (zV θ nm up w t).2
theorem DF {w:Wd} {init:List Gl} {g:Gl} {s:Int}:zV θ nm up w ⟨init ++ [g],s⟩ = K7 θ nm up w init g s:=by simp [zV]
theorem DI {w:Wd} {s:Int}:zV θ nm up w ⟨[],s⟩ = ((EZ,true),⟨[],s⟩):=rfl
theorem Pg {l:List Gl} (h:l ≠ []):∃ init g,l = init ++ [g]:=⟨l.dropLast,l.getLast h,(List.dropLast_concat_getLast h).symm⟩
structure acw (t:Tk):Prop where
 g:∀ g ∈ t.goals,g.q.q.size ≤ 1000000
 lo:-9223372036854775808 ≤ t.sends
 hi:t.sends ≤ 9223372036854775807
theorem Ph (w:Wd) (sends:Int):G2 ext F (n + 6) 66 [w.v,Tk.pv ⟨[],sends⟩] = some ([EZ.v,vb true],[w.v,Tk.pv ⟨[],sends⟩]):=by
 refine dI (cf:=Lp) rfl ?_
 rw [show Tk.pv ⟨[],sends⟩ = .one (.ptr [.own 5 [],.f (.int .i64 sends)]) from rfl]
 have hz:decide (((0:Nat):Int) = 0) = true:=rfl
 dsimp only [Lp,av,dh,bB,bK,aG,bI,dR,eG,dF,aD,cK,dH,bP,aV];simp only [List.length_nil,hz,go_sem]
 try rfl
theorem Pj (S:Sk θ nm gt up ext) (w:Wd) (K:Wk θ nm up w) (hF:200000000000001 ≤ F) (t:Tk) (ht:t.goals.length ≤ 1000) (h:acw t) (M:(Stp × Bool) × Tk) (hM:zV θ nm up w t = M) :
  G2 ext F (n + 6) 66 [w.v,t.pv] = some ([M.1.1.v,vb M.1.2],[w.v,M.2.pv]):=by
 obtain ⟨l,s⟩:=t
 by_cases h0:l = []
 ·subst h0
  rw [DI] at hM
  subst hM
  exact Ph w s
 ·obtain ⟨init,g,rfl⟩:=Pg h0
  rw [DF] at hM
  simp only [ajh,List.length_singleton] at ht
  exact step_ok S w K hF init g s (by omega) h.hi h.lo (h.g g (by simp)) M hM
theorem FZ {pk:Qn → It × Bool} {fd:Qn → Ne.Nt × Bool} {now:Int}:∀ (f:Nat) (met:List ByteArray) (hits:List wX) (q:Qn),(EU nm pk fd now f met hits q).e = 0 → hits.length < (EU nm pk fd now f met hits q).hits.length
 | 0,met,hits,q,h=>absurd h (by simp [EU])
 | f + 1,met,hits,q,h=>by
  cases h1:tl pk now q with
  | some x=>simp only [EU,h1];simp
  | none =>
   cases h2:al nm pk now q with
   | none =>
    simp only [EU,h1,h2] at h
    unfold Kc.fin at h
    split at h
    ·simp only at h
     split at h <;> exact absurd h (by decide)
    ·simp only at h
     exact absurd h (by decide)
   | some p =>
    obtain ⟨x,ZZ8⟩:=p
    simp only [EU,h1,h2] at h ⊢
    split
    ·rename_i h3;rw [ai8 h3] at h;simp only at h;exact absurd h (by decide)
    ·rename_i h3
     rw [ai9 h3] at h
     have:=FZ f _ _ _ h
     simp only [ajh,List.length_singleton] at this
     omega
theorem Tn {pk:Qn → It × Bool} {fd:Qn → Ne.Nt × Bool} {now:Int} {q:Qn} (h0:(DX nm pk fd now q).e = 0) (h1:(DX nm pk fd now q).hits.length = 1):(pk q).2 = true:=by
 unfold DX at h0 h1
 cases hp:tl pk now q with
 | some x =>
  unfold tl at hp
  split at hp
  ·rename_i hh;exact hh.1
  ·cases hp
 | none =>
  cases ha:al nm pk now q with
  | none =>
   simp only [EU,hp,ha] at h1
   unfold Kc.fin at h1
   split at h1 <;> cases h1
  | some p =>
   obtain ⟨x,ZZ8⟩:=p
   rw [show (9:Nat) = 8 + 1 from rfl] at h0 h1
   rw [EU,hp,ha] at h0 h1
   simp only at h0 h1
   split at h0
   ·simp only at h0;exact absurd h0 (by decide)
   ·rename_i h3
    rw [ai9 h3] at h1
    have:=FZ _ _ _ _ h0
    simp only [ajh,List.length_singleton,List.length_nil] at this
    omega
theorem JD {pk:Qn → It × Bool}:∀ (l:List ByteArray) (a:List ByteArray × List ByteArray),(∀ x ∈ a.2,(pk ⟨x,1,1⟩).2 = false) → ∀ x ∈ (l.foldl (lg pk) a).2,(pk ⟨x,1,1⟩).2 = false
 | [],a,h=>h
 | y :: l,a,h=>JD l _ (by
  unfold lg
  split
  ·exact h
  ·rename_i hy
   intro x hx
   rcases ajE.mp hx with hx | hx
   ·exact h x hx
   ·rw [aj0.mp hx];exact ajP.mpr hy)
theorem XV {pk:Qn → It × Bool} {l:List ByteArray}:∀ x ∈ (Xc nm pk l).2,(pk ⟨x,1,1⟩).2 = false:=by
 have key:∀ (l:List ByteArray) (a:List ByteArray × List ByteArray),(∀ x ∈ a.2,(pk ⟨x,1,1⟩).2 = false) → ∀ x ∈ (l.foldl (wM nm pk) a).2,(pk ⟨x,1,1⟩).2 = false:=by
  intro l
  induction l with
  | nil=>intro a h;exact h
  | cons d l ih=>intro a h;exact ih _ (JD _ _ h)
 exact key l _ (fun x hx=>by simp at hx)
theorem JE {pk:Qn → It × Bool} {roots:List ByteArray}:∀ (f:Nat) (z:ByteArray),∀ x ∈ (lq nm up pk roots f z).2.2,(pk ⟨x,1,1⟩).2 = false
 | 0,z,x,h=>by simp [lq] at h
 | f + 1,z,x,h=>by
  unfold lq at h
  split at h
  ·exact XV x h
  ·split at h
   ·exact JE f _ x h
   ·simp at h
theorem Pk {pk:Qn → It × Bool} {roots:List ByteArray} {q:ByteArray}:∀ x ∈ (cut θ nm up pk roots q).2.2,(pk ⟨x,1,1⟩).2 = false:=by
 intro x h
 unfold cut at h
 split at h
 ·simp at h
 ·exact JE _ _ x h
def XW (nm:Int → ByteArray → List ByteArray) (w:Wd) (g:Gl):Bool:=decide ((DX nm (bG w.s w.now) (Ne.ig w.m w.now) w.now g.q).e = 0 ∧ (DX nm (bG w.s w.now) (Ne.ig w.m w.now) w.now g.q).hits.length = 1)
def rk (nm:Int → ByteArray → List ByteArray) (w:Wd) (t:Tk):Nat:=match t.goals.getLast? with
 | none=>0
 | some g=>if XW nm w g = true then t.goals.length + 5 else 4 - t.goals.length
theorem Pm {w:Wd} {init:List Gl} {g:Gl} {s:Int}:rk nm w ⟨init ++ [g],s⟩ = if XW nm w g = true then init.length + 6 else 3 - init.length:=by
 simp only [rk,List.getLast?_concat,ajh,List.length_singleton]
 split <;> omega
theorem U5 {w:Wd} {t:Tk}:rk nm w t ≤ t.goals.length + 5:=by
 unfold rk
 split
 ·omega
 ·split <;> omega
theorem JF {l:List Gl} {ns:List ByteArray} {x:ByteArray} (h:RI l ns = some x):x ∈ ns:=ak1 h
theorem XY {w:Wd} {t:Tk} (h:(zV θ nm up w t).1.2 = false):rk nm w (zV θ nm up w t).2 < rk nm w t:=by
 obtain ⟨l,s⟩:=t
 by_cases h0:l = []
 ·subst h0;rw [DI] at h;cases h
 ·obtain ⟨init,g,rfl⟩:=Pg h0
  rw [DF] at h ⊢
  rw [Pm]
  unfold K7 at h ⊢
  simp only at h ⊢
  split
  ·rename_i h3
   rw [ai8 h3] at h
   have hno:¬ XW nm w g = true:=fun hk=>by unfold XW at hk;have:=ajw hk;omega
   rw [ai9 hno]
   have hcn:=@Pk θ nm up (bG w.s w.now) w.roots (DX nm (bG w.s w.now) (Ne.ig w.m w.now) w.now g.q).nm
   generalize cut θ nm up (bG w.s w.now) w.roots _ = R at h hcn ⊢
   unfold Ze at h ⊢
   simp only at h ⊢
   split
   ·rename_i h4
    rw [ai8 h4] at h
    cases hf:RI (init ++ [vK R.1 g]) R.2.2 with
    | none=>rw [hf] at h;cases h
    | some x =>
     rw [hf] at h
     simp only at h ⊢
     split
     ·rename_i h5;rw [ai8 h5] at h;cases h
     ·rename_i h5
      rw [Pm]
      have hx:=hcn x (JF hf)
      have agT:¬ XW nm w ⟨⟨x,1,1⟩,⟨#[]⟩,0⟩ = true:=fun hk=>by
       unfold XW at hk
       obtain ⟨k1,k2⟩:=ajw hk
       have:=Tn k1 k2
       rw [hx] at this;cases this
      rw [ai9 agT]
      simp only [ajh,List.length_singleton] at h5 ⊢
      omega
   ·rename_i h4
    rw [ai9 h4] at h
    split at h <;> cases h
  ·rename_i h3
   rw [ai9 h3] at h
   split
   ·rename_i h4;rw [ai8 h4] at h;cases h
   ·rename_i h4
    rw [ai9 h4] at h
    split
    ·rename_i h5
     have hok:XW nm w g = true:=aja h5
     rw [ai8 hok]
     have:=@U5 nm w ⟨init,s⟩
     simp only at this
     show rk nm w ⟨init,s⟩ < _
     omega
    ·rename_i h5;rw [ai9 h5] at h;cases h
end
section
attribute [local go_sem_proc] Nat.reduceAdd Nat.reduceMul Nat.reduceEqDiff Nat.reduceBEq Nat.reduceMod Nat.reduceDiv reduceCtorEq
attribute [local go_sem_proc ↓] reduceIte
open Go Ev Kc
variable {θ : Th} {nm:Int → ByteArray → List ByteArray} {gt:ByteArray → Int → Int → Int × Bool} {up:ByteArray → ByteArray × Bool} {ext:Env} {F n:Nat}
theorem F4 {pk:Qn → It × Bool} {Q:ByteArray → Prop}:∀ (l:List ByteArray) (a:List ByteArray × List ByteArray),(∀ x ∈ l,Q x) → (∀ x ∈ a.2,Q x) → ∀ x ∈ (l.foldl (lg pk) a).2,Q x
 | [],a,_,h=>h
 | y :: l,a,hl,h=>F4 l _ (fun x hx=>hl x (by simp [hx])) (by
  unfold lg
  split
  ·exact h
  ·intro x hx
   rcases ajE.mp hx with hx | hx
   ·exact h x hx
   ·rw [aj0.mp hx];exact hl y (by simp))
theorem JG {pk:Qn → It × Bool} {Q:ByteArray → Prop} (hn:∀ d,∀ x ∈ nm 2 d,Q x):∀ (l:List ByteArray) (a:List ByteArray × List ByteArray),(∀ x ∈ a.2,Q x) → ∀ x ∈ (l.foldl (wM nm pk) a).2,Q x
 | [],a,h=>h
 | d :: l,a,h=>JG hn l _ (F4 _ _ (hn d) h)
theorem Tp {pk:Qn → It × Bool} {roots:List ByteArray} {q:ByteArray} {Q:ByteArray → Prop} (hn:∀ d,∀ x ∈ nm 2 d,Q x):∀ x ∈ (cut θ nm up pk roots q).2.2,Q x:=by
 have hF:∀ (f:Nat) (z:ByteArray),∀ x ∈ (lq nm up pk roots f z).2.2,Q x:=by
  intro f
  induction f with
  | zero=>intro z x h;simp [lq] at h
  | succ f ih =>
   intro z x h
   unfold lq at h
   split at h
   ·exact JG hn _ _ (fun y hy=>by simp at hy) x h
   ·split at h
    ·exact ih _ x h
    ·simp at h
 intro x h
 unfold cut at h
 split at h
 ·simp at h
 ·exact hF _ _ x h
structure XZ (t:Tk) (N:Nat):Prop extends acw t where
 len:t.goals.length ≤ N
theorem zA {z:ByteArray} {g:Gl}:(vK z g).q = g.q:=by unfold vK;split <;> rfl
theorem X0 (S:Sk θ nm gt up ext) {w:Wd} (hw:w.work ≤ 9223372036854775807) {t:Tk} {N:Nat} (hN:4 ≤ N) (h:XZ t N):XZ (zV θ nm up w t).2 N:=by
 obtain ⟨l,s⟩:=t
 obtain ⟨⟨h1,h2,h3⟩,h4⟩:=h
 simp only at h1 h2 h3 h4
 by_cases h0:l = []
 ·subst h0;rw [DI];exact ⟨⟨h1,h2,h3⟩,h4⟩
 obtain ⟨init,g,rfl⟩:=Pg h0
 rw [ajh,List.length_singleton] at h4
 rw [DF]
 have hg:=h1 g (by simp)
 have hi:=fun x hx=>h1 x (ajE.mpr (.inl hx))
 have same:XZ ⟨init ++ [g],s⟩ N:=⟨⟨h1,h2,h3⟩,by simpa using h4⟩
 unfold K7
 simp only
 split
 ·have hc:=@Tp θ nm up (bG w.s w.now) w.roots (DX nm (bG w.s w.now) (Ne.ig w.m w.now) w.now g.q).nm (fun x=>x.size ≤ 1000000) (fun d x hx=>by have:=(S.nl 2 d).2 x hx;omega)
  generalize cut θ nm up (bG w.s w.now) w.roots _ = R at hc ⊢
  have same':∀ g':Gl,g'.q = g.q → ∀ s', -9223372036854775808 ≤ s' → s' ≤ 9223372036854775807 → XZ ⟨init ++ [g'],s'⟩ N:=fun g' e s' a b=>⟨⟨fun x hx=>by
   rcases ajE.mp hx with hx | hx
   ·exact hi x hx
   ·rw [aj0.mp hx,e];exact hg,a,b⟩,by simpa using h4⟩
  unfold Ze
  simp only
  split
  ·cases hf:RI (init ++ [vK R.1 g]) R.2.2 with
   | none=>exact same' _ zA _ h2 h3
   | some x =>
    simp only
    split
    ·exact same' _ zA _ h2 h3
    ·rename_i h5
     rw [ajh,List.length_singleton] at h5
     refine ⟨⟨fun y hy=>?_,h2,h3⟩,by simp;omega⟩
     rcases ajE.mp hy with hy | hy
     ·exact (same' (vK R.1 g) zA s h2 h3).g y hy
     ·rw [aj0.mp hy];exact hc x (JF hf)
  ·split
   ·exact same' _ zA _ h2 h3
   ·rename_i h6
    exact same' ⟨(vK R.1 g).q,(vK R.1 g).zone,(vK R.1 g).tries + 1⟩ zA _ (by omega) (by omega)
 ·split
  ·exact same
  ·split
   ·exact ⟨⟨hi,h2,h3⟩,by show init.length ≤ N;omega⟩
   ·exact same
theorem Pn (S:Sk θ nm gt up ext) (q:Qn) (hq:q.q.size ≤ 1000000):G2 ext F (n + 2) 34 [q.v] = some ([(Tk.v ⟨[⟨⟨θ.low q.q,q.t,q.c⟩,⟨#[]⟩,0⟩],0⟩)],[q.v]):=by
 refine dI (cf:=c34) rfl ?_
 have h1:=fun n=>abe (F:=F) (n:=n) S q.q hq
 dsimp only [c34,av,dh,bB,bK,aG,bI,dR,eG,dF,aD,cK,dH,bP,aV];simp only [h1,go_sem]
 rfl
structure Cs where
 l:List Pt
 now:Int
 roots:List ByteArray
 work:Int
def rC (c:Cs):List FV:=[.sl (c.l.map rP),.int .i64 c.now,.sl (c.roots.map bA),.int .i64 c.work]
abbrev Cs.v (c:Cs):AV:=.agg [.f (.sl (c.l.map rP)),.f (.int .i64 c.now),.f (.sl (c.roots.map bA)),.f (.int .i64 c.work)]
abbrev Cs.ov (c:Cs):AV:=.agg [.own 10 (c.l.map rP),.f (.int .i64 c.now),.f (.sl (c.roots.map bA)),.f (.int .i64 c.work)]
def Cs.w (θ:Th) (gt:ByteArray → Int → Int → Int × Bool) (c:Cs):Wd:=⟨(nC θ gt c.l).1,(nC θ gt c.l).2,c.now,c.roots,c.work⟩
theorem F5 (S:Sk θ nm gt up ext) (c:Cs) (hl:c.l.length ≤ 1000) (hf:kZ c.l = true):G2 ext F (n + 2) 25 [c.v] = some ([(c.w θ gt).v],[c.v]):=by
 refine dI (cf:=NH) rfl ?_
 have h1:=fun n=>afY (F:=F) (n:=n) S c.l hl hf
 unfold Cs.w
 generalize (nC θ gt c.l).1 = s at h1 ⊢
 generalize (nC θ gt c.l).2 = m at h1 ⊢
 dsimp only [NH,av,dh,bB,bK,aG,bI,dR,eG,dF,aD,cK,dH,bP,aV];simp only [h1,go_sem]
 done
theorem vL (S:Sk θ nm gt up ext) (c:Cs) (hl:c.l.length ≤ 1000) (hf:kZ c.l = true):G2 ext F (n + 2) 25 [c.ov] = some ([(c.w θ gt).v],[c.ov]):=by
 refine dI (cf:=NH) rfl ?_
 have h1:=fun n=>afZ (F:=F) (n:=n) S c.l hl hf
 unfold Cs.w
 generalize (nC θ gt c.l).1 = s at h1 ⊢
 generalize (nC θ gt c.l).2 = m at h1 ⊢
 dsimp only [NH,av,dh,bB,bK,aG,bI,dR,eG,dF,aD,cK,dH,bP,aV];simp only [h1,go_sem]
 done
theorem zB (a:ByteArray) (k:Int) (d:ByteArray):G2 ext F (n + 1) 64 [vs a,vi k,vs d] = some ([(Se.v ⟨a,k,1,[d],99⟩)],[vs a,vi k,vs d]):=by
 refine dI (cf:=c64) rfl ?_
 dsimp only [c64,av,dh,bB,bK,aG,bI,dR,eG,dF,aD,cK,dH,bP,aV];simp only [go_sem]
 try rfl
end
section
attribute [local go_sem_proc] Nat.reduceAdd Nat.reduceMul Nat.reduceEqDiff Nat.reduceBEq Nat.reduceMod Nat.reduceDiv reduceCtorEq
attribute [local go_sem_proc ↓] reduceIte
open Go Ev Kc
variable {θ : Th} {nm:Int → ByteArray → List ByteArray} {gt:ByteArray → Int → Int → Int × Bool} {up:ByteArray → ByteArray × Bool} {ext:Env} {F n:Nat}
def nxT (w:Wd) (b:Bool) (x:Tk):St:=match b with
 | false=>⟨[(2,PV.c (CV.one (PL.ptr 60000 0))),(3,PV.c (CV.one (PL.ptr 80000 0))),(4,PV.c (CV.one (PL.ptr 100000 0))),(5,PV.c (CV.one (PL.ptr 120000 0)))],[(20201,Ob.eT [PL.f (FV.int IntKind.i64 w.s.room),PL.mp 20205,PL.f (FV.sl (List.map rQ w.s.o)),PL.f (FV.int IntKind.i64 w.s.ch)]),(20205,Ob.map kR (List.map ent w.s.m)),(20401,Ob.eT [PL.f (FV.int IntKind.i64 w.m.room),PL.mp 20405,PL.f (FV.sl (List.map rQ w.m.o)),PL.f (FV.int IntKind.i64 w.m.ch)]),(20405,Ob.map Ne.kR (List.map Ne.ent w.m.m)),(60000,Ob.eT [PL.ptr 20201 0,PL.ptr 20401 0,PL.f (FV.int IntKind.i64 w.now),PL.f (FV.sl (List.map bA w.roots)),PL.f (FV.int IntKind.i64 w.work)]),(80000,Ob.eT [PL.own 220200 (List.map rG x.goals).length,PL.f (FV.int IntKind.i64 x.sends)]),(100000,Ob.eT [PL.bY,PL.f (FV.int IntKind.i64 0)]),(120000,Ob.eT [PL.f (FV.int IntKind.i64 0),PL.bY,PL.f (FV.int IntKind.i64 0),PL.f (FV.str ⟨#[]⟩),PL.f (FV.str ⟨#[]⟩),PL.f (FV.int IntKind.i64 0),PL.f (FV.int IntKind.i64 0),PL.bY,PL.f (FV.int IntKind.i64 0),PL.f (FV.int IntKind.i64 0),PL.f (FV.str ⟨#[]⟩),PL.f (FV.str ⟨#[]⟩),PL.f (FV.int IntKind.i64 0),PL.f (FV.int IntKind.i64 0),PL.f (FV.str ⟨#[]⟩)]),(220200,Ob.row 5 (List.map rG x.goals))]⟩
 | true=>⟨[(2,PV.c (CV.one (PL.ptr 60000 0))),(3,PV.c (CV.one (PL.ptr 80000 0))),(4,PV.c (CV.one (PL.ptr 100000 0))),(5,PV.c (CV.one (PL.ptr 120000 0)))],[(20201,Ob.eT [PL.f (FV.int IntKind.i64 w.s.room),PL.mp 310004,PL.f (FV.sl (List.map rQ w.s.o)),PL.f (FV.int IntKind.i64 w.s.ch)]),(20401,Ob.eT [PL.f (FV.int IntKind.i64 w.m.room),PL.mp 310204,PL.f (FV.sl (List.map rQ w.m.o)),PL.f (FV.int IntKind.i64 w.m.ch)]),(60000,Ob.eT [PL.ptr 20201 0,PL.ptr 20401 0,PL.f (FV.int IntKind.i64 w.now),PL.f (FV.sl (List.map bA w.roots)),PL.f (FV.int IntKind.i64 w.work)]),(80000,Ob.eT [PL.own 220200 (List.map rG x.goals).length,PL.f (FV.int IntKind.i64 x.sends)]),(100000,Ob.eT [PL.bY,PL.f (FV.int IntKind.i64 0)]),(120000,Ob.eT [PL.f (FV.int IntKind.i64 0),PL.bY,PL.f (FV.int IntKind.i64 0),PL.f (FV.str ⟨#[]⟩),PL.f (FV.str ⟨#[]⟩),PL.f (FV.int IntKind.i64 0),PL.f (FV.int IntKind.i64 0),PL.bY,PL.f (FV.int IntKind.i64 0),PL.f (FV.int IntKind.i64 0),PL.f (FV.str ⟨#[]⟩),PL.f (FV.str ⟨#[]⟩),PL.f (FV.int IntKind.i64 0),PL.f (FV.int IntKind.i64 0),PL.f (FV.str ⟨#[]⟩)]),(220200,Ob.row 5 (List.map rG x.goals)),(310004,Ob.map kR (List.map ent w.s.m)),(310204,Ob.map Ne.kR (List.map Ne.ent w.m.m))]⟩
theorem U6 (w:Wd) (x:Tk):nxT w false x = ⟨[(2,PV.c (CV.one (PL.ptr 60000 0))),(3,PV.c (CV.one (PL.ptr 80000 0))),(4,PV.c (CV.one (PL.ptr 100000 0))),(5,PV.c (CV.one (PL.ptr 120000 0)))],[(20201,Ob.eT [PL.f (FV.int IntKind.i64 w.s.room),PL.mp 20205,PL.f (FV.sl (List.map rQ w.s.o)),PL.f (FV.int IntKind.i64 w.s.ch)]),(20205,Ob.map kR (List.map ent w.s.m)),(20401,Ob.eT [PL.f (FV.int IntKind.i64 w.m.room),PL.mp 20405,PL.f (FV.sl (List.map rQ w.m.o)),PL.f (FV.int IntKind.i64 w.m.ch)]),(20405,Ob.map Ne.kR (List.map Ne.ent w.m.m)),(60000,Ob.eT [PL.ptr 20201 0,PL.ptr 20401 0,PL.f (FV.int IntKind.i64 w.now),PL.f (FV.sl (List.map bA w.roots)),PL.f (FV.int IntKind.i64 w.work)]),(80000,Ob.eT [PL.own 220200 (List.map rG x.goals).length,PL.f (FV.int IntKind.i64 x.sends)]),(100000,Ob.eT [PL.bY,PL.f (FV.int IntKind.i64 0)]),(120000,Ob.eT [PL.f (FV.int IntKind.i64 0),PL.bY,PL.f (FV.int IntKind.i64 0),PL.f (FV.str ⟨#[]⟩),PL.f (FV.str ⟨#[]⟩),PL.f (FV.int IntKind.i64 0),PL.f (FV.int IntKind.i64 0),PL.bY,PL.f (FV.int IntKind.i64 0),PL.f (FV.int IntKind.i64 0),PL.f (FV.str ⟨#[]⟩),PL.f (FV.str ⟨#[]⟩),PL.f (FV.int IntKind.i64 0),PL.f (FV.int IntKind.i64 0),PL.f (FV.str ⟨#[]⟩)]),(220200,Ob.row 5 (List.map rG x.goals))]⟩:=rfl
theorem U7 (w:Wd) (x:Tk):nxT w true x = ⟨[(2,PV.c (CV.one (PL.ptr 60000 0))),(3,PV.c (CV.one (PL.ptr 80000 0))),(4,PV.c (CV.one (PL.ptr 100000 0))),(5,PV.c (CV.one (PL.ptr 120000 0)))],[(20201,Ob.eT [PL.f (FV.int IntKind.i64 w.s.room),PL.mp 310004,PL.f (FV.sl (List.map rQ w.s.o)),PL.f (FV.int IntKind.i64 w.s.ch)]),(20401,Ob.eT [PL.f (FV.int IntKind.i64 w.m.room),PL.mp 310204,PL.f (FV.sl (List.map rQ w.m.o)),PL.f (FV.int IntKind.i64 w.m.ch)]),(60000,Ob.eT [PL.ptr 20201 0,PL.ptr 20401 0,PL.f (FV.int IntKind.i64 w.now),PL.f (FV.sl (List.map bA w.roots)),PL.f (FV.int IntKind.i64 w.work)]),(80000,Ob.eT [PL.own 220200 (List.map rG x.goals).length,PL.f (FV.int IntKind.i64 x.sends)]),(100000,Ob.eT [PL.bY,PL.f (FV.int IntKind.i64 0)]),(120000,Ob.eT [PL.f (FV.int IntKind.i64 0),PL.bY,PL.f (FV.int IntKind.i64 0),PL.f (FV.str ⟨#[]⟩),PL.f (FV.str ⟨#[]⟩),PL.f (FV.int IntKind.i64 0),PL.f (FV.int IntKind.i64 0),PL.bY,PL.f (FV.int IntKind.i64 0),PL.f (FV.int IntKind.i64 0),PL.f (FV.str ⟨#[]⟩),PL.f (FV.str ⟨#[]⟩),PL.f (FV.int IntKind.i64 0),PL.f (FV.int IntKind.i64 0),PL.f (FV.str ⟨#[]⟩)]),(220200,Ob.row 5 (List.map rG x.goals)),(310004,Ob.map kR (List.map ent w.s.m)),(310204,Ob.map Ne.kR (List.map Ne.ent w.m.m))]⟩:=rfl
theorem Tq (S:Sk θ nm gt up ext) (w:Wd) (K:Wk θ nm up w) (hF:200000000000001 ≤ F) (t:Tk) (ht:XZ t 900) (R:Stp × Tk) (hR:nxt θ nm up w (t.goals.length + 6) t = R) :
  G2 ext F (n + 7) 26 [w.v,t.v] = some ([R.2.v,R.1.v],[w.v,t.v]):=by
 refine dI (cf:=c26) rfl ?_
 have cg:=fun n=>afX (F:=F) (n:=n) S t.goals (by have:=ht.len;omega)
 have htl:=ht.len
 dsimp only [c26,av,dh,bB,bK,aG,bI,dR,eG,dF,aD,cK,dH,bP,aV];simp only [cg,go_sem]
 refine rF (t.goals.length + 6) (fun x:Bool × Tk=>nxT w x.1 x.2) (fun i x=>XZ x.2 900 ∧ rk nm w x.2 + i < t.goals.length + 6 ∧ nxt θ nm up w (t.goals.length + 6 - i) x.2 = R) (by omega) (false,t) rfl ⟨ht,by have:=@U5 nm w t;show rk nm w t + 0 < _;omega,hR⟩ (fun i x hi hP=>?_) (fun x hP=>absurd hP.2.1 (by omega))
 obtain ⟨b,x⟩:=x
 obtain ⟨h1,h2,h3⟩:=hP
 simp only at h1 h2 h3 ⊢
 have st:=fun n=>Pj (F:=F) (n:=n) S w K hF x (by have:=h1.len;omega) h1.toacw _ rfl
 have hb:=X0 S K.hw (N:=900) (by decide) h1
 obtain ⟨f,hff⟩:∃ f,t.goals.length + 6 - i = f + 1:=⟨t.goals.length + 5 - i,by omega⟩
 rw [hff] at h3
 unfold nxt at h3
 have hrk:=@XY θ nm up w x
 generalize zV θ nm up w x = M at st hb h3 hrk
 obtain ⟨⟨M1,M2⟩,M3⟩:=M
 simp only at st hb h3 hrk
 cases M2 with
 | true =>
  rw [ai8 rfl] at h3
  subst h3
  cases b
  all_goals
   first | rw [U6] | rw [U7]
   simp only [st,go_sem]
   try rfl
 | false =>
  rw [ai9 aj6] at h3
  have hlt:=hrk rfl
  cases b
  all_goals
   first | rw [U6] | rw [U7]
   simp only [st,go_sem]
   exact ⟨(true,M3),rfl,hb,by show rk nm w M3 + (i + 1) < _;omega,by rw [show t.goals.length + 6 - (i + 1) = f from by omega];exact h3⟩
end
section
open Go Ev Kc
variable {θ : Th} {nm:Int → ByteArray → List ByteArray} {gt:ByteArray → Int → Int → Int × Bool} {up:ByteArray → ByteArray × Bool} {ext:Env} {F n:Nat}
theorem F6 {pk:Qn → It × Bool} (hp:∀ q,(pk q).1.d.length ≤ 60):∀ (l:List ByteArray) (a:List ByteArray × List ByteArray),(l.foldl (lg pk) a).1.length ≤ a.1.length + 60 * l.length ∧ (l.foldl (lg pk) a).2.length ≤ a.2.length + l.length
 | [],a=>by simp
 | y :: l,a=>by
  have:=F6 hp l (lg pk a y)
  have h2:(lg pk a y).1.length ≤ a.1.length + 60 ∧ (lg pk a y).2.length ≤ a.2.length + 1:=by
   have:=hp ⟨y,1,1⟩
   unfold lg
   split
   ·simp only [ajh];omega
   ·simp only [ajh,List.length_singleton];omega
  simp only [List.foldl_cons,List.length_cons]
  omega
theorem JH {pk:Qn → It × Bool} (hp:∀ q,(pk q).1.d.length ≤ 60) (hn:∀ d,(nm 2 d).length ≤ 2):∀ (l:List ByteArray) (a:List ByteArray × List ByteArray),(l.foldl (wM nm pk) a).1.length ≤ a.1.length + 120 * l.length ∧ (l.foldl (wM nm pk) a).2.length ≤ a.2.length + 2 * l.length
 | [],a=>by simp
 | y :: l,a=>by
  have h1:=JH hp hn l (wM nm pk a y)
  have h2:=F6 hp (nm 2 y) a
  have h3:=hn y
  have h4:(wM nm pk a y).1.length ≤ a.1.length + 120 ∧ (wM nm pk a y).2.length ≤ a.2.length + 2:=by
   unfold wM;omega
  simp only [List.foldl_cons,List.length_cons]
  omega
theorem Tt {pk:Qn → It × Bool} (hp:∀ q,(pk q).1.d.length ≤ 60) (hn:∀ d,(nm 2 d).length ≤ 2) {roots:List ByteArray} (hr:roots.length ≤ 1000000) (q:ByteArray):(cut θ nm up pk roots q).2.1.length ≤ 1000000 ∧ (cut θ nm up pk roots q).2.2.length ≤ 1000000:=by
 have hF:∀ (f:Nat) (z:ByteArray),(lq nm up pk roots f z).2.1.length ≤ 1000000 ∧ (lq nm up pk roots f z).2.2.length ≤ 1000000:=by
  intro f
  induction f with
  | zero=>intro z;exact ⟨hr,by simp [lq]⟩
  | succ f ih =>
   intro z
   unfold lq
   split
   ·have h1:=JH hp hn (pk ⟨z,2,1⟩).1.d ([],[])
    have h2:=hp ⟨z,2,1⟩
    simp only [List.length_nil] at h1
    unfold Xc
    simp only
    omega
   ·split
    ·exact ih _
    ·exact ⟨hr,by simp⟩
 unfold cut
 split
 ·simp
 ·exact hF _ _
theorem Po {pk:Qn → It × Bool} {fd:Qn → Ne.Nt × Bool} {now:Int} (hn:∀ d,∀ x ∈ nm 5 d,x.size ≤ 255):∀ (f:Nat) (met:List ByteArray) (hits:List wX) (q:Qn),q.q.size ≤ 1000000 → (EU nm pk fd now f met hits q).nm.size ≤ 1000000
 | 0,met,hits,q,h=>h
 | f + 1,met,hits,q,h=>by
  cases h1:tl pk now q with
  | some x=>simp only [EU,h1];exact h
  | none =>
   cases h2:al nm pk now q with
   | none =>
    simp only [EU,h1,h2]
    unfold Kc.fin
    split <;> exact h
   | some p =>
    obtain ⟨x,ZZ8⟩:=p
    simp only [EU,h1,h2]
    split
    ·exact h
    ·refine Po hn f _ _ _ ?_
     unfold al at h2
     split at h2
     ·cases h2
     ·obtain ⟨y,hy,h3⟩:=zbm h2
      obtain ⟨z,hz,h4⟩:=zmm h3
      cases h4
      unfold tg at hz
      split at hz
      ·obtain ⟨d, -,hd⟩:=zbm hz
       have:=hn d ZZ8 (List.mem_of_mem_head? hd)
       show ZZ8.size ≤ 1000000
       omega
      ·cases hz
theorem X3 {pk:Qn → It × Bool} {fd:Qn → Ne.Nt × Bool} {now:Int} (hn:∀ d,∀ x ∈ nm 5 d,x.size ≤ 255) (q:Qn) (h:q.q.size ≤ 1000000):(DX nm pk fd now q).nm.size ≤ 1000000:=Po hn 9 _ _ q h
theorem acy {s:Sv} {now:Int} (h:∀ x ∈ s.m,x.d.length ≤ 60) (q:Qn):(bG s now q).1.d.length ≤ 60:=by
 unfold bG
 split
 ·rename_i x ho
  split
  ·exact h x (l6 ho).2
  ·exact ajO _
 ·exact ajO _
theorem X4 {l:List Pt} (hf:kZ l = true):∀ x ∈ (nC θ gt l).1.m,x.d.length ≤ 60:=fun x hx=>by
 obtain ⟨p,hp, -,rfl⟩:=(fiA (θ:=θ) (gt:=gt) l).s.it x hx
 have:=ajp.mp hf p hp
 rw [ajg] at this
 exact (Ba this.1).2.1
theorem U8 (S:Sk θ nm gt up ext) (c:Cs) (hf:kZ c.l = true) (hr:c.roots.length ≤ 1000000) (hw:c.work ≤ 9223372036854775807):Wk θ nm up (c.w θ gt):=by
 have W:=(fiA (θ:=θ) (gt:=gt) c.l).w hf
 refine ⟨W,W.hd,W.hy,hr,hw,fun q=>?_,fun q h=>X3 (fun d x hx=>(S.nl 5 d).2 x hx) q h⟩
 have:=Tt (θ:=θ) (nm:=nm) (up:=up) (pk:=bG (c.w θ gt).s (c.w θ gt).now) (acy (X4 hf)) (fun d=>(S.nl 2 d).1) (roots:=c.roots) hr q
 exact ⟨aju this.1 (by decide),aju this.2 (by decide)⟩
end
section
open Go Ev Kc
theorem X5 {m:ByteArray} (h:B.gN m = true):B.up (B.gU m) = if (B.up m).2 = true then (B.gU (B.up m).1,true) else (⟨#[]⟩,false):=by
 obtain ⟨l,rfl,hok,hz⟩:=B.lH.mp h
 cases l with
 | nil =>
  rw [B.kP,ZQ.BJ,B.Di]
  rfl
 | cons x l =>
  have hok':∀ y ∈ l,B.wY y:=fun y hy=>hok y (by simp [hy])
  have hz':(B.enc (List.map B.gU (x :: l))).size ≤ 255:=by rw [← ZQ.oF _ hok,ZQ.kG];exact hz
  rw [ZQ.oF _ hok,B.yU hok hz]
  rw [ajk] at hz' ⊢
  rw [B.yU (by have:=ZQ.JJ hok;rwa [ajk] at this) hz']
  simp [ZQ.oF _ hok']
theorem Ie {m:ByteArray} (h:(B.up m).2 = true):B.gN (B.up m).1 = true:=by
 obtain ⟨x,l,e,hok,hz,h2⟩:=B.Dj h
 rw [h2]
 refine B.lH.mpr ⟨l,rfl,fun y hy=>hok y (by simp [hy]),?_⟩
 rw [e,B.jE,ajs] at hz
 omega
theorem JK {m:ByteArray} (h:B.gN m = true) (h2:(B.up m).2 = false):m = RJ:=by
 obtain ⟨l,rfl,hok,hz⟩:=B.lH.mp h
 cases l with
 | nil=>rw [B.kP];rfl
 | cons x l=>rw [B.yU hok hz] at h2;cases h2
theorem DL {m:ByteArray} (h:B.gN m = true):m ≠ ⟨#[]⟩:=by
 rintro rfl
 exact absurd h (by decide +kernel)
theorem Pq : B.gN RJ = true:=by decide +kernel
def Zf (Lu:ByteArray → ByteArray → Bool) (up:ByteArray → ByteArray × Bool):Nat → ByteArray → ByteArray → Bool
 | 0,_,_=>false
 | f + 1,m,z=>if Lu m z = true then true else if (up m).2 = true then Zf Lu up f (up m).1 z else false
def in_ (gN:ByteArray → Bool) (Lu:ByteArray → ByteArray → Bool) (up:ByteArray → ByteArray × Bool) (m z:ByteArray):Bool:=if gN m = true then Zf Lu up (m.size + 1) m z else false
theorem U9 {m:ByteArray} (h:(B.up m).2 = true):(B.up m).1.size < m.size:=by
 obtain ⟨x,l,e,hok, -,h2⟩:=B.Dj h
 rw [h2,e,B.jE,ajs,ajs,B.l7];omega
theorem Pv {m:ByteArray} (h:B.gN m = true):B.same m (B.gU m) = true:=by
 unfold B.same
 rw [h,ZQ.DK h,ZQ.K8]
 simp
theorem JL {nm:Int → ByteArray → List ByteArray} {pk:Qn → It × Bool} {roots:List ByteArray}:∀ (f k:Nat) (m:ByteArray),B.gN m = true → m.size < f → m.size < k → Zf B.same B.up k m (lq nm B.up pk roots f (B.gU m)).1 = true
 | 0,_,_,_,h,_=>absurd h (by omega)
 | _,0,_,_,_,h=>absurd h (by omega)
 | f + 1,k + 1,m,hm,h1,h2=>by
  unfold lq Zf
  rw [X5 hm]
  by_cases hp:(pk ⟨B.gU m,2,1⟩).2 = true
  ·rw [ai8 hp,ai8 (Pv hm)]
  ·rw [ai9 hp]
   cases hu:(B.up m).2 with
   | true =>
    simp only [ajH]
    split
    ·rfl
    ·have:=U9 hu
     exact JL f k _ (Ie hu) (by omega) (by omega)
   | false =>
    have e:=JK hm hu
    simp only [ajB,ajv]
    rw [e,ai8 (by decide +kernel)]
theorem X6 {nm:Int → ByteArray → List ByteArray} {pk:Qn → It × Bool} {roots:List ByteArray} {m:ByteArray} (h:B.gN m = true):in_ B.gN B.same B.up m (cut fB nm B.up pk roots m).1 = true:=by
 have e:fB.low m = B.gU m:=by show vI m = _;unfold vI;rw [ai8 h]
 unfold in_ cut
 rw [ai8 h,e,ai9 (DL (ZQ.DK h)),ZQ.kG]
 exact JL _ _ _ h (by omega) (by omega)
theorem F8 {nm:Int → ByteArray → List ByteArray} {pk:Qn → It × Bool} {roots:List ByteArray} {m:ByteArray} (h:B.gN m = false):cut fB nm B.up pk roots m = (⟨#[]⟩,[],[]):=by
 have e:fB.low m = ⟨#[]⟩:=by show vI m = _;unfold vI;rw [ai9 (by rw [h];decide)]
 unfold cut
 rw [e,ai8 rfl]
end
section
attribute [local go_sem_proc] Nat.reduceAdd Nat.reduceMul Nat.reduceEqDiff Nat.reduceBEq Nat.reduceMod Nat.reduceDiv reduceCtorEq
attribute [local go_sem_proc ↓] reduceIte
open Go Ev Kc
variable {ext : Env} {F n:Nat}
structure NmL (gN:ByteArray → Bool) (Lu:ByteArray → ByteArray → Bool) (up:ByteArray → ByteArray × Bool) (ext:Env):Prop where
 c:∀ q,q.size ≤ 1000000 → ext 42 [vs q] = some ([vb (gN q)],[vs q])
 s:∀ q z,q.size ≤ 1000000 → z.size ≤ 1000000 → ext 75 [vs q,vs z] = some ([vb (Lu q z)],[vs q,vs z])
 u:∀ q,q.size ≤ 1000000 → ext 44 [vs q] = some ([vs (up q).1,vb (up q).2],[vs q])
theorem yy {f:FuncId} (h:Ev.look pG f = none) (dS:List AV) (r) (he:ext f dS = some r) (n:Nat):G2 ext F (n + 1) f dS = some r:=(ajM (iE h) _).trans he
theorem X7 {gN:ByteArray → Bool} {Lu:ByteArray → ByteArray → Bool} {up:ByteArray → ByteArray × Bool} (E:NmL gN Lu up ext) (us:∀ q,(up q).2 = true → (up q).1.size < q.size) (m z:ByteArray) (hm:m.size ≤ 1000000) (hz:z.size ≤ 1000000) (hF:200000000000001 ≤ F):G2 ext F (n + 2) 40 [vs m,vs z] = some ([vb (in_ gN Lu up m z)],[vs m,vs z]):=by
 refine dI (cf:=c40) rfl ?_
 have h1:=fun n=>yy (F:=F) (f:=42) rfl _ _ (E.c m hm) n
 generalize hR:in_ gN Lu up m z = R
 unfold in_ at hR
 cases hc:gN m with
 | false =>
  rw [hc] at h1 hR
  simp only [ajB,ajv] at hR
  subst hR
  dsimp only [c40,av,dh,bB,bK,aG,bI,dR,eG,dF,aD,cK,dH,bP,aV];simp only [h1,go_sem]
  refine rF 1 (fun _:Unit=>⟨[(0,PV.c (CV.one (PL.f (FV.str m)))),(1,PV.c (CV.one (PL.f (FV.str z)))),(5,PV.c (CV.one (PL.f (FV.bool false))))],[]⟩) (fun i _=>i = 0) (by omega) () rfl rfl (fun i x hi hP=>?_) (fun x hP=>absurd hP (by decide))
  simp only [go_sem]
  try rfl
 | true =>
  rw [hc] at h1 hR
  simp only [ajH] at hR
  dsimp only [c40,av,dh,bB,bK,aG,bI,dR,eG,dF,aD,cK,dH,bP,aV];simp only [h1,go_sem]
  refine rF (m.size + 2) (fun x:ByteArray × Bool=>⟨[(0,PV.c (CV.one (PL.f (FV.str x.1)))),(1,PV.c (CV.one (PL.f (FV.str z)))),(5,PV.c (CV.one (PL.f (FV.bool x.2))))],[]⟩) (fun i x=>i ≤ m.size + 1 ∧ (x.2 = true → x.1.size + i ≤ m.size ∧ Zf Lu up (m.size + 1 - i) x.1 z = R) ∧ (x.2 = false → R = false)) (by omega) (m,true) rfl ⟨by omega,fun _=>⟨by simp,hR⟩,fun h=>by cases h⟩ (fun i x hi hP=>?_) (fun x hP=>absurd hP.1 (by omega))
  obtain ⟨y,b⟩:=x
  obtain ⟨hP0,hP1,hP2⟩:=hP
  cases b with
  | false =>
   obtain rfl:=hP2 rfl
   simp only [go_sem]
   try rfl
  | true =>
   obtain ⟨hs,hi2⟩:=hP1 rfl
   simp only at hs hi2 ⊢
   obtain ⟨f,hf⟩:∃ f,m.size + 1 - i = f + 1:=⟨m.size - i,by omega⟩
   rw [hf] at hi2
   unfold Zf at hi2
   have h2:=fun n=>yy (F:=F) (f:=75) rfl _ _ (E.s y z (by omega) hz) n
   have h3:=fun n=>yy (F:=F) (f:=44) rfl _ _ (E.u y (by omega)) n
   cases hsm:Lu y z with
   | true =>
    rw [hsm] at h2
    rw [ai8 hsm] at hi2
    subst hi2
    simp only [h2,go_sem]
    try rfl
   | false =>
    rw [hsm] at h2
    rw [ai9 (by rw [hsm];decide)] at hi2
    cases hu:(up y).2 with
    | true =>
     rw [hu] at h3
     rw [ai8 hu] at hi2
     have:=us y hu
     simp only [h2,h3,go_sem]
     exact ⟨((up y).1,true),rfl,by omega,fun _=>⟨by show (up y).1.size + (i + 1) ≤ _;omega,by rw [show m.size + 1 - (i + 1) = f from by omega];exact hi2⟩,fun h=>by cases h⟩
    | false =>
     rw [hu] at h3
     rw [ai9 (by rw [hu];decide)] at hi2
     simp only [h2,h3,go_sem]
     exact ⟨((up y).1,false),rfl,by omega,(fun h=>by cases h),fun _=>hi2.symm⟩
theorem K9 (l m:List ByteArray) (hl:l.length ≤ 1000000000000) (hF:200000000000001 ≤ F):G2 ext F (n + 1) 38 [vl (l.map bA),vl (m.map bA)] = some ([vb (decide (l = m))],[vl (l.map bA),vl (m.map bA)]):=by
 refine dI (cf:=PN) rfl ?_
 dsimp only [PN,av,dh,bB,bK,aG,bI,dR,eG,dF,aD,cK,dH,bP,aV];simp only [ajb,go_sem]
 repeat' (refine dU (fun h=>?_) (fun h=>?_) <;> simp only [h,ajb,go_sem])
 ·have hlen:l.length = m.length:=by simp at h;omega
  refine MS l.length (fun i=>⟨[(0,PV.c (CV.one (PL.f (FV.sl (l.map bA))))),(1,PV.c (CV.one (PL.f (FV.sl (m.map bA))))),(5,PV.c (CV.one (PL.f (FV.int .i64 i))))],[]⟩) (fun i=>l.take i = m.take i) (by omega) rfl (fun i hi hP=>?_) (fun hP=>?_)
  ·obtain ⟨x,hx,hd,ht,h0⟩:=at_ hi
   obtain ⟨y,hy,_⟩:=at_ (l:=m) (i:=i) (by omega)
   have hn:=nx hi (aju hl (by decide))
   simp only [ajb,ajf,hd,hx,hy,ht,h0,bA,go_sem]
   repeat' (refine dU (fun h=>?_) (fun h=>?_) <;> simp only [h,ajb,ajf,hd,hx,hy,ht,h0,hn,bA,go_sem])
   ·rw [ajX,ajX,hP,hx,hy]
    simp at h
    rw [h]
   ·have:l ≠ m:=by rintro rfl;rw [hx] at hy;cases hy;simp at h
    simp [this]
  ·have hd:=@end_ _ l
   simp only [ajb,hd,go_sem]
   repeat' (refine dU (fun h=>?_) (fun h=>?_) <;> simp only [h,ajb,hd,go_sem])
   have:l = m:=by rw [← ajS (l:=l),hP,hlen,ajS]
   simp [this]
 ·have:l ≠ m:=by rintro rfl;simp at h
  simp [this]
end
section
attribute [local go_sem_proc] Nat.reduceAdd Nat.reduceMul Nat.reduceEqDiff Nat.reduceBEq Nat.reduceMod Nat.reduceDiv reduceCtorEq
attribute [local go_sem_proc ↓] reduceIte
open Go Ev Kc
variable {θ : Th} {nm:Int → ByteArray → List ByteArray} {gt:ByteArray → Int → Int → Int × Bool} {up:ByteArray → ByteArray × Bool} {ext:Env} {F n:Nat}
abbrev Pw (c:Cs):Prop:=(kZ c.l = true ∧ (c.l.length:Int) ≤ 40) ∧ (c.roots.length:Int) ≤ 20
theorem Ig (hs:∀ (l:List Pt) (m:Int),l.length ≤ 200000000000000 → (∀ x ∈ l,x.s.d.length ≤ 200000000000000) → ext 10 [vl (l.map rP),vi m] = some ([vi (if kZ l = true ∧ (l.length:Int) ≤ m then 1 else 0)],[vl (l.map rP),vi m])) (c:Cs) (hl:c.l.length ≤ 200000000000000) (hd:∀ x ∈ c.l,x.s.d.length ≤ 200000000000000) (hr:c.roots.length ≤ 200000000000000):G2 ext F (n + 2) 23 [c.v] = some ([vb (decide (Pw c))],[c.v]):=by
 refine dI (cf:=c23) rfl ?_
 have h1:=fun n=>(ajM (iE (pG:=pG) (ext:=ext) (F:=F) (n:=n) (f:=10) rfl) _).trans (hs c.l 40 hl hd)
 by_cases h:kZ c.l = true ∧ (c.l.length:Int) ≤ 40
 ·rw [ai8 h] at h1
  have z1:decide ((1:Int) = 1) = true:=rfl
  by_cases h2:(c.roots.length:Int) ≤ 20
  ·have h2':decide ((c.roots.length:Int) ≤ 20) = true:=aja h2
   rw [aja (show Pw c from ⟨h,h2⟩)]
   dsimp only [c23,av,dh,bB,bK,aG,bI,dR,eG,dF,aD,cK,dH,bP,aV];simp only [h1,z1,h2',ajb,go_sem]
   try rfl
  ·have h2':decide ((c.roots.length:Int) ≤ 20) = false:=ajc h2
   rw [ajc (show ¬ Pw c from fun x=>h2 x.2)]
   dsimp only [c23,av,dh,bB,bK,aG,bI,dR,eG,dF,aD,cK,dH,bP,aV];simp only [h1,z1,h2',ajb,go_sem]
   try rfl
 ·rw [ai9 h] at h1
  have z1:decide ((0:Int) = 1) = false:=rfl
  rw [ajc (show ¬ Pw c from fun x=>h x.1)]
  dsimp only [c23,av,dh,bB,bK,aG,bI,dR,eG,dF,aD,cK,dH,bP,aV];simp only [h1,z1,go_sem]
  try rfl
end
section
attribute [local go_sem_proc] Nat.reduceAdd Nat.reduceMul Nat.reduceEqDiff Nat.reduceBEq Nat.reduceMod Nat.reduceDiv reduceCtorEq
attribute [local go_sem_proc ↓] reduceIte
open Go Ev Kc
variable {nm : Int → ByteArray → List ByteArray} {gt:ByteArray → Int → Int → Int × Bool} {ext:Env} {F n:Nat}
structure ExZ (ext:Env):Prop where
 sm:∀ (l:List Pt) (m:Int),l.length ≤ 200000000000000 → (∀ x ∈ l,x.s.d.length ≤ 200000000000000) → ext 10 [vl (l.map rP),vi m] = some ([vi (if kZ l = true ∧ (l.length:Int) ≤ m then 1 else 0)],[vl (l.map rP),vi m])
 rl:∀ q,q.size ≤ 1000000 → ext 41 [vs q] = some ([vs (vI q)],[vs q])
 nl:NmL B.gN B.same B.up ext
theorem BK {up:ByteArray → ByteArray × Bool} {pk:Qn → It × Bool} {roots:List ByteArray} {f:Nat} {z:ByteArray}:lq nm up pk roots (f + 1) z = if (pk ⟨z,2,1⟩).2 = true then (z,Xc nm pk (pk ⟨z,2,1⟩).1.d) else if (up z).2 = true then lq nm up pk roots f (up z).1 else (RJ,roots,[]):=rfl
theorem Tw {pk:Qn → It × Bool} {roots:List ByteArray} {f:Nat} {z:ByteArray} (hz:B.gN z = true) (hne:(lq nm B.up pk roots (f + 1) z).1 ≠ z):(pk ⟨z,2,1⟩).2 = false ∧ (B.up z).2 = true ∧ lq nm B.up pk roots (f + 1) z = lq nm B.up pk roots f (B.up z).1:=by
 rw [BK] at hne ⊢
 by_cases hp:(pk ⟨z,2,1⟩).2 = true
 ·rw [ai8 hp] at hne;exact absurd rfl hne
 ·rw [ai9 hp] at hne ⊢
  by_cases hu:(B.up z).2 = true
  ·rw [ai8 hu] at hne ⊢;exact ⟨ajP.mpr hp,hu,rfl⟩
  ·rw [ai9 hu] at hne
   exact absurd (JK hz (ajP.mpr hu)).symm hne
theorem Px {pk:Qn → It × Bool} {roots:List ByteArray}:∀ (f:Nat) (z:ByteArray),B.gN z = true → B.gN (lq nm B.up pk roots f z).1 = true
 | 0,z,_=>Pq
 | f + 1,z,h=>by
  rw [BK]
  split
  ·exact h
  ·split
   ·rename_i hu;exact Px f _ (Ie hu)
   ·exact Pq
theorem X8 {z:ByteArray} (h:B.gN z = true):z.size ≤ 255:=by obtain ⟨l, -, -,h⟩:=B.lH.mp h;exact h
theorem JM {pk:Qn → It × Bool} {roots:List ByteArray}:∀ (f:Nat) (z:ByteArray),((pk ⟨(lq nm B.up pk roots f z).1,2,1⟩).2 = true) ∨ lq nm B.up pk roots f z = (RJ,roots,[])
 | 0,z=>.inr rfl
 | f + 1,z=>by
  unfold lq
  by_cases hp:(pk ⟨z,2,1⟩).2 = true
  ·rw [ai8 hp];exact .inl hp
  ·rw [ai9 hp]
   by_cases hu:(B.up z).2 = true
   ·rw [ai8 hu];exact JM f _
   ·rw [ai9 hu];exact .inr rfl
theorem DN (S:Sk fB nm gt B.up ext) (hv:∀ n,G2 ext F (n + 8) 24 [] = some ([vb true],[])) (E:ExZ ext) (hF:200000000000001 ≤ F) (c:Cs) (q:ByteArray) (hl:c.l.length ≤ 200000000000000) (hd:∀ x ∈ c.l,x.s.d.length ≤ 200000000000000) (hr:c.roots.length ≤ 200000000000000) (hw:c.work ≤ 9223372036854775807):G2 ext F (n + 9) 8 [c.v,vs q] = some ([vb true],[c.v,vs q]):=by
 refine dI (cf:=c8) rfl ?_
 have hs:=fun n=>Ig (F:=F) (n:=n) E.sm c hl hd hr
 by_cases h1:Pw c
 case neg =>
  rw [ajc h1] at hs
  dsimp only [c8,av,dh,bB,bK,aG,bI,dR,eG,dF,aD,cK,dH,bP,aV];simp only [hs,hv,go_sem]
  try rfl
 rw [aja h1] at hs
 by_cases h3:q.size ≤ 300
 case neg =>
  have h3':decide ((300:Int) < (q.size:Int)) = true:=aja (by omega)
  dsimp only [c8,av,dh,bB,bK,aG,bI,dR,eG,dF,aD,cK,dH,bP,aV];simp only [hs,hv,h3',go_sem]
  try rfl
 have h3':decide ((300:Int) < (q.size:Int)) = false:=ajc (by omega)
 have K:=U8 S c h1.1.1 (by omega) hw
 have wd:=fun n=>F5 (F:=F) (n:=n) (gt:=gt) S c (by omega) h1.1.1
 have ct:=fun n=>Pf (F:=F) (n:=n) S (c.w fB gt) K.hd K.hy K.hr hF q (by omega) _ rfl
 have pk:=fun n x=>Xb (F:=F) (n:=n) S (c.w fB gt).s (c.w fB gt).now ⟨x,2,1⟩ K.hd
 have pk1:=fun n x=>Xb (F:=F) (n:=n) S (c.w fB gt).s (c.w fB gt).now ⟨x,1,1⟩ K.hd
 have rl:=fun n=>yy (F:=F) (f:=41) rfl _ _ (E.rl q (by omega)) n
 have hck:=fun n=>yy (F:=F) (f:=42) rfl _ _ (E.nl.c q (by omega)) n
 have hno:=@Pk fB nm B.up (bG (c.w fB gt).s (c.w fB gt).now) (c.w fB gt).roots q
 have hcc:=K.hc q
 have agV:(c.w fB gt).now = c.now:=rfl
 have X9:(c.w fB gt).roots = c.roots:=rfl
 rw [agV] at pk pk1 hno hcc
 rw [X9] at hno hcc
 change ∀ n,_ = some ([vs (cut fB nm B.up (bG (c.w fB gt).s c.now) c.roots q).1,vl ((cut fB nm B.up (bG (c.w fB gt).s c.now) c.roots q).2.1.map bA),vl ((cut fB nm B.up (bG (c.w fB gt).s c.now) c.roots q).2.2.map bA)],_) at ct
 cases hn:B.gN q with
 | false =>
  rw [hn] at hck
  rw [F8 hn] at ct
  generalize c.w fB gt = w at *
  have z0:decide ((⟨#[]⟩:ByteArray) = ⟨#[]⟩) = true:=rfl
  have z1:decide (((0:Nat):Int) = 0) = true:=rfl
  dsimp only [c8,av,dh,bB,bK,aG,bI,dR,eG,dF,aD,cK,dH,bP,aV];simp only [hs,h3',wd,ct,z0,hck,z1,hv,ajn,List.length_nil,go_sem]
  try rfl
 | true =>
  have hin:=@X6 nm (bG (c.w fB gt).s c.now) c.roots q hn
  have hzl:fB.low q = B.gU q:=by show vI q = _;unfold vI;rw [ai8 hn]
  have hzN:=ZQ.DK hn
  have hce:cut fB nm B.up (bG (c.w fB gt).s c.now) c.roots q = lq nm B.up (bG (c.w fB gt).s c.now) c.roots ((B.gU q).size + 1) (B.gU q):=by
   unfold cut;rw [hzl,ai9 (DL hzN)]
  have his:=@JM nm (bG (c.w fB gt).s c.now) c.roots ((B.gU q).size + 1) (B.gU q)
  rw [← hce] at his
  have hzs:(B.gU q).size ≤ 300:=by rw [ZQ.kG];exact h3
  have hRN:B.gN (cut fB nm B.up (bG (c.w fB gt).s c.now) c.roots q).1 = true:=by rw [hce];exact Px _ _ hzN
  generalize hR:cut fB nm B.up (bG (c.w fB gt).s c.now) c.roots q = R at *
  have hRs:=X8 hRN
  have hRe:decide (R.1 = ⟨#[]⟩) = false:=ajc (DL hRN)
  have hi:=fun n=>X7 (F:=F) (n:=n) E.nl S.us q R.1 (by omega) (by omega) hF
  rw [hin] at hi
  have hlq:vI q = B.gU q:=hzl
  rw [hlq] at rl
  have hu:=fun n x (h:x.size ≤ 1000000)=>yy (F:=F) (f:=44) rfl _ _ (E.nl.u x h) n
  generalize B.gU q = z0 at *
  have hpk:∀ x,bG (c.w fB gt).s c.now x = bG (c.w fB gt).s c.now x:=fun _=>rfl
  generalize hsp:bG (c.w fB gt).s c.now = sp at *
  generalize c.w fB gt = w at *
  dsimp only [c8,av,dh,bB,bK,aG,bI,dR,eG,dF,aD,cK,dH,bP,aV];simp only [hs,h3',wd,ct,hRe,hi,rl,go_sem]
  refine rF (z0.size + 1) (fun x:ByteArray=>⟨[(2,PV.c (CV.one (PL.ptr 60000 0))),(5,PV.c (CV.one (PL.ptr 120000 0))),(6,PV.c (CV.one (PL.f (FV.str R.fst)))),(7,PV.c (CV.one (PL.f (FV.sl (List.map bA R.snd.fst))))),(8,PV.c (CV.one (PL.f (FV.sl (List.map bA R.snd.snd))))),(9,PV.c (CV.one (PL.f (FV.str x))))],[(60000,Ob.eT [PL.f (FV.sl (List.map rP c.l)),PL.f (FV.int IntKind.i64 c.now),PL.f (FV.sl (List.map bA c.roots)),PL.f (FV.int IntKind.i64 c.work)]),(120000,Ob.eT [PL.ptr 600200 0,PL.ptr 600400 0,PL.f (FV.int IntKind.i64 w.now),PL.f (FV.sl (List.map bA w.roots)),PL.f (FV.int IntKind.i64 w.work)]),(600200,Ob.eT [PL.f (FV.int IntKind.i64 w.s.room),PL.mp 600204,PL.f (FV.sl (List.map rQ w.s.o)),PL.f (FV.int IntKind.i64 w.s.ch)]),(600204,Ob.map kR (List.map ent w.s.m)),(600400,Ob.eT [PL.f (FV.int IntKind.i64 w.m.room),PL.mp 600404,PL.f (FV.sl (List.map rQ w.m.o)),PL.f (FV.int IntKind.i64 w.m.ch)]),(600404,Ob.map Ne.kR (List.map Ne.ent w.m.m))]⟩) (fun i x=>B.gN x = true ∧ x.size + i ≤ z0.size ∧ lq nm B.up sp c.roots (z0.size + 1 - i) x = R) (by omega) z0 rfl ⟨hzN,by omega,hce.symm⟩ (fun i x hi hP=>?_) (fun x hP=>absurd hP.2.1 (by omega))
  obtain ⟨x1,x2,x3⟩:=hP
  have xne:decide (x = ⟨#[]⟩) = false:=ajc (DL x1)
  by_cases hx:x = R.1
  case neg =>
   have hx':decide (x = R.1) = false:=ajc hx
   obtain ⟨f,hf⟩:∃ f,z0.size + 1 - i = f + 1:=⟨z0.size - i,by omega⟩
   rw [hf] at x3
   obtain ⟨y1,y2,y3⟩:=Tw x1 (by rw [x3];exact fun h=>hx h.symm)
   have pkx:=fun n=>pk n x
   rw [y1] at pkx
   have hux:=fun n=>hu n x (by omega)
   simp only [hx',xne,pkx,hux,go_sem]
   exact ⟨(B.up x).1,rfl,Ie y2,by have:=U9 y2;omega,by rw [show z0.size + 1 - (i + 1) = f from by omega,← y3];exact x3⟩
  subst hx
  have hx':decide (R.1 = R.1) = true:=aja rfl
  have pkz:=fun n=>pk n R.1
  cases hkn:(sp ⟨R.1,2,1⟩).2 with
  | true =>
   rw [hkn] at pkz
   simp only [hx',pkz,go_sem]
   refine kY R.2.2.length (fun i=>⟨[(2,PV.c (CV.one (PL.ptr 60000 0))),(5,PV.c (CV.one (PL.ptr 120000 0))),(6,PV.c (CV.one (PL.f (FV.str R.fst)))),(7,PV.c (CV.one (PL.f (FV.sl (List.map bA R.snd.fst))))),(8,PV.c (CV.one (PL.f (FV.sl (List.map bA R.snd.snd))))),(15,PV.c (CV.one (PL.f (FV.bool true)))),(16,PV.c (CV.one (PL.f (FV.int IntKind.i64 i))))],[(60000,Ob.eT [PL.f (FV.sl (List.map rP c.l)),PL.f (FV.int IntKind.i64 c.now),PL.f (FV.sl (List.map bA c.roots)),PL.f (FV.int IntKind.i64 c.work)]),(120000,Ob.eT [PL.ptr 600200 0,PL.ptr 600400 0,PL.f (FV.int IntKind.i64 w.now),PL.f (FV.sl (List.map bA w.roots)),PL.f (FV.int IntKind.i64 w.work)]),(600200,Ob.eT [PL.f (FV.int IntKind.i64 w.s.room),PL.mp 600204,PL.f (FV.sl (List.map rQ w.s.o)),PL.f (FV.int IntKind.i64 w.s.ch)]),(600204,Ob.map kR (List.map ent w.s.m)),(600400,Ob.eT [PL.f (FV.int IntKind.i64 w.m.room),PL.mp 600404,PL.f (FV.sl (List.map rQ w.m.o)),PL.f (FV.int IntKind.i64 w.m.ch)]),(600404,Ob.map Ne.kR (List.map Ne.ent w.m.m))]⟩) (fun i=>True) (by omega) rfl trivial (fun j hj hP=>?_) (fun hP=>?_)
   ·obtain ⟨y,hy,hlt,ht,h0⟩:=at_ hj
    have hn:=nx hj (by omega)
    have pkm:=fun n=>pk1 n y
    rw [hno y (akc hy)] at pkm
    simp (maxSteps:=100000000) only [ajb,ajf,hlt,hy,ht,h0,hn,bA,pkm,go_sem]
    try omega
   ·have hde:=@end_ _ R.2.2
    simp only [ajb,hde,hv,go_sem]
    try rfl
  | false =>
   rw [hkn] at pkz
   have hRR:=his.resolve_left (by rw [hkn];decide)
   have r1:R.1 = RJ:=by rw [hRR]
   have r2:R.2.1 = c.roots:=by rw [hRR]
   have r3:R.2.2 = []:=by rw [hRR]
   have tx:=fun n=>K9 (ext:=ext) (F:=F) (n:=n) R.2.1 c.roots (by rw [r2];omega) hF
   rw [aja r2] at tx
   have zr:decide (R.1 = (⟨#[0]⟩:ByteArray)) = true:=aja r1
   simp only [hx',pkz,go_sem]
   refine kY R.2.2.length (fun i=>⟨[(2,PV.c (CV.one (PL.ptr 60000 0))),(5,PV.c (CV.one (PL.ptr 120000 0))),(6,PV.c (CV.one (PL.f (FV.str R.fst)))),(7,PV.c (CV.one (PL.f (FV.sl (List.map bA R.snd.fst))))),(8,PV.c (CV.one (PL.f (FV.sl (List.map bA R.snd.snd))))),(15,PV.c (CV.one (PL.f (FV.bool false)))),(16,PV.c (CV.one (PL.f (FV.int IntKind.i64 i))))],[(60000,Ob.eT [PL.f (FV.sl (List.map rP c.l)),PL.f (FV.int IntKind.i64 c.now),PL.f (FV.sl (List.map bA c.roots)),PL.f (FV.int IntKind.i64 c.work)]),(120000,Ob.eT [PL.ptr 600200 0,PL.ptr 600400 0,PL.f (FV.int IntKind.i64 w.now),PL.f (FV.sl (List.map bA w.roots)),PL.f (FV.int IntKind.i64 w.work)]),(600200,Ob.eT [PL.f (FV.int IntKind.i64 w.s.room),PL.mp 600204,PL.f (FV.sl (List.map rQ w.s.o)),PL.f (FV.int IntKind.i64 w.s.ch)]),(600204,Ob.map kR (List.map ent w.s.m)),(600400,Ob.eT [PL.f (FV.int IntKind.i64 w.m.room),PL.mp 600404,PL.f (FV.sl (List.map rQ w.m.o)),PL.f (FV.int IntKind.i64 w.m.ch)]),(600404,Ob.map Ne.kR (List.map Ne.ent w.m.m))]⟩) (fun i=>True) (by omega) rfl trivial (fun j hj hP=>absurd hj (by rw [r3];simp)) (fun hP=>?_)
   have hde:=@end_ _ R.2.2
   simp only [ajb,hde,zr,tx,hv,go_sem]
   try rfl
end
section
attribute [local go_sem_proc] Nat.reduceAdd Nat.reduceMul Nat.reduceEqDiff Nat.reduceBEq Nat.reduceMod Nat.reduceDiv reduceCtorEq
attribute [local go_sem_proc ↓] reduceIte
open Go Ev Kc
variable {θ : Th} {nm:Int → ByteArray → List ByteArray} {gt:ByteArray → Int → Int → Int × Bool} {up:ByteArray → ByteArray × Bool} {ext:Env} {F n:Nat}
def La (Γ:Env) (gs:List G) (ks mF:List Nat) (σ r:St) (os:List (List Nat)):Prop:=kV Γ gs ks mF σ r os
theorem Ya {k:Out × St → Prop} {u:Tok k} {Γ:Env} {σ:St} {gs:List G} {o:List Nat} {os:List (List Nat)} {ks mF:List Nat}:W k u (ev Γ F (.any gs (o :: os) ks mF) σ) ↔ W (fun s=>W (fun r=>La Γ gs ks mF σ r os ∧ W k ⟨⟩ (some (.jg,r))) ⟨⟩ (some (⟨pick ks s.tm,pick mF s.ob⟩:St))) ⟨⟩ (wI Γ false (o.map fun i=>gs.getD i default) σ):=aag
abbrev n_X : ByteArray:=⟨#[1,88,1,97,0]⟩
abbrev n_x : ByteArray:=⟨#[1,120,1,97,0]⟩
abbrev n_a : ByteArray:=⟨#[1,97,0]⟩
abbrev Zg : ByteArray:=⟨#[1,110,0]⟩
abbrev Yb : ByteArray:=⟨#[48,48,48,48]⟩
abbrev r_1 : ByteArray:=⟨#[48,48,48,49]⟩
abbrev a_1 : ByteArray:=⟨#[49,49,49,49]⟩
abbrev a_2 : ByteArray:=⟨#[50,50,50,50]⟩
abbrev q00 : Qn:=⟨⟨#[]⟩,0,0⟩
abbrev t_x : Tk:=⟨[⟨⟨n_x,1,1⟩,⟨#[]⟩,0⟩],0⟩
abbrev p_1 : Pt:=⟨0,⟨n_a,2,1,[Zg],99⟩,1,q00⟩
abbrev p_2 : Pt:=⟨0,⟨Zg,1,1,[a_1],99⟩,1,q00⟩
abbrev p_3 : Pt:=⟨0,⟨n_x,1,1,[a_2],99⟩,5,q00⟩
abbrev Lv : Cs:=⟨[],0,[Yb,r_1],5⟩
abbrev Va : Cs:=⟨[],0,[Yb],0⟩
abbrev PW : Cs:=⟨[p_1],0,[Yb],5⟩
abbrev Tx : Cs:=⟨[p_1,p_2],0,[Yb],5⟩
abbrev Tz : Cs:=⟨[p_1,p_2,p_3],0,[Yb],5⟩
abbrev nX (θ:Th) (nm:Int → ByteArray → List ByteArray) (gt:ByteArray → Int → Int → Int × Bool) (up:ByteArray → ByteArray × Bool) (c:Cs):Stp × Tk:=nxt θ nm up (c.w θ gt) 7 t_x
structure Vb (θ:Th) (nm:Int → ByteArray → List ByteArray) (gt:ByteArray → Int → Int → Int × Bool) (up:ByteArray → ByteArray × Bool):Prop where
 lo:θ.low n_X = n_x
 a1:(nX θ nm gt up Lv).1.kind = 0
 a2:(nX θ nm gt up Lv).1.server = Yb
 a3:(nX θ nm gt up Lv).1.zone = RJ
 a4:(nX θ nm gt up Lv).2.goals.map (fun g=>g.tries) = [1]
 a5:(nX θ nm gt up Lv).2.sends = 1
 y1:(nX θ nm gt up Va).1.kind = 2
 z1:(nX θ nm gt up PW).1.kind = 0
 z2:(nX θ nm gt up PW).1.q.q = Zg
 b1:(nX θ nm gt up PW).2.goals.map (fun g=>g.q.t) = [1,1]
 u1:(nX θ nm gt up Tx).1.server = a_1
 u2:(nX θ nm gt up Tx).1.zone = n_a
 v1:(nX θ nm gt up Tz).1.kind = 1
 v2:(nX θ nm gt up Tz).1.ch.hits.length = 1
theorem acz : XZ t_x 900:=⟨⟨fun g hg=>by rw [aj0.mp hg];decide,by decide,by decide⟩,by decide⟩
theorem Lb (S:Sk θ nm gt up ext) (L:Vb θ nm gt up) (hF:200000000000001 ≤ F):G2 ext F (n + 8) 24 [] = some ([vb true],[]):=by
 refine dI (cf:=c24) rfl ?_
 have st:=fun n=>Pn (F:=F) (n:=n) S ⟨n_X,1,1⟩ (by decide)
 rw [L.lo] at st
 have wd:=fun n c h1 h2=>F5 (F:=F) (n:=n) (gt:=gt) S c h1 h2
 have nx:=fun n c h1 h2 h3=>Tq (F:=F) (n:=n) S (Cs.w θ gt c) (U8 S c h1 h2 h3) hF t_x acz _ rfl
 have wa:=fun n=>wd n Lv (by decide) (by decide)
 have wy:=fun n=>wd n Va (by decide) (by decide)
 have wb:=fun n=>vL (F:=F) (n:=n) (gt:=gt) S PW (by decide) (by decide)
 have wc:=fun n=>vL (F:=F) (n:=n) (gt:=gt) S Tx (by decide) (by decide)
 have we:=fun n=>vL (F:=F) (n:=n) (gt:=gt) S Tz (by decide) (by decide)
 have xa:=fun n=>nx n Lv (by decide) (by decide) (by decide)
 have xy:=fun n=>nx n Va (by decide) (by decide) (by decide)
 have xb:=fun n=>nx n PW (by decide) (by decide) (by decide)
 have xc:=fun n=>nx n Tx (by decide) (by decide) (by decide)
 have xd:=fun n=>nx n Tz (by decide) (by decide) (by decide)
 clear nx wd
 obtain ⟨-,a1,a2,a3,a4,a5,y1,z1,z2,b1,u1,u2,v1,v2⟩:=L
 change ∀ n,_ = some ([(nX θ nm gt up Lv).2.v,(nX θ nm gt up Lv).1.v],_) at xa
 change ∀ n,_ = some ([(nX θ nm gt up Va).2.v,(nX θ nm gt up Va).1.v],_) at xy
 change ∀ n,_ = some ([(nX θ nm gt up PW).2.v,(nX θ nm gt up PW).1.v],_) at xb
 change ∀ n,_ = some ([(nX θ nm gt up Tx).2.v,(nX θ nm gt up Tx).1.v],_) at xc
 change ∀ n,_ = some ([(nX θ nm gt up Tz).2.v,(nX θ nm gt up Tz).1.v],_) at xd
 generalize nX θ nm gt up Lv = Ra at *
 generalize nX θ nm gt up Va = Ry at *
 generalize nX θ nm gt up PW = Rb at *
 generalize nX θ nm gt up Tx = Rc at *
 generalize nX θ nm gt up Tz = Rd at *
 generalize Cs.w θ gt Lv = Wa at *
 generalize Cs.w θ gt Va = Wy at *
 generalize Cs.w θ gt PW = Wb at *
 generalize Cs.w θ gt Tx = Wc at *
 generalize Cs.w θ gt Tz = We at *
 obtain ⟨⟨ka,cha,sva,qa,za⟩,⟨ga,na⟩⟩:=Ra
 obtain ⟨⟨ky,chy,svy,qy,zy⟩,⟨gy,ny⟩⟩:=Ry
 obtain ⟨⟨kb,chb,svb,⟨qb,qbt,qbc⟩,zb⟩,⟨gb,nb⟩⟩:=Rb
 obtain ⟨⟨kc,chc,svc,qc,zc⟩,⟨gc,nc⟩⟩:=Rc
 obtain ⟨⟨kd,chd,svd,qd,zd⟩,⟨gd,nd⟩⟩:=Rd
 simp only at a1 a2 a3 a4 a5 y1 z1 z2 b1 u1 u2 v1 v2
 subst a1 a2 a3 a5 y1 z1 z2 u1 u2 v1
 obtain ⟨q1,z1,rfl⟩:∃ q z,ga = [⟨q,z,1⟩]:=by
  match ga,a4 with
  | [⟨q,z,r⟩],h=>simp only [ajk,ajn,akq,and_true] at h;subst h;exact ⟨q,z,rfl⟩
 obtain ⟨q2,c2,z2,r2,q3,c3,z3,r3,rfl⟩:∃ q c z r q' c' z' r',gb = [⟨⟨q,1,c⟩,z,r⟩,⟨⟨q',1,c'⟩,z',r'⟩]:=by
  match gb,b1 with
  | [⟨⟨q,t,c⟩,z,r⟩,⟨⟨q',t',c'⟩,z',r'⟩],h=>simp only [ajk,ajn,akq,and_true] at h;obtain ⟨rfl,rfl⟩:=h;exact ⟨_,_,_,_,_,_,_,_,rfl⟩
 have hv:((chd.hits.length:Nat):Int) = 1:=by omega
 have s1:=fun n=>zB (ext:=ext) (F:=F) (n:=n) n_a 2 Zg
 have s2:=fun n=>zB (ext:=ext) (F:=F) (n:=n) Zg 1 a_1
 have s3:=fun n=>zB (ext:=ext) (F:=F) (n:=n) n_x 1 a_2
 simp only [Lv,Va,PW,Tx,Tz,p_1,p_2,p_3,t_x,q00,n_X,n_x,n_a,Zg,Yb,r_1,a_1,a_2,RJ,Cs.v,Cs.ov,Tk.v,Qn.v,Se.v,tL,ajk,ajn,rG,rP,bA] at st wa wy wb wc we xa xy xb xc xd s1 s2 s3
 dsimp only [c24,av,dh,bB,bK,aG,bI,dR,eG,dF,aD,cK,dH,bP,aV];simp (maxSteps:=100000000) only [↓Ya,st,wa,wy,wb,wc,we,xa,xy,xb,xc,xd,s1,s2,s3,ajb,hv,decide_true,go_sem]
 refine ⟨?_,?_,?_,by decide,?_,by decide,?_,?_⟩
 ·unfold La;as_aux_lemma=>simp (maxSteps:=100000000) only [wa,xa,go_sem]
 ·unfold La;as_aux_lemma=>simp (maxSteps:=100000000) only [wy,xy,go_sem]
 ·unfold La;as_aux_lemma=>simp (maxSteps:=100000000) only [wb,xb,go_sem]
 ·unfold La;as_aux_lemma=>simp (maxSteps:=100000000) only [wc,xc,go_sem]
 ·unfold La;as_aux_lemma=>simp (maxSteps:=100000000) only [we,xd,go_sem]
 have d1:decide (((1:Nat):Int) = 1) = true:=rfl
 have d2:decide (((2:Nat):Int) = 2) = true:=rfl
 have d3:decide ((0:Int) < ((1:Nat):Int)) = true:=rfl
 have d4:decide ((1:Int) < ((2:Nat):Int)) = true:=rfl
 have d5:decide ((0:Int) < ((2:Nat):Int)) = true:=rfl
 have i1:(1:Int).toNat = 1:=rfl
 have d6:decide (((chd.hits.length:Nat):Int) = 1) = true:=aja hv
 simp only [d1,d2,d3,d4,d5,d6,i1,ajb,Int.toNat_zero,List.getElem?_cons_zero,List.getElem?_cons_succ,decide_true,go_sem]
 first | exact ⟨by decide,by decide,by decide,rfl⟩ | exact ⟨by decide,by decide,by decide⟩ | decide | omega
end
section
open Go Ev Kc
theorem acA : Vb fB nm₀ FU B.up:=by constructor <;> decide +kernel
end
section
open Go Go.RowKit Ev Kc
theorem nmL : NmL B.gN B.same B.up zx where
 c q h:=(e3 (by decide) (by decide) rfl _).trans (by simp [j3,vJ,jP,iP,PU,wK,Lm,h,vs,vb])
 s q z h h2:=(e3 (by decide) (by decide) rfl _).trans (by simp [j3,vJ,jP,iP,gB2,wK,Lm,h,h2,vs,vb])
 u q h:=(e3 (by decide) (by decide) rfl _).trans (by simp [j3,vJ,jP,iP,Zd,wK,Lm,h,vs,vb])
theorem exZ : ExZ zx where
 sm l m h1 h2:=(e2 (by decide) (by decide) _).trans (agQ l m h1 h2 (ajd _))
 rl q h:=(e3 (by decide) (by decide) rfl _).trans (by simp [j3,vJ,jP,iP,PU,wK,Lm,h,vs])
 nl:=nmL
theorem hv2 (n:Nat):G2 zx 200000000000001 (n + 8) 24 [] = some ([vb true],[]):=Lb U2 acA (ajd _)
end
end Go.Proofs.YtfokaoeinpnagaaGreat.Kd
namespace Go.Proofs.YtfokaoeinpnagaaGreat.Kc
open Go Ev
theorem opQ : Ih Tryz.prog 24 rQ (fun _=>True) :=
 uL (fun p:ByteArray × Int × Int=>⟨p.1,p.2.1,p.2.2⟩) (by exact fun _=>rfl) (by exact fun _ _=>trivial) (pq Tryz.underlying24 (by kernel_rfl) (jr (sz:=1) (sz':=2) (JN Tryz.underlying9) (by kernel_rfl) (jr (sz:=1) (sz':=1) (oZ Tryz.underlying3) (by kernel_rfl) (qQ (oZ Tryz.underlying3) (by kernel_rfl)))))
theorem opD : Ih Tryz.prog 40 (fun d:List ByteArray=>[.sl (d.map bA)]) (fun d=>d.length ≤ 140737488351232) :=
 uL (fun d:List ByteArray=>d) (by exact fun _=>rfl) (by exact fun _ h=>h.1) (BM 1 Tryz.underlying40 (by kernel_rfl) (by decide) (fun _=>rfl) (by kernel_rfl) (JN Tryz.underlying9))
theorem opS : Ih Tryz.prog 42 rS (fun x=>x.d.length ≤ 140737488351232) :=
 uL (fun p:Qn × List ByteArray × Int=>⟨p.1.q,p.1.t,p.1.c,p.2.1,p.2.2⟩) (by exact fun _=>rfl) (by exact fun _ h=>h.2.1) (pq Tryz.underlying42 (by kernel_rfl) (jr (sz:=3) (sz':=2) opQ (by kernel_rfl) (jr (sz:=1) (sz':=1) opD (by kernel_rfl) (qQ (oZ Tryz.underlying3) (by kernel_rfl)))))
theorem opP : Ih Tryz.prog 113 rP (fun x=>x.s.d.length ≤ 140737488351232) :=
 uL (fun p:Int × Se × Int × Qn=>⟨p.1,p.2.1,p.2.2.1,p.2.2.2⟩) (by exact fun _=>rfl) (by exact fun _ h=>h.2.1) (pq Tryz.underlying113 (by kernel_rfl) (jr (sz:=1) (sz':=9) (oZ Tryz.underlying3) (by kernel_rfl) (jr (sz:=5) (sz':=4) opS (by kernel_rfl) (jr (sz:=1) (sz':=3) (oZ Tryz.underlying3) (by kernel_rfl) (qQ opQ (by kernel_rfl))))))
theorem agW : Ih Tryz.prog 22 (fun l:List Pt=>[.sl (l.map rP)]) (fun l=>l.length ≤ 140737488351232 ∧ ∀ x ∈ l,x.s.d.length ≤ 140737488351232) :=
 BM 10 Tryz.underlying22 (by kernel_rfl) (by decide) (fun _=>rfl) (by kernel_rfl) opP
end Go.Proofs.YtfokaoeinpnagaaGreat.Kc
namespace Go.Proofs.YtfokaoeinpnagaaGreat.Kd
open Go Ev Kc
theorem opC : Ih Tryz.prog 63 rC (fun c=>(c.l.length ≤ 140737488351232 ∧ ∀ x ∈ c.l,x.s.d.length ≤ 140737488351232) ∧ c.roots.length ≤ 140737488351232 ∧ (Lit.int .i64 c.work).wf = true) :=
 uL (fun p:List Pt × Int × List ByteArray × Int=>⟨p.1,p.2.1,p.2.2.1,p.2.2.2⟩) (by exact fun _=>rfl) (by exact fun _ h=>⟨h.1,h.2.2.1,h.2.2.2⟩) (pq Tryz.underlying63 (by kernel_rfl) (jr (sz:=1) (sz':=3) agW (by kernel_rfl) (jr (sz:=1) (sz':=2) (oZ Tryz.underlying3) (by kernel_rfl) (jr (sz:=1) (sz':=1) opD (by kernel_rfl) (qQ (oZ Tryz.underlying3) (by kernel_rfl))))))
theorem acB {n:Int} (h:(Lit.int .i64 n).wf = true):-9223372036854775808 ≤ n ∧ n ≤ 9223372036854775807:=by
 unfold Lit.wf at h
 rw [ajg,ajt,ajt] at h
 exact ⟨h.1,h.2⟩
end Go.Proofs.YtfokaoeinpnagaaGreat.Kd

/- A part of the proof of ChainAges: cut, joined and given short names by a program of this session (wip/tools/pack.py); Lean checks it. No condition. -/
import Derived.Test.YtfokaoeinpnagaaPCAese
import Derived.Orders
import Derived.Scope
import Derived.Test.YtfokaoeinpnagaaPCAesd
set_option linter.unusedSectionVars false
set_option linter.unusedSimpArgs false
set_option linter.unusedVariables false
namespace Go.Proofs.Ytfokaoeinpnagaa.Ev
open Go
section
variable {Γ : Env} {d:Nat} {σ σ2 σ':St} {pv:PV}
theorem Fu {l:List CV}:∀ {caps:List (List FV)} {τ:St},lT true σ l = some (caps,τ) → τ = σ ∧ lT true σ2 l = some (caps,σ2):=by
 induction l with
 | nil=>intro caps τ h;simp only [lT] at h;cases h;exact ⟨rfl,by simp only [lT]⟩
 | cons y l ih =>
  intro caps τ h
  have one:∀ cs,y = .one (.fp cs) → τ = σ ∧ lT true σ2 (y :: l) = some (caps,σ2):=by
   intro cs hy
   subst hy
   simp only [lT] at h ⊢
   obtain ⟨r,g1,g2⟩:=zmm h
   cases g2
   obtain ⟨e1,e2⟩:=ih g1
   exact ⟨e1,by rw [e2];rfl⟩
  cases y with
  | one x =>
   cases x with
   | fp cs=>exact one cs rfl
   | ptr k o=>cases o <;> simp [lT] at h
   | _=>simp [lT] at h
  | agg xs=>simp [lT] at h
theorem OB {i:I} (hi:OA i = true) (hs:Same (mX i) σ σ2) (ho:∀ k o,get σ.ob k = some o → get σ2.ob k = some o) (hE:cO Γ true σ d i = some (pv,σ')):σ' = σ ∧ cO Γ true σ2 d i = some (pv,σ2):=by
 cases i with
 | alloc e z=>cases hi
 | box e x=>cases hi
 | wM e sz len z ps=>cases hi
 | zA f xs=>cases hi
 | store n x v=>cases hi
 | oO sh=>cases hi
 | wZ sh x k v=>cases hi
 | del sh x k=>cases hi
 | app e sz b x y=>cases hi
 | mv x =>
  simp only [mX] at hs
  simp only [cO] at hE ⊢
  rw [hs.r9]
  obtain ⟨v,h1,h2⟩:=zmm hE
  cases h2
  rw [h1];simp only [Option.map_some];exact ⟨trivial,trivial⟩
 | pick c x y =>
  simp only [mX] at hs
  simp only [cO] at hE ⊢
  obtain ⟨v,h1,h2⟩:=zbm hE
  obtain ⟨t,h3,h4⟩:=zbm h2
  obtain ⟨u,h5,h6⟩:=zmm h4
  cases h6
  rw [hs.l.l.val,h1]
  simp only [Option.bind_some,h3]
  have:Ev.val σ2 (if t then x else y) = Ev.val σ (if t then x else y):=by
   cases t
   ·exact hs.r.val
   ·exact hs.l.r.val
  rw [this,h5];exact ⟨trivial,rfl⟩
 | build z ps =>
  simp only [mX] at hs
  simp only [cO] at hE ⊢
  obtain ⟨v,h1,h2⟩:=zbm hE
  obtain ⟨u,h3,h4⟩:=zmm h2
  cases h4
  rw [hs.vals,h1]
  simp only [Option.bind_some,h3,Option.map_some]
  exact ⟨trivial,trivial⟩
 | load n g x =>
  simp only [mX] at hs
  simp only [cO] at hE ⊢
  obtain ⟨v,h1,h2⟩:=zbm hE
  rw [hs.val,h1]
  simp only [Option.bind_some]
  split at h2
  ·split at h2
   ·rename_i gy
    obtain ⟨l,h3,h4⟩:=zbm h2
    obtain ⟨u,h5,h6⟩:=zmm h4
    cases h6
    simp only [ho _ _ gy,h3,Option.bind_some,h5,Option.map_some]
    exact ⟨trivial,trivial⟩
   ·cases h2
  ·obtain ⟨l,h3,h4⟩:=zbm h2
   obtain ⟨u,h5,h6⟩:=zmm h4
   cases h6
   simp only [h3,Option.bind_some,h5,Option.map_some]
   exact ⟨trivial,trivial⟩
  ·split at h2
   ·rename_i gy
    split at h2
    ·cases h2
    ·rename_i hz
     obtain ⟨r,h7,h8⟩:=zbm h2
     obtain ⟨l,h3,h4⟩:=zbm h8
     obtain ⟨u,h5,h6⟩:=zmm h4
     cases h6
     simp only [ho _ _ gy,if_neg hz,h7,h3,Option.bind_some,h5,Option.map_some]
     exact ⟨trivial,trivial⟩
   ·cases h2
  ·cases h2
 | mh x =>
  simp only [mX] at hs
  simp only [cO] at hE ⊢
  obtain ⟨v,h1,h2⟩:=zbm hE
  rw [hs.val,h1]
  simp only [Option.bind_some]
  split at h2 <;> cases h2 <;> exact ⟨rfl,rfl⟩
 | rV neg x =>
  simp only [mX] at hs
  simp only [cO] at hE ⊢
  obtain ⟨v,h1,h2⟩:=zbm hE
  rw [hs.val,h1]
  simp only [Option.bind_some]
  split at h2 <;> cases h2 <;> exact ⟨rfl,rfl⟩
 | ar o x y =>
  simp only [mX] at hs
  simp only [cO] at hE ⊢
  obtain ⟨u,h1,hE⟩:=zbm hE
  obtain ⟨v,h2,hE⟩:=zbm hE
  obtain ⟨m,h3,hE⟩:=zbm hE
  obtain ⟨n,h4,hE⟩:=zbm hE
  split at hE
  ·rename_i hk
   obtain ⟨r,h5,hE⟩:=zbm hE
   cases hE
   rw [hs.l.val,hs.r.val]
   simp only [h1,h2,h3,h4,h5,Option.bind_some,if_pos hk,one]
   exact ⟨trivial,trivial⟩
  ·cases hE
 | cmp o x y =>
  simp only [mX] at hs
  simp only [cO] at hE ⊢
  obtain ⟨u,h1,hE⟩:=zbm hE
  obtain ⟨v,h2,hE⟩:=zbm hE
  obtain ⟨m,h3,hE⟩:=zbm hE
  obtain ⟨n,h4,hE⟩:=zbm hE
  split at hE
  ·rename_i hk
   cases hE
   rw [hs.l.val,hs.r.val]
   simp only [h1,h2,h3,h4,Option.bind_some,if_pos hk,one]
   exact ⟨trivial,trivial⟩
  ·cases hE
 | pY sh neg x y =>
  simp only [mX] at hs
  simp only [cO] at hE ⊢
  obtain ⟨u,h1,hE⟩:=zbm hE
  obtain ⟨v,h2,hE⟩:=zbm hE
  obtain ⟨m,h3,hE⟩:=zbm hE
  obtain ⟨n,h4,hE⟩:=zbm hE
  split at hE
  ·rename_i hk
   cases hE
   rw [hs.l.val,hs.r.val]
   simp only [h1,h2,h3,h4,Option.bind_some,if_pos hk,one]
   exact ⟨trivial,trivial⟩
  ·cases hE
 | cat x y =>
  simp only [mX] at hs
  simp only [cO] at hE ⊢
  obtain ⟨u,h1,hE⟩:=zbm hE
  obtain ⟨v,h2,hE⟩:=zbm hE
  rw [hs.l.val,hs.r.val]
  simp only [h1,h2,Option.bind_some]
  split at hE
  ·split at hE
   ·rename_i hk;cases hE;simp only [if_pos hk,one];exact ⟨trivial,trivial⟩
   ·cases hE
  ·cases hE
 | no x =>
  simp only [mX] at hs
  simp only [cO] at hE ⊢
  obtain ⟨u,h1,hE⟩:=zbm hE
  obtain ⟨v,h2,hE⟩:=zbm hE
  cases hE
  rw [hs.val]
  simp only [h1,h2,Option.bind_some,one]
  exact ⟨trivial,trivial⟩
 | ci k x =>
  simp only [mX] at hs
  simp only [cO] at hE ⊢
  obtain ⟨u,h1,hE⟩:=zbm hE
  obtain ⟨v,h2,hE⟩:=zbm hE
  cases hE
  rw [hs.val]
  simp only [h1,h2,Option.bind_some,one]
  exact ⟨trivial,trivial⟩
 | mU x =>
  simp only [mX] at hs
  simp only [cO] at hE ⊢
  obtain ⟨u,h1,hE⟩:=zbm hE
  rw [hs.val,h1]
  simp only [Option.bind_some]
  split at hE
  ·cases hE;exact ⟨rfl,rfl⟩
  ·cases hE
 | I9 x lo hi =>
  simp only [mX] at hs
  simp only [cO] at hE ⊢
  obtain ⟨u,h1,hE⟩:=zbm hE
  rw [hs.l.l.val,h1]
  simp only [Option.bind_some]
  split at hE
  ·obtain ⟨p,h2,hE⟩:=zbm hE
   cases hE
   rw [Same.rng hs.l.r hs.r,h2]
   exact ⟨rfl,rfl⟩
  ·cases hE
 | cut sz x lo hi =>
  simp only [mX] at hs
  simp only [cO] at hE ⊢
  obtain ⟨u,h1,hE⟩:=zbm hE
  rw [hs.l.l.val,h1]
  simp only [Option.bind_some]
  split at hE
  ·split at hE
   ·cases hE
   ·rename_i hz
    obtain ⟨p,h2,hE⟩:=zbm hE
    cases hE
    rw [if_neg hz,Same.rng hs.l.r hs.r,h2]
    exact ⟨rfl,rfl⟩
  ·obtain ⟨p,h2,hE⟩:=zbm hE
   cases hE
   rw [Same.rng hs.l.r hs.r,h2]
   exact ⟨rfl,rfl⟩
  ·split at hE
   ·split at hE
    ·cases hE
    ·obtain ⟨p,h2,hE⟩:=zbm hE
     rw [if_pos trivial] at hE
     cases hE
   ·cases hE
  ·cases hE
 | fa off x =>
  simp only [mX] at hs
  simp only [cO] at hE ⊢
  obtain ⟨v,h1,h2⟩:=zbm hE
  rw [hs.val,h1]
  simp only [Option.bind_some]
  split at h2 <;> cases h2 <;> exact ⟨rfl,rfl⟩
 | TL off n g x =>
  simp only [mX] at hs
  simp only [cO] at hE ⊢
  obtain ⟨v,h1,h2⟩:=zbm hE
  rw [hs.val,h1]
  simp only [Option.bind_some]
  split at h2
  ·obtain ⟨l,h3,h4⟩:=zbm h2
   obtain ⟨u,h5,h6⟩:=zmm h4
   cases h6
   simp only [h3,Option.bind_some,h5,Option.map_some]
   exact ⟨trivial,trivial⟩
  ·cases h2
 | ia sz x i =>
  simp only [mX] at hs
  simp only [cO] at hE ⊢
  obtain ⟨v,h1,hE⟩:=zbm hE
  obtain ⟨j,h2,hE⟩:=zbm hE
  obtain ⟨p,h3,hE⟩:=zbm hE
  rw [hs.l.val,hs.r.val]
  simp only [h1,h2,h3,Option.bind_some]
  split at hE
  ·rename_i h0
   rw [if_pos h0]
   split at hE
   ·obtain ⟨r,h4,hE⟩:=zbm hE
    split at hE
    ·rename_i hk;cases hE;simp only [h4,Option.bind_some,if_pos hk];exact ⟨trivial,trivial⟩
    ·cases hE
   ·split at hE
    ·rename_i gy
     split at hE
     ·rename_i hk;cases hE;simp only [ho _ _ gy,if_pos hk];exact ⟨trivial,trivial⟩
     ·cases hE
    ·cases hE
   ·cases hE
  ·cases hE
 | idx sz len g x i =>
  simp only [mX] at hs
  simp only [cO] at hE ⊢
  obtain ⟨v,h1,hE⟩:=zbm hE
  obtain ⟨j,h2,hE⟩:=zbm hE
  obtain ⟨p,h3,hE⟩:=zbm hE
  rw [hs.l.val,hs.r.val]
  simp only [h1,h2,h3,Option.bind_some]
  split at hE
  ·rename_i h0
   rw [if_pos h0]
   split at hE
   ·obtain ⟨l,h4,hE⟩:=zbm hE
    obtain ⟨u,h5,h6⟩:=zmm hE
    cases h6
    simp only [h4,Option.bind_some,h5,Option.map_some]
    exact ⟨trivial,trivial⟩
   ·cases hE
  ·cases hE
 | chr x i =>
  simp only [mX] at hs
  simp only [cO] at hE ⊢
  obtain ⟨v,h1,hE⟩:=zbm hE
  obtain ⟨j,h2,hE⟩:=zbm hE
  obtain ⟨p,h3,hE⟩:=zbm hE
  rw [hs.l.val,hs.r.val]
  simp only [h1,h2,h3,Option.bind_some]
  split at hE
  ·split at hE
   ·rename_i h0
    obtain ⟨b,h4,hE⟩:=zbm hE
    cases hE
    simp only [if_pos h0,h4,Option.bind_some,one]
    exact ⟨trivial,trivial⟩
   ·cases hE
  ·cases hE
 | look sh z ok x k =>
  simp only [mX] at hs
  simp only [cO] at hE ⊢
  obtain ⟨v,h1,hE⟩:=zbm hE
  obtain ⟨u,h2,hE⟩:=zbm hE
  obtain ⟨b,h3,hE⟩:=zbm hE
  rw [hs.l.val,hs.r.val]
  simp only [h1,h2,h3,Option.bind_some]
  split at hE
  ·cases hE
  ·rename_i hsh
   rw [if_neg hsh]
   obtain ⟨r,h4,h5⟩:=zmm hE
   cases h5
   split at h4
   ·cases h4;exact ⟨rfl,rfl⟩
   ·split at h4
    ·rename_i gy
     split at h4
     ·rename_i hk;cases h4;simp only [ho _ _ gy,if_pos hk,Option.map_some];exact ⟨trivial,trivial⟩
     ·cases h4
    ·cases h4
   ·cases h4
 | ext x i =>
  simp only [mX] at hs
  simp only [cO] at hE ⊢
  rw [hs.r9]
  split at hE
  ·rename_i l hl
   obtain ⟨v,h1,h2⟩:=zmm hE
   cases h2
   simp only [h1,Option.map_some]
   exact ⟨trivial,trivial⟩
  ·cases hE
 | uG x =>
  simp only [mX] at hs
  simp only [cO] at hE ⊢
  obtain ⟨v,h1,h2⟩:=zbm hE
  rw [hs.val,h1]
  simp only [Option.bind_some]
  split at h2 <;> cases h2 <;> exact ⟨rfl,rfl⟩
 | fZ x =>
  simp only [mX] at hs
  simp only [cO] at hE ⊢
  obtain ⟨v,h1,h2⟩:=zbm hE
  rw [hs.val,h1]
  simp only [Option.bind_some]
  split at h2 <;> cases h2 <;> exact ⟨rfl,rfl⟩
 | Ja x =>
  simp only [mX] at hs
  simp only [cO] at hE ⊢
  obtain ⟨v,h1,h2⟩:=zbm hE
  rw [hs.val,h1]
  simp only [Option.bind_some]
  split at h2
  ·cases h2;exact ⟨rfl,rfl⟩
  ·split at h2
   ·rename_i gy;cases h2;simp only [ho _ _ gy,one];exact ⟨trivial,trivial⟩
   ·cases h2
  ·cases h2
 | mn x y =>
  simp only [mX] at hs
  simp only [cO] at hE ⊢
  obtain ⟨u,h1,hE⟩:=zbm hE
  obtain ⟨v,h2,hE⟩:=zbm hE
  obtain ⟨m,h3,hE⟩:=zbm hE
  obtain ⟨n,h4,hE⟩:=zbm hE
  rw [hs.l.val,hs.r.val]
  simp only [h1,h2,h3,h4,Option.bind_some]
  split at hE
  ·rename_i hk;cases hE;rw [if_pos hk];exact ⟨rfl,rfl⟩
  ·cases hE
 | mx x y =>
  simp only [mX] at hs
  simp only [cO] at hE ⊢
  obtain ⟨u,h1,hE⟩:=zbm hE
  obtain ⟨v,h2,hE⟩:=zbm hE
  obtain ⟨m,h3,hE⟩:=zbm hE
  obtain ⟨n,h4,hE⟩:=zbm hE
  rw [hs.l.val,hs.r.val]
  simp only [h1,h2,h3,h4,Option.bind_some]
  split at hE
  ·rename_i hk;cases hE;rw [if_pos hk];exact ⟨rfl,rfl⟩
  ·cases hE
 | RL sz z x=>cases hi
 | call gv f xs =>
  simp only [mX] at hs
  simp only [cO] at hE ⊢
  obtain ⟨l,h1,hE⟩:=zbm hE
  rw [hs.jg,h1]
  simp only [Option.bind_some]
  exact yc ho hE
 | dyn x xs =>
  simp only [mX] at hs
  simp only [cO] at hE ⊢
  obtain ⟨v,h0,hE⟩:=zbm hE
  rw [hs.l.val,h0]
  simp only [Option.bind_some]
  split at hE
  ·obtain ⟨l,h1,hE⟩:=zbm hE
   simp only [hs.r.jg,h1,Option.bind_some]
   exact yc ho hE
  ·cases hE
 | TN f xs =>
  simp only [mX] at hs
  simp only [cO] at hE ⊢
  obtain ⟨l,h1,hE⟩:=zbm hE
  rw [hs.jg,h1]
  simp only [Option.bind_some]
  obtain ⟨p,h2,h3⟩:=zmm hE
  cases h3
  obtain ⟨e1,e2⟩:=Fu (σ2:=σ2) h2
  rw [e2]
  exact ⟨e1,rfl⟩
 | Bd neg x =>
  simp only [mX] at hs
  simp only [cO] at hE ⊢
  obtain ⟨v,h1,h2⟩:=zbm hE
  rw [hs.val,h1]
  simp only [Option.bind_some]
  split at h2 <;> cases h2 <;> exact ⟨rfl,rfl⟩
 | bit o x y =>
  simp only [mX] at hs
  simp only [cO] at hE ⊢
  obtain ⟨u,h1,hE⟩:=zbm hE
  obtain ⟨v,h2,hE⟩:=zbm hE
  obtain ⟨m,h3,hE⟩:=zbm hE
  obtain ⟨n,h4,hE⟩:=zbm hE
  rw [hs.l.val,hs.r.val]
  simp only [h1,h2,h3,h4,Option.bind_some]
  split at hE
  ·rename_i hk;cases hE;rw [if_pos hk];exact ⟨rfl,rfl⟩
  ·cases hE
 | TM o x y =>
  simp only [mX] at hs
  simp only [cO] at hE ⊢
  obtain ⟨u,h1,hE⟩:=zbm hE
  obtain ⟨v,h2,hE⟩:=zbm hE
  obtain ⟨m,h3,hE⟩:=zbm hE
  obtain ⟨n,h4,hE⟩:=zbm hE
  rw [hs.l.val,hs.r.val]
  simp only [h1,h2,h3,h4,Option.bind_some]
  split at hE
  ·rename_i hk;cases hE;rw [if_pos hk];exact ⟨rfl,rfl⟩
  ·cases hE
 | EZ sz x y=>simp [cO] at hE
 | cutV sz x y =>
  simp only [mX] at hs
  simp only [cO] at hE ⊢
  obtain ⟨v,h1,hE⟩:=zbm hE
  obtain ⟨j,h2,hE⟩:=zbm hE
  obtain ⟨p,h3,hE⟩:=zbm hE
  rw [hs.l.val,hs.r.val]
  simp only [h1,h2,h3,Option.bind_some]
  split at hE
  ·split at hE
   ·rename_i gy
    split at hE
    ·rename_i hk;cases hE;simp only [ho _ _ gy,if_pos hk];exact ⟨trivial,trivial⟩
    ·cases hE
   ·cases hE
  ·cases hE
 | WI x =>
  simp only [mX] at hs
  simp only [cO] at hE ⊢
  obtain ⟨v,h1,h2⟩:=zbm hE
  rw [hs.val,h1]
  simp only [Option.bind_some]
  split at h2
  ·obtain ⟨s,h3,h4⟩:=zbm h2
   cases h4
   simp only [h3,Option.bind_some,one]
   exact ⟨trivial,trivial⟩
  ·cases h2;exact ⟨rfl,rfl⟩
  ·split at h2
   ·rename_i gy
    split at h2
    ·rename_i hz
     obtain ⟨s,h3,h4⟩:=zbm h2
     cases h4
     simp only [ho _ _ gy,if_pos hz,h3,Option.bind_some,one]
     exact ⟨trivial,trivial⟩
    ·cases h2
   ·cases h2
  ·cases h2
end
end Go.Proofs.Ytfokaoeinpnagaa.Ev
namespace Go.Proofs.Ytfokaoeinpnagaa.Ev
open Go
section
variable {Γ : Env} {d:Nat} {σ σ2 σ':St} {pv:PV}
theorem Ut {α:Type} {l:List (Nat × α)} {k:Nat} (h:∀ p ∈ l,p.1 ≠ k):rem l k = l:=by
 induction l with
 | nil=>rfl
 | cons p l ih =>
  obtain ⟨j,u⟩:=p
  unfold rem
  rw [if_neg (h _ List.mem_cons_self),ih (fun p hp=>h p (List.mem_cons_of_mem _ hp))]
theorem jE {key:Nat}:fresh σ key = true ↔ (∀ p ∈ σ.ob,p.1 ≠ key ∧ mq key p.2 = false) ∧ ∀ p ∈ σ.tm,qN key p.2 = false:=by
 simp [fresh]
theorem jd {key:Nat} (h:fresh σ key = true) (o:Ob):new σ key o = some ⟨σ.tm,(key,o) :: σ.ob⟩:=by
 obtain ⟨h1,h2⟩:=jE.mp h
 have hr:=Ut (fun p hp=>(h1 p hp).1)
 unfold new WJ
 rw [hr,if_neg]
 ·simp only [Option.map_some]
  rw [List.filter_eq_self.mpr (fun p hp=>by rw [h2 p hp];rfl)]
 ·intro hc
  obtain ⟨p,hp,hm⟩:=List.any_eq_true.mp hc
  rw [(h1 p hp).2] at hm;cases hm
theorem Jl {x:PL} {y:FV} (hn:gG x = false) (h:xg σ x = some (y,σ')):σ' = σ ∧ xg σ2 x = some (y,σ2):=by
 cases x with
 | f x=>cases h;exact ⟨rfl,rfl⟩
 | dN=>cases h;exact ⟨rfl,rfl⟩
 | own k n=>cases hn
 | _=>cases h
theorem yg : ∀ {xs:List PL} {ys:List FV} {σ':St},xs.any gG = false → kQ σ xs = some (ys,σ') → σ' = σ ∧ kQ σ2 xs = some (ys,σ2)
 | [],ys,σ',_,h=>by cases h;exact ⟨rfl,rfl⟩
 | x :: xs,ys,σ',hn,h=>by
  obtain ⟨p,h1,h2⟩:=zbm h
  obtain ⟨r,h3,h4⟩:=zmm h2
  cases h4
  simp only [List.any_cons,Bool.or_eq_false_iff] at hn
  obtain ⟨e1,e2⟩:=Jl (σ2:=σ2) hn.1 h1
  rw [e1] at h3
  obtain ⟨e3,e4⟩:=yg hn.2 h3
  exact ⟨e3,by unfold kQ;rw [e2];simp only [Option.bind_some];rw [e4];rfl⟩
theorem Yt {i:I} (hi:jT i = true) (hs:Same (mX i) σ σ2) (hf:fresh σ (dF d) = true) (hf2:fresh σ2 (dF d) = true) (hE:cO Γ true σ d i = some (pv,σ')) :
  ∃ o,σ' = ⟨σ.tm,(dF d,o) :: σ.ob⟩ ∧ cO Γ true σ2 d i = some (pv,⟨σ2.tm,(dF d,o) :: σ2.ob⟩):=by
 cases i <;> first | cases hi | skip
 ·rename_i e z
  simp only [cO] at hE ⊢
  split at hE
  ·cases hE
  ·rename_i hm
   simp only [iA,jd hf,Option.map_some] at hE
   cases hE
   refine ⟨_,rfl,?_⟩
   rw [if_neg hm]
   simp only [iA,jd hf2,Option.map_some]
 ·rename_i e x
  simp only [mX] at hs
  simp only [cO] at hE ⊢
  obtain ⟨v,h1,h2⟩:=zbm hE
  split at h2
  ·cases h2
  ·rename_i hm
   simp only [iA,jd hf,Option.map_some] at h2
   cases h2
   refine ⟨_,rfl,?_⟩
   rw [hs.val,h1]
   simp only [Option.bind_some]
   rw [if_neg hm]
   simp only [iA,jd hf2,Option.map_some]
 ·rename_i e sz len z ps
  simp only [mX] at hs
  simp only [cO] at hE ⊢
  obtain ⟨v,h1,hE⟩:=zbm hE
  obtain ⟨u,h2,hE⟩:=zbm hE
  split at hE
  ·cases hE
  ·rename_i hm
   obtain ⟨p,h3,hE⟩:=zbm hE
   have hn:u.any gG = false:=by simpa using hm
   obtain ⟨e1,e2⟩:=yg (σ2:=σ2) hn h3
   rw [e1] at hE
   simp only [iA,jd hf,Option.map_some] at hE
   cases hE
   refine ⟨_,rfl,?_⟩
   rw [hs.vals,h1]
   simp only [Option.bind_some,h2]
   rw [if_neg hm,e2]
   simp only [Option.bind_some,iA,jd hf2,Option.map_some]
 ·rename_i sh
  simp only [cO] at hE ⊢
  simp only [iA,jd hf,Option.map_some] at hE
  cases hE
  exact ⟨_,rfl,by simp only [iA,jd hf2,Option.map_some]⟩
 ·rename_i f xs
  simp only [mX] at hs
  simp only [cO,rZ] at hE ⊢
  obtain ⟨l,h1,hE⟩:=zbm hE
  obtain ⟨fK,h2,hE⟩:=zbm hE
  obtain ⟨r,h3,hE⟩:=zbm hE
  obtain ⟨p,h4,hE⟩:=zbm hE
  simp only [jd hf,Option.map_some] at hE
  cases hE
  refine ⟨_,rfl,?_⟩
  rw [hs.jg,h1]
  simp only [Option.bind_some,h2,h3,h4,jd hf2,Option.map_some]
end
end Go.Proofs.Ytfokaoeinpnagaa.Ev
namespace Go.Proofs.Ytfokaoeinpnagaa.Ev
open Go
def rd (g:G):List Nat:=mX g.i ++ match g.gd with
 | some (some s,_)=>[s]
 | _=>[]
section
variable {Γ : Env} {d:Nat} {σ σ2 σ':St} {pv:PV}
theorem Le {g:G} (hs:Same (rd g) σ σ2):zD σ2 g.gd = zD σ g.gd:=by
 unfold rd at hs
 have hr:=hs.r
 cases hg:g.gd with
 | none=>rfl
 | some p =>
  obtain ⟨s,want⟩:=p
  cases s with
  | none=>rfl
  | some s =>
   rw [hg] at hr
   simp only [zD]
   rw [hr s (by simp)]
theorem sN {g:G} (hi:OA g.i = true) (hs:Same (rd g) σ σ2) (ho:∀ k o,get σ.ob k = some o → get σ2.ob k = some o) (hE:mD Γ true σ g = some (pv,σ')):σ' = σ ∧ mD Γ true σ2 g = some (pv,σ2):=by
 unfold mD at hE ⊢
 obtain ⟨t,h1,h2⟩:=zbm hE
 rw [Le hs,h1]
 simp only [Option.bind_some]
 cases t with
 | true =>
  rw [if_pos rfl] at h2 ⊢
  exact OB hi (by unfold rd at hs;exact hs.l) ho h2
 | false =>
  rw [if_neg (by decide)] at h2 ⊢
  cases h2
  exact ⟨rfl,rfl⟩
theorem Lf {g:G} (hi:jT g.i = true) (hg:g.gd = none) (hs:Same (rd g) σ σ2) (hf:fresh σ (dF (g.dst.getD 999)) = true) (hf2:fresh σ2 (dF (g.dst.getD 999)) = true) (hE:mD Γ true σ g = some (pv,σ')) :
  ∃ o,σ' = ⟨σ.tm,(dF (g.dst.getD 999),o) :: σ.ob⟩ ∧ mD Γ true σ2 g = some (pv,⟨σ2.tm,(dF (g.dst.getD 999),o) :: σ2.ob⟩):=by
 unfold mD at hE ⊢
 rw [hg] at hE ⊢
 simp only [zD,Option.bind_some,if_true] at hE ⊢
 exact Yt hi (by unfold rd at hs;exact hs.l) hf hf2 hE
theorem get_put {α:Type} {l:List (Nat × α)} {i j:Nat} {v:α}:get (put l i v) j = if j = i then some v else get l j:=by
 have aes:∀ {l:List (Nat × α)} {i j:Nat},j ≠ i → get (rem l i) j = get l j:=by
  intro l i j hj
  induction l with
  | nil=>rfl
  | cons p l ih =>
   obtain ⟨k,u⟩:=p
   unfold rem
   by_cases hk:k = i
   ·rw [if_pos hk,ih]
    conv=>rhs;unfold get
    rw [if_neg (fun e=>hj (by omega))]
   ·rw [if_neg hk]
    unfold get
    rw [ih]
 induction l with
 | nil =>
  unfold put get
  by_cases h:j = i
  ·rw [if_pos h,if_pos h.symm]
  ·rw [if_neg h,if_neg (fun e=>h e.symm)];rfl
 | cons p l ih =>
  obtain ⟨k,u⟩:=p
  unfold put
  by_cases hk:k = i
  ·rw [if_pos hk]
   unfold get
   by_cases h:j = i
   ·rw [if_pos h,if_pos h.symm]
   ·rw [if_neg h,if_neg (fun e=>h e.symm),aes h,if_neg (fun e=>h (by omega))]
  ·rw [if_neg hk]
   unfold get
   by_cases hkj:k = j
   ·rw [if_pos hkj,if_neg (by omega),if_pos hkj]
   ·rw [if_neg hkj,ih,if_neg hkj]
theorem Du {b:Bool} (h:¬ b = true):b = false:=Bool.eq_false_iff.mpr h
def jh (Γ:Env) (qO:List (Nat × Ob)) (pre:List (G × List Nat)) (zJ:List (Nat × PV)):Nat → List (Nat × PV)
 | 0=>zJ
 | i + 1=>match pre[i]? with
  | some g=>match mD Γ true ⟨jh Γ qO pre zJ i,qO⟩ g.1 with
   | some p=>su g.1.dst (jh Γ qO pre zJ i) p.1
   | none=>jh Γ qO pre zJ i
  | none=>jh Γ qO pre zJ i
structure Can (Γ:Env) (qO:List (Nat × Ob)) (pre:List (G × List Nat)) (zJ:List (Nat × PV)) (i:Nat) (pv:PV) (s:St):Prop where
 lt:i < pre.length
 ev:mD Γ true ⟨jh Γ qO pre zJ i,qO⟩ (pre[i]'lt).1 = some (pv,s)
 nx:jh Γ qO pre zJ (i + 1) = su (pre[i]'lt).1.dst (jh Γ qO pre zJ i) pv
 nk:∀ k ∈ (pre[i]'lt).2,qN k pv = false ∧ (jT (pre[i]'lt).1.i = true → ∀ r ∈ s.ob.take 1,r.1 ≠ k ∧ mq k r.2 = false)
theorem Dv {qO:List (Nat × Ob)} {pre:List (G × List Nat)} {zJ:List (Nat × PV)}:∀ (n i:Nat) (obx:List (Nat × Ob)) (s:St),n + i = pre.length → Oh Γ qO (pre.drop i) ⟨jh Γ qO pre zJ i,obx⟩ = some s →
  (∀ j,i ≤ j → j < pre.length → ∃ pv st,Can Γ qO pre zJ j pv st) ∧ s.tm = jh Γ qO pre zJ pre.length ∧
  ∃ news,s.ob = news ++ obx ∧ ∀ p ∈ news,∃ j pv st,i ≤ j ∧ j < pre.length ∧ ∃ (h:Can Γ qO pre zJ j pv st),jT (pre[j]'h.lt).1.i = true ∧ p ∈ st.ob.take 1
 | 0,i,obx,s,hn,hE=>by
  rw [List.drop_eq_nil_of_le (by omega)] at hE
  cases hE
  refine ⟨fun j h1 h2=>by omega,by rw [show pre.length = i from by omega],[],rfl,fun p hp=>by simp at hp⟩
 | n + 1,i,obx,s,hn,hE=>by
  have hi:i < pre.length:=by omega
  rw [List.drop_eq_getElem_cons hi] at hE
  obtain ⟨g,nk,hp⟩:∃ g nk,pre[i] = (g,nk):=⟨_,_,rfl⟩
  rw [hp] at hE
  simp only [Oh] at hE
  obtain ⟨p,h1,h2⟩:=zbm hE
  split at h2
  ·cases h2
  ·rename_i hnk
   have hnx:jh Γ qO pre zJ (i + 1) = su g.dst (jh Γ qO pre zJ i) p.1:=by
    conv=>lhs;unfold jh
    rw [List.getElem?_eq_getElem hi,hp]
    simp only [h1]
   have hcan:Can Γ qO pre zJ i p.1 p.2:=⟨hi,by rw [hp];exact h1,by rw [hp];exact hnx,fun k hk=>by
    rw [hp] at hk ⊢
    have hk':¬ (qN k p.1 || (jT g.i && (p.2.ob.take 1).any (fun r=>r.1 == k || mq k r.2))) = true:=fun hc=>hnk (List.any_eq_true.mpr ⟨k,hk,hc⟩)
    rw [Bool.or_eq_true,not_or] at hk'
    refine ⟨Du hk'.1,fun hN r hr=>?_⟩
    have:=hk'.2
    rw [hN,Bool.true_and] at this
    have hr':¬ (r.1 == k || mq k r.2) = true:=fun hc=>this (List.any_eq_true.mpr ⟨r,hr,hc⟩)
    rw [Bool.or_eq_true,not_or] at hr'
    exact ⟨by simpa using hr'.1,Du hr'.2⟩⟩
   rw [← hnx] at h2
   obtain ⟨e1,e2,news,e3,e4⟩:=Dv n (i + 1) _ s (by omega) h2
   refine ⟨fun j h3 h4=>?_,e2,news ++ (if jT g.i then p.2.ob.take 1 else []),?_,fun r hr=>?_⟩
   ·by_cases hj:j = i
    ·subst hj;exact ⟨_,_,hcan⟩
    ·exact e1 j (by omega) h4
   ·rw [e3]
    cases jT g.i <;> simp
   ·rcases List.mem_append.mp hr with h | h
    ·obtain ⟨j,pv,st,h3,h4,h5⟩:=e4 r h
     exact ⟨j,pv,st,by omega,h4,h5⟩
    ·split at h
     ·rename_i hN
      exact ⟨i,p.1,p.2,Nat.le_refl _,hi,hcan,by rw [hp];exact hN,h⟩
     ·simp at h
end
end Go.Proofs.Ytfokaoeinpnagaa.Ev
namespace Go.Proofs.Ytfokaoeinpnagaa.Ev
open Go
def jF (o:Oper):List Nat:=(o.after.toList.filter (fun e=>Region.binds .any e)).map (·.on)
inductive Jm (ops:Array Oper):Nat → Nat → Prop
 | dir {i e:Nat} (h:i < ops.size) (he:e ∈ jF ops[i]):Jm ops e i
 | step {i e j:Nat} (h:i < ops.size) (he:e ∈ jF ops[i]) (hj:Jm ops j e):Jm ops j i
def isLt (g:G):Bool:=g.dst.isNone && g.gd.isNone && (match g.i with
 | .store _ _ _=>true
 | _=>false)
structure Lg (ops:Array Oper) (pre:List (G × List Nat)) (lS:List Nat) (jO rest:List G):Prop where
 len:ops.size = pre.length + (jO.length + rest.length)
 lt:∀ i (h:i < ops.size),∀ e ∈ jF ops[i],e < i
 data:∀ i (h:i < pre.length) (h':i < ops.size),∀ s ∈ rd pre[i].1,∀ j (hj:j < pre.length),pre[j].1.dst = some s → j ∈ jF ops[i]
 dst:∀ i j (h:i < pre.length) (hj:j < pre.length),i ≠ j → ∀ s,pre[i].1.dst = some s → pre[j].1.dst ≠ some s
 cls:∀ i (h:i < pre.length),OA pre[i].1.i = true ∨ (jT pre[i].1.i = true ∧ pre[i].1.gd = none)
 nk:∀ i j (h:i < pre.length) (hj:j < pre.length),i ≠ j → jT pre[i].1.i = true → dF (pre[i].1.dst.getD 999) ∈ pre[j].2 ∨ Jm ops i j
 tl:∀ k,pre.length ≤ k → k < ops.size → ∀ j,j < k → Jm ops j k ∨ (j < pre.length ∧ j ∈ lS ∧ k < pre.length + jO.length)
 fl:∀ j ∈ lS,∀ (h:j < pre.length),OA pre[j].1.i = true
 lt':∀ g ∈ jO,isLt g = true
 ld:∀ m (h:m < jO.length) (h':pre.length + m < ops.size),∀ s ∈ rd jO[m],∀ j (hj:j < pre.length),pre[j].1.dst = some s → j ∈ jF ops[pre.length + m]
def Dn (l:Array Bool) (i:Nat):Prop:=l.getD i false = true
section
variable {P : Program} {Γ:Env} {bG:Nat → Prop} {w0 w w':World} {bF:List Nat} {N:Fr} {jk:Nat → Value} {σ σ':St} {a:Act} {X:Hx} {ops:Array Oper} {pre:List (G × List Nat)} {lS:List Nat} {jO rest:List G} {l:Array Bool} {Q:Exit → Act → World → Prop}
def Down (ops:Array Oper) (l:Array Bool):Prop:=∀ i (h:i < ops.size),Dn l i → ∀ e ∈ jF ops[i],Dn l e
theorem Down.Yu (hd:Down ops l) (hD:Lg ops pre lS jO rest) {i j:Nat} (hb:Jm ops j i):(∀ (h:i < ops.size),∀ e ∈ jF ops[i],Dn l e) → Dn l j:=by
 induction hb with
 | dir h he=>intro hr;exact hr h _ he
 | step h he hj ih =>
  intro hr
  exact ih (fun h'=>hd _ h' (hr h _ he))
theorem je {i:Nat} (hl:l.size = ops.size):i ∈ Region.ready .any ops l ↔ ∃ (h:i < ops.size),¬ Dn l i ∧ ∀ e ∈ jF ops[i],Dn l e:=by
 unfold Region.ready
 rw [List.mem_filter,List.mem_range]
 constructor
 ·rintro ⟨h,hh⟩
  refine ⟨h,?_⟩
  rw [Bool.and_eq_true,Array.getElem?_eq_getElem h] at hh
  simp only [Option.map_some,Option.getD_some] at hh
  refine ⟨fun hd=>?_,fun e he=>?_⟩
  ·have h1:=hh.1
   unfold Dn at hd
   rw [Array.getD_eq_getD_getElem?,Array.getElem?_eq_getElem (by omega)] at hd h1
   simp only [Option.getD_some] at hd h1
   rw [hd] at h1;cases h1
  ·obtain ⟨x,hx,rfl⟩:=List.mem_map.mp he
   obtain ⟨hx1,hx2⟩:=List.mem_filter.mp hx
   have:=(Array.all_eq_true_iff_forall_mem.mp hh.2) x (by simpa using hx1)
   rw [hx2] at this
   exact this
 ·rintro ⟨h,h1,h2⟩
  refine ⟨h,?_⟩
  rw [Bool.and_eq_true,Array.getElem?_eq_getElem h]
  simp only [Option.map_some,Option.getD_some]
  constructor
  ·unfold Dn at h1
   rw [Array.getD_eq_getD_getElem?,Array.getElem?_eq_getElem (by omega)] at h1 ⊢
   simp only [Option.getD_some] at h1 ⊢
   simpa using h1
  ·refine Array.all_eq_true_iff_forall_mem.mpr fun x hx=>?_
   cases hb:Region.binds .any x with
   | false=>rfl
   | true=>exact h2 x.on (List.mem_map.mpr ⟨x,List.mem_filter.mpr ⟨by simpa using hx,hb⟩,rfl⟩)
theorem Dn.set {i j:Nat} (hi:i < l.size):Dn (l.setIfInBounds i true) j ↔ j = i ∨ Dn l j:=by
 unfold Dn
 rw [Array.getD_eq_getD_getElem?,Array.getD_eq_getD_getElem?,Array.getElem?_setIfInBounds]
 by_cases h:i = j
 ·subst h
  rw [if_pos rfl,if_pos hi]
  simp
 ·rw [if_neg h]
  constructor
  ·exact fun hh=>.inr hh
  ·rintro (hh | hh)
   ·exact absurd hh.symm h
   ·exact hh
def left (l:Array Bool):Nat:=(l.toList.filter (!·)).length
theorem nL {i:Nat} (hi:i < l.size) (hn:¬ Dn l i):left (l.setIfInBounds i true) + 1 = left l:=by
 unfold left
 rw [Array.toList_setIfInBounds]
 have hv:l.toList[i]? = some false:=by
  unfold Dn at hn
  rw [Array.getD_eq_getD_getElem?,Array.getElem?_eq_getElem hi] at hn
  simp only [Option.getD_some] at hn
  rw [Array.getElem?_toList,Array.getElem?_eq_getElem hi]
  simpa using hn
 have key:∀ (l:List Bool) (i:Nat),l[i]? = some false → ((l.set i true).filter (!·)).length + 1 = (l.filter (!·)).length:=by
  intro l
  induction l with
  | nil=>intro i h;simp at h
  | cons b l ih =>
   intro i h
   cases i with
   | zero=>simp at h;subst h;simp
   | succ i =>
    have:=ih i (by simpa using h)
    cases b <;> simp_all
 exact key l.toList i hv
theorem sO (hd:Down ops l) {i:Nat} (hl:l.size = ops.size) (hi:i < ops.size) (hr:∀ e ∈ jF ops[i],Dn l e):Down ops (l.setIfInBounds i true):=by
 intro j hj hD e he
 rcases (Dn.set (by omega)).mp hD with rfl | hD
 ·exact (Dn.set (by omega)).mpr (.inr (hr e he))
 ·exact (Dn.set (by omega)).mpr (.inr (hd j hj hD e he))
theorem pE (hD:Lg ops pre lS jO rest) (hl:l.size = ops.size) {i:Nat} (hi:i < ops.size) (hn:¬ Dn l i):Region.ready .any ops l ≠ []:=by
 have key:∀ (n i:Nat),i ≤ n → (hi:i < ops.size) → ¬ Dn l i → ∃ j,j ∈ Region.ready .any ops l:=by
  intro n
  induction n with
  | zero =>
   intro i h0 hi hn
   exact ⟨i,(je hl).mpr ⟨hi,hn,fun e he=>by have:=hD.lt i hi e he;omega⟩⟩
  | succ n ih =>
   intro i h0 hi hn
   by_cases hall:∀ e ∈ jF ops[i],Dn l e
   ·exact ⟨i,(je hl).mpr ⟨hi,hn,hall⟩⟩
   ·have:∃ e,e ∈ jF ops[i] ∧ ¬ Dn l e:=by
     apply Classical.byContradiction
     intro hc
     exact hall (fun e he=>Classical.byContradiction fun hne=>hc ⟨e,he,hne⟩)
    obtain ⟨e,he,hne⟩:=this
    have:=hD.lt i hi e he
    exact ih e (by omega) (by omega) hne
 obtain ⟨j,hj⟩:=key i i (Nat.le_refl _) hi hn
 intro e
 rw [e] at hj
 simp at hj
end
end Go.Proofs.Ytfokaoeinpnagaa.Ev
namespace Go.Proofs.Ytfokaoeinpnagaa.Ev
open Go
section
variable {P : Program} {Γ:Env} {bG:Nat → Prop} {w0 w w':World} {bF:List Nat} {N:Fr} {jk:Nat → Value} {σ σ':St} {a:Act} {X:Hx} {ops:Array Oper} {pre:List (G × List Nat)} {lS:List Nat} {jO rest:List G} {l:Array Bool} {Q:Exit → Act → World → Prop}
theorem jV : ∀ {l:List Oper} {gs:List G},lG P X ops N.ok l = some gs → l.length = gs.length ∧ ∀ i (h:i < l.length) (h':i < gs.length),xL P X ops N.ok l[i] = some gs[i]
 | [],gs,h=>by cases h;exact ⟨rfl,fun i h=>by simp at h⟩
 | o :: l,gs,h=>by
  obtain ⟨g,h1,h2⟩:=zbm h
  obtain ⟨r,h3,rfl⟩:=zmm h2
  obtain ⟨e1,e2⟩:=jV h3
  refine ⟨by simp [e1],fun i hi hi'=>?_⟩
  cases i with
  | zero=>exact h1
  | succ i=>exact e2 i (by simpa using hi) (by simpa using hi')
theorem kS {fuel:Nat}:wpAny P .any ops Q (fuel + 1) l a w = ((Region.ready .any ops l = [] → Q .normal a w) ∧ ∀ i ∈ Region.ready .any ops l,wpOp P ops Q i (wpAny P .any ops Q fuel (l.setIfInBounds i true)) a w):=rfl
theorem Uu (hD:Lg ops pre lS jO rest) (heq:∀ t ∈ X.eqs,lH P t) (lX:iN P Γ) (hC:eu P Γ) (hc:lG P X ops N.ok ops.toList = some (pre.map (·.1) ++ (jO ++ rest))) (hQ:∀ a' w',Ok bG w0 bF N jk σ' a' w' → Q .normal a' w') :
  ∀ (fuel k:Nat) (l:Array Bool) (σ:St) (a:Act) (w:World),l.size = ops.size → pre.length + jO.length ≤ k → k ≤ ops.size → (∀ i,i < ops.size → (Dn l i ↔ i < k)) → Down ops l → left l ≤ fuel → Ok bG w0 bF N jk σ a w → xC Γ false (rest.drop (k - (pre.length + jO.length))) σ = some σ' → wpAny P .any ops Q fuel l a w:=by
 intro fuel
 have hcg:=jV hc
 have hlen:=hD.len
 have nil:∀ {k:Nat} {l:Array Bool},l.size = ops.size → k = ops.size → (∀ i,i < ops.size → (Dn l i ↔ i < k)) → Region.ready .any ops l = []:=by
  intro k l hl hk hd
  refine List.eq_nil_iff_forall_not_mem.mpr fun i hi=>?_
  obtain ⟨h1,h2,_⟩:=(je hl).mp hi
  exact h2 ((hd i h1).mpr (by omega))
 have pos:∀ {k:Nat} {l:Array Bool},l.size = ops.size → k < ops.size → (∀ i,i < ops.size → (Dn l i ↔ i < k)) → 0 < left l:=by
  intro k l hl hk hd
  have:=nL (l:=l) (i:=k) (by omega) (fun h=>by have:=(hd k hk).mp h;omega)
  omega
 induction fuel with
 | zero =>
  intro k l σ a w hl h1 h2 hd hdn hf h hE
  by_cases hk:k = ops.size
  ·refine ⟨nil hl hk hd,?_⟩
   rw [List.drop_eq_nil_of_le (by omega)] at hE
   cases hE
   exact hQ a w h
  ·have:=pos hl (by omega) hd
   omega
 | succ fuel ih =>
  intro k l σ a w hl h1 h2 hd hdn hf h hE
  rw [kS]
  by_cases hk:k = ops.size
  ·have hn:=nil hl hk hd
   refine ⟨fun _=>?_,fun i hi=>by rw [hn] at hi;simp at hi⟩
   rw [List.drop_eq_nil_of_le (by omega)] at hE
   cases hE
   exact hQ a w h
  ·have hk':k < ops.size:=by omega
   have hnk:¬ Dn l k:=fun hh=>by have:=(hd k hk').mp hh;omega
   refine ⟨fun hn=>absurd hn (pE hD hl hk' hnk),fun i hi=>?_⟩
   obtain ⟨hi1,hi2,hi3⟩:=(je hl).mp hi
   have hik:i = k:=by
    have hge:k ≤ i:=by
     apply Classical.byContradiction
     intro hlt
     exact hi2 ((hd i hi1).mpr (by omega))
    apply Classical.byContradiction
    intro hne
    rcases hD.tl i (by omega) hi1 k (by omega) with hb | ⟨_,_,hb⟩
    ·exact hnk (hdn.Yu hD hb (fun _=>hi3))
    ·omega
   subst hik
   unfold wpOp
   rw [Array.getElem?_eq_getElem hi1]
   have ht:i - (pre.length + jO.length) < rest.length:=by omega
   rw [List.drop_eq_getElem_cons ht] at hE
   obtain ⟨s,h4,h5⟩:=zbm hE
   have hg:=hcg.2 i (by simpa using hi1) (by simp;omega)
   rw [List.getElem_append_right (by simp;omega),List.getElem_append_right (by simp;omega)] at hg
   simp only [List.length_map,Array.getElem_toList,Nat.sub_sub] at hg
   refine BN heq lX hC hg h h4 fun a' w' h'=>?_
   refine ih (i + 1) _ s a' w' (by simp [hl]) (by omega) (by omega) (fun j hj=>?_) (sO hdn hl hi1 hi3) ?_ h' (by rw [show i + 1 - (pre.length + jO.length) = i - (pre.length + jO.length) + 1 from by omega];exact h5)
   ·rw [Dn.set (by omega)]
    rw [hd j hj]
    omega
   ·have:=nL (l:=l) (i:=i) (by omega) hnk
    omega
end
end Go.Proofs.Ytfokaoeinpnagaa.Ev
namespace Go.Proofs.Ytfokaoeinpnagaa.Ev
open Go
structure Lh (Γ:Env) (pre:List (G × List Nat)) (fH:St) (l:Array Bool) (σ:St):Prop where
 tg1:∀ i pv st (h:Can Γ fH.ob pre fH.tm i pv st),Dn l i → ∀ s,(pre[i]'h.lt).1.dst = some s → get σ.tm s = some pv
 tg2:∀ s,(∀ i (h:i < pre.length),Dn l i → pre[i].1.dst ≠ some s) → get σ.tm s = get fH.tm s
 ob1:∃ news,σ.ob = news ++ fH.ob ∧ ∀ p ∈ news,∃ i,∃ (h:i < pre.length),jT pre[i].1.i = true ∧ p.1 = dF (pre[i].1.dst.getD 999)
 ob2:∀ i pv st (h:Can Γ fH.ob pre fH.tm i pv st),Dn l i → jT (pre[i]'h.lt).1.i = true → ∀ p ∈ st.ob.take 1,p ∈ σ.ob
 fr:∀ i (h:i < pre.length),jT pre[i].1.i = true → ¬ Dn l i → fresh σ (dF (pre[i].1.dst.getD 999)) = true
section
variable {Γ : Env} {σ fH σ':St} {ops:Array Oper} {pre:List (G × List Nat)} {lS:List Nat} {jO rest:List G} {l:Array Bool}
theorem Can.uniq {qO:List (Nat × Ob)} {zJ:List (Nat × PV)} {i:Nat} {pv pv':PV} {s s':St} (h:Can Γ qO pre zJ i pv s) (h':Can Γ qO pre zJ i pv' s'):pv = pv' ∧ s = s':=by
 have:=h.ev.symm.trans h'.ev
 simp only [Option.some.injEq,Prod.mk.injEq] at this
 exact this
theorem pF {d:Option Nat} {tm:List (Nat × PV)} {v:PV} {s:Nat}:get (su d tm v) s = if d = some s then some v else get tm s:=by
 cases d with
 | none=>simp [su]
 | some d =>
  simp only [su,get_put,Option.some.injEq]
  by_cases h:s = d
  ·rw [if_pos h,if_pos h.symm]
  ·rw [if_neg h,if_neg (fun e=>h e.symm)]
theorem Dw {d:Option Nat} {tm:List (Nat × PV)} {v:PV} {p:Nat × PV} (h:p ∈ su d tm v):p.2 = v ∨ p ∈ tm:=by
 cases d with
 | none=>exact .inr h
 | some d =>
  rcases iB h with rfl | ⟨h,_⟩
  ·exact .inl rfl
  ·exact .inr h
theorem sP (hD:Lg ops pre lS jO rest) (hall:∀ j,j < pre.length → ∃ pv st,Can Γ fH.ob pre fH.tm j pv st):∀ i,i ≤ pre.length →
  (∀ j pv st (h:Can Γ fH.ob pre fH.tm j pv st),j < i → ∀ s,(pre[j]'h.lt).1.dst = some s → get (jh Γ fH.ob pre fH.tm i) s = some pv) ∧
  (∀ s,(∀ j (h:j < pre.length),j < i → pre[j].1.dst ≠ some s) → get (jh Γ fH.ob pre fH.tm i) s = get fH.tm s) ∧
  ∀ p ∈ jh Γ fH.ob pre fH.tm i,p ∈ fH.tm ∨ ∃ j pv st,j < i ∧ Can Γ fH.ob pre fH.tm j pv st ∧ p.2 = pv
 | 0,_=>⟨fun j _ _ _ h=>by omega,fun s _=>rfl,fun p hp=>.inl hp⟩
 | i + 1,hi=>by
  obtain ⟨e1,e2,e3⟩:=sP hD hall i (by omega)
  obtain ⟨pv,st,hc⟩:=hall i (by omega)
  rw [hc.nx]
  refine ⟨fun j pv' st' h hj s hs=>?_,fun s hs=>?_,fun p hp=>?_⟩
  ·rw [pF]
   by_cases hji:j = i
   ·subst hji
    rw [if_pos hs,(h.uniq hc).1]
   ·rw [if_neg (hD.dst j i h.lt hc.lt hji s hs),e1 j pv' st' h (by omega) s hs]
  ·rw [pF,if_neg (hs i hc.lt (by omega))]
   exact e2 s (fun j h hj=>hs j h (by omega))
  ·rcases Dw hp with h | h
   ·exact .inr ⟨i,pv,st,by omega,hc,h⟩
   ·rcases e3 p h with h | ⟨j,pv',st',h1,h2,h3⟩
    ·exact .inl h
    ·exact .inr ⟨j,pv',st',by omega,h2,h3⟩
theorem Jm.lt (hD:Lg ops pre lS jO rest) {i j:Nat} (h:Jm ops j i):j < i:=by
 induction h with
 | dir h he=>exact hD.lt _ h _ he
 | step h he hj ih=>have:=hD.lt _ h _ he;omega
theorem He {α:Type} {l m:List (Nat × α)} {k:Nat} (h:∀ p ∈ l,p.1 ≠ k):get (l ++ m) k = get m k:=by
 induction l with
 | nil=>rfl
 | cons p l ih =>
  obtain ⟨j,u⟩:=p
  rw [List.cons_append]
  conv=>lhs;unfold get
  rw [if_neg (h _ List.mem_cons_self),ih (fun p hp=>h p (List.mem_cons_of_mem _ hp))]
theorem BO : ∀ {i:I},OA i = true → jT i = true → False:=by
 intro i h1 h2
 cases i <;> simp [OA,jT] at h1 h2
theorem Yv (hD:Lg ops pre lS jO rest) (hall:∀ j,j < pre.length → ∃ pv st,Can Γ fH.ob pre fH.tm j pv st) (hfr:∀ i (h:i < pre.length),jT pre[i].1.i = true → fresh fH (dF (pre[i].1.dst.getD 999)) = true)
  (hI:Lh Γ pre fH l σ) (hl:l.size = ops.size) (hdn:Down ops l) {i:Nat} (hi:i < pre.length) (hi':i < ops.size) (hn:¬ Dn l i) (hr:∀ e ∈ jF ops[i],Dn l e) :
  ∃ pv σ1,mD Γ true σ pre[i].1 = some (pv,σ1) ∧ Lh Γ pre fH (l.setIfInBounds i true) (sj σ1 pre[i].1.dst pv):=by
 obtain ⟨pv,st,hc⟩:=hall i hi
 obtain ⟨c1,c2,c3⟩:=sP hD hall i (by omega)
 have hset:∀ {j},Dn (l.setIfInBounds i true) j ↔ j = i ∨ Dn l j:=fun {j}=>Dn.set (by omega)
 have hsame:Same (rd pre[i].1) ⟨jh Γ fH.ob pre fH.tm i,fH.ob⟩ σ:=by
  intro s hs
  by_cases hw:∃ j,∃ (h:j < pre.length),pre[j].1.dst = some s
  ·obtain ⟨j,hj,hjs⟩:=hw
   have hje:=hD.data i hi hi' s hs j hj hjs
   obtain ⟨pv',st',hc'⟩:=hall j hj
   rw [hI.tg1 j pv' st' hc' (hr j hje) s hjs,c1 j pv' st' hc' (hD.lt i hi' j hje) s hjs]
  ·have hw':∀ j (h:j < pre.length),pre[j].1.dst ≠ some s:=fun j h e=>hw ⟨j,h,e⟩
   rw [hI.tg2 s (fun j h _=>hw' j h),c2 s (fun j h _=>hw' j h)]
 have hnk:∀ j (h:j < pre.length),jT pre[j].1.i = true → ¬ Dn l j → j ≠ i → dF (pre[j].1.dst.getD 999) ∈ pre[i].2:=by
  intro j h hN hdj hji
  rcases hD.nk j i h hi hji hN with h1 | h1
  ·exact h1
  ·exact absurd (hdn.Yu hD h1 (fun _=>hr)) hdj
 obtain ⟨news,ho1,ho2⟩:=hI.ob1
 have hkey:∀ k o,get fH.ob k = some o → get σ.ob k = some o:=by
  intro k o hk
  rw [ho1,He]
  ·exact hk
  ·intro p hp e
   obtain ⟨j,hj,hN,hpk⟩:=ho2 p hp
   have:=(jE.mp (hfr j hj hN)).1 _ (get_mem hk)
   exact this.1 (by show k = _;rw [← e,hpk])
 have fin:∀ (σ1:St) (new:List (Nat × Ob)),σ1.tm = σ.tm → σ1.ob = new ++ σ.ob → (∀ p ∈ new,jT pre[i].1.i = true ∧ p.1 = dF (pre[i].1.dst.getD 999)) → (jT pre[i].1.i = true → new = st.ob.take 1) → Lh Γ pre fH (l.setIfInBounds i true) (sj σ1 pre[i].1.dst pv):=by
  intro σ1 new ht gy hnew hst
  have RV:(sj σ1 pre[i].1.dst pv).tm = su pre[i].1.dst σ.tm pv:=by
   unfold sj su
   cases pre[i].1.dst <;> simp [ht]
  have Uv:(sj σ1 pre[i].1.dst pv).ob = new ++ σ.ob:=by
   unfold sj
   cases pre[i].1.dst <;> simp [gy]
  refine ⟨fun j pv' st' h hd s hs=>?_,fun s hs=>?_,⟨new ++ news,by rw [Uv,ho1,List.append_assoc],fun p hp=>?_⟩,fun j pv' st' h hd hN p hp=>?_,fun j h hN hd=>?_⟩
  ·rw [RV,pF]
   rcases hset.mp hd with rfl | hd
   ·rw [if_pos hs,(h.uniq hc).1]
   ·have hji:j ≠ i:=fun e=>hn (e ▸ hd)
    rw [if_neg (hD.dst j i h.lt hi hji s hs)]
    exact hI.tg1 j pv' st' h hd s hs
  ·rw [RV,pF,if_neg (hs i hi (hset.mpr (.inl rfl)))]
   exact hI.tg2 s (fun j h hd=>hs j h (hset.mpr (.inr hd)))
  ·rcases List.mem_append.mp hp with hp | hp
   ·exact ⟨i,hi,hnew p hp⟩
   ·exact ho2 p hp
  ·rw [Uv]
   rcases hset.mp hd with rfl | hd
   ·refine List.mem_append_left _ ?_
    rw [hst hN,(hc.uniq h).2];exact hp
   ·exact List.mem_append_right _ (hI.ob2 j pv' st' h hd hN p hp)
  ·have hji:j ≠ i:=fun e=>hd (hset.mpr (.inl e))
   have hdj:¬ Dn l j:=fun e=>hd (hset.mpr (.inr e))
   have hk:=hnk j h hN hdj hji
   obtain ⟨f1,f2⟩:=jE.mp (hI.fr j h hN hdj)
   obtain ⟨g1,g2⟩:=hc.nk _ hk
   refine jE.mpr ⟨fun p hp=>?_,fun p hp=>?_⟩
   ·rw [Uv] at hp
    rcases List.mem_append.mp hp with hp | hp
    ·have hNi:=(hnew p hp).1
     exact g2 hNi p (by rw [← hst hNi];exact hp)
    ·exact f1 p hp
   ·rw [RV] at hp
    rcases Dw hp with h | h
    ·rw [h];exact g1
    ·exact f2 p h
 rcases hD.cls i hi with hV | ⟨hN,hgd⟩
 ·obtain ⟨e1,e2⟩:=sN hV hsame hkey hc.ev
  refine ⟨pv,σ,e2,fin σ [] rfl rfl (fun p hp=>by simp at hp) (fun hN=>?_)⟩
  exact (BO hV hN).elim
 ·have hfc:fresh ⟨jh Γ fH.ob pre fH.tm i,fH.ob⟩ (dF (pre[i].1.dst.getD 999)) = true:=by
   obtain ⟨f1,f2⟩:=jE.mp (hfr i hi hN)
   refine jE.mpr ⟨f1,fun p hp=>?_⟩
   rcases c3 p hp with h | ⟨j,pv',st',h1,h2,h3⟩
   ·exact f2 p h
   ·rcases hD.nk i j hi h2.lt (by omega) hN with h4 | h4
    ·rw [h3];exact (h2.nk _ h4).1
    ·have:=h4.lt hD;omega
  obtain ⟨o,e1,e2⟩:=Lf hN hgd hsame hfc (hI.fr i hi hN hn) hc.ev
  refine ⟨pv,_,e2,fin _ [(dF (pre[i].1.dst.getD 999),o)] rfl rfl (fun p hp=>by simp at hp;exact ⟨hN,by rw [hp]⟩) (fun _=>by rw [e1];rfl)⟩
end
end Go.Proofs.Ytfokaoeinpnagaa.Ev
namespace Go.Proofs.Ytfokaoeinpnagaa.Ev
open Go
section
variable {P : Program} {Γ:Env} {bG:Nat → Prop} {w0 w w':World} {bF:List Nat} {N:Fr} {d:Nat} {jk:Nat → Value} {σ fH σ':St} {a:Act} {X:Hx} {ops:Array Oper} {pre:List (G × List Nat)} {lS:List Nat} {jO rest:List G} {l:Array Bool} {Q:Exit → Act → World → Prop} {pv:PV}
theorem Uw {tm tm2:List (Nat × PV)} {ob:List (Nat × Ob)} {n key off:Nat} {x y:dX} {s:St} (hv:val ⟨tm,ob⟩ x = some (.one (.ptr key off))) (hE:cO Γ true ⟨tm,ob⟩ d (.store n x y) = some (pv,s)) :
  s.tm = tm ∧ (Same (mX (.store n x y)) ⟨tm,ob⟩ ⟨tm2,ob⟩ → ∀ q d,cO Γ q ⟨tm2,ob⟩ d (.store n x y) = some (pv,⟨tm2,s.ob⟩)) ∧ ∀ k o,k ≠ key → get ob k = some o → get s.ob k = some o:=by
 simp only [cO] at hE
 rw [hv] at hE
 simp only [Option.bind_some] at hE
 obtain ⟨u,h1,h2⟩:=zbm hE
 split at h2
 ·rename_i hc
  split at h2
  ·rename_i xs gy
   obtain ⟨l,h3,h4⟩:=zmm h2
   cases h4
   refine ⟨rfl,fun hs q d=>?_,fun k o hk hg=>?_⟩
   ·simp only [cO]
    simp only [mX] at hs
    rw [hs.l.val,hv,Option.bind_some,hs.r.val,h1,Option.bind_some,if_pos hc]
    simp only [gy]
    simp only [h3,Option.map_some,jl]
   ·simp only [jl,get_put,if_neg hk]
    exact hg
  ·cases h2
 ·cases h2
theorem Ux {tm:List (Nat × PV)} {ob ob':List (Nat × Ob)} {x:dX}:val ⟨tm,ob⟩ x = val ⟨tm,ob'⟩ x:=by
 cases x <;> rfl
theorem get_filter {α:Type} {l:List (Nat × α)} {p:Nat → Bool} {k:Nat} {o:α} (h:get (l.filter fun x=>p x.1) k = some o):p k = true ∧ get l k = some o:=by
 induction l with
 | nil=>cases h
 | cons q l ih =>
  obtain ⟨j,u⟩:=q
  rw [List.filter_cons] at h
  by_cases hp:p j = true
  ·rw [if_pos hp] at h
   unfold get at h ⊢
   by_cases hj:j = k
   ·rw [if_pos hj] at h ⊢
    exact ⟨hj ▸ hp,h⟩
   ·rw [if_neg hj] at h ⊢
    exact ih h
  ·rw [if_neg hp] at h
   obtain ⟨h1,h2⟩:=ih h
   refine ⟨h1,?_⟩
   unfold get
   rw [if_neg (by intro e;subst e;exact hp h1)]
   exact h2
theorem Ok.less (h:Ok bG w0 bF N jk σ a w) (ht:∀ p ∈ σ'.tm,p ∈ σ.tm) (ho:∀ p ∈ σ'.ob,p ∈ σ.ob):Ok bG w0 bF N jk σ' a w:=by
 obtain ⟨Fz,κ,hr,hk⟩:=h
 exact ⟨Fz,κ,hr.less ht ho,hk⟩
def Vis (pre:List (G × List Nat)) (l:Array Bool) (s:Nat):Prop:=∀ j (h:j < pre.length),¬ Dn l j → pre[j].1.dst ≠ some s
theorem Uy (hD:Lg ops pre lS jO rest) (heq:∀ t ∈ X.eqs,lH P t) (lX:iN P Γ) (hC:eu P Γ) (hc:lG P X ops N.ok ops.toList = some (pre.map (·.1) ++ (jO ++ rest))) (hQ:∀ a' w',Ok bG w0 bF N jk σ' a' w' → Q .normal a' w')
  {tm:List (Nat × PV)} {obS OC:List (Nat × Ob)} (RV:∀ p ∈ tm,get tm p.1 = some p.2)
  (hpv:∀ j (h:j < pre.length),j ∈ lS → ∃ pv s,mD Γ true ⟨tm,obS.filter (fun p=>!(jO.flatMap (sw tm)).contains p.1)⟩ pre[j].1 = some (pv,s) ∧ ∀ s,pre[j].1.dst = some s → get tm s = some pv)
  (hE:xC Γ false rest ⟨tm,OC⟩ = some σ') :
  ∀ (fuel m:Nat) (l:Array Bool) (Dx:List (Nat × PV)) (ob:List (Nat × Ob)) (a:Act) (w:World),l.size = ops.size → m ≤ jO.length → (∀ i,i < ops.size → pre.length ≤ i → (Dn l i ↔ i < pre.length + m)) → (∀ j,j < pre.length → j ∉ lS → Dn l j) → Down ops l → left l ≤ fuel →
   KF Γ tm (jO.drop m) ob = some OC → (∀ k o,(jO.flatMap (sw tm)).contains k = false → get obS k = some o → get ob k = some o) → (∀ s,Vis pre l s → get Dx s = get tm s) → Ok bG w0 bF N jk ⟨Dx,ob⟩ a w → wpAny P .any ops Q fuel l a w:=by
 intro fuel
 have hcg:=jV hc
 have hlen:=hD.len
 have over:∀ (fuel m:Nat) (l:Array Bool) (Dx:List (Nat × PV)) (ob:List (Nat × Ob)) (a:Act) (w:World),l.size = ops.size → m = jO.length → (∀ i,i < ops.size → pre.length ≤ i → (Dn l i ↔ i < pre.length + m)) → (∀ j,j < pre.length → Dn l j) → Down ops l → left l ≤ fuel →
   KF Γ tm (jO.drop m) ob = some OC → (∀ s,Vis pre l s → get Dx s = get tm s) → Ok bG w0 bF N jk ⟨Dx,ob⟩ a w → wpAny P .any ops Q fuel l a w:=by
  intro fuel m l Dx ob a w hl hm hd hall hdn hf hL hv h
  subst hm
  rw [List.drop_of_length_le (Nat.le_refl _)] at hL
  cases hL
  refine Uu hD heq lX hC hc hQ fuel (pre.length + jO.length) l ⟨tm,OC⟩ a w hl (Nat.le_refl _) (by omega) (fun i hi=>?_) hdn hf (h.less (fun p hp=>?_) (fun _ hp=>hp)) (by rw [Nat.sub_self,List.drop_zero];exact hE)
  ·by_cases hi':i < pre.length
   ·exact ⟨fun _=>by omega,fun _=>hall i hi'⟩
   ·exact hd i hi (by omega)
  ·have:=hv p.1 (fun j hj hnd=>absurd (hall j hj) hnd)
   rw [RV p hp] at this
   exact get_mem this
 induction fuel with
 | zero =>
  intro m l Dx ob a w hl hm hd hfl hdn hf hL gy hv h
  have hdone:∀ i,i < ops.size → Dn l i:=by
   intro i hi
   apply Classical.byContradiction
   intro hn
   have:=nL (l:=l) (i:=i) (by omega) hn
   omega
  refine over 0 m l Dx ob a w hl ?_ hd (fun j hj=>hdone j (by omega)) hdn hf hL hv h
  apply Classical.byContradiction
  intro hne
  have:=(hd (pre.length + m) (by omega) (by omega)).mp (hdone _ (by omega))
  omega
 | succ fuel ih =>
  intro m l Dx ob a w hl hm hd hfl hdn hf hL gy hv h
  by_cases hfin:m = jO.length ∧ ∀ j,j < pre.length → Dn l j
  ·exact over (fuel + 1) m l Dx ob a w hl hfin.1 hd hfin.2 hdn hf hL hv h
  ·have hex:∃ i,i < pre.length + jO.length ∧ i < ops.size ∧ ¬ Dn l i:=by
    apply Classical.byContradiction
    intro hno
    have hall:∀ i,i < pre.length + jO.length → i < ops.size → Dn l i:=fun i h1 h2=>Classical.byContradiction fun hn=>hno ⟨i,h1,h2,hn⟩
    refine hfin ⟨?_,fun j hj=>hall j (by omega) (by omega)⟩
    apply Classical.byContradiction
    intro hne
    have:=(hd (pre.length + m) (by omega) (by omega)).mp (hall _ (by omega) (by omega))
    omega
   obtain ⟨i0,hi0,aeu,hn0⟩:=hex
   rw [kS]
   refine ⟨fun hn=>absurd hn (pE hD hl aeu hn0),fun i hi=>?_⟩
   obtain ⟨hi1,hi2,hi3⟩:=(je hl).mp hi
   have hset:∀ {j},Dn (l.setIfInBounds i true) j ↔ j = i ∨ Dn l j:=fun {j}=>Dn.set (by omega)
   have hleft:=nL (l:=l) (i:=i) (by omega) hi2
   unfold wpOp
   rw [Array.getElem?_eq_getElem hi1]
   have hg:=hcg.2 i (by simpa using hi1) (by simp;omega)
   by_cases Uz:i < pre.length
   ·
    have hif:i ∈ lS:=Classical.byContradiction fun hn=>hi2 (hfl i Uz hn)
    rw [List.getElem_append_left (by simpa using Uz)] at hg
    simp only [List.getElem_map,Array.getElem_toList] at hg
    obtain ⟨pv,s,h1,h2⟩:=hpv i Uz hif
    have hsame:Same (rd pre[i].1) ⟨tm,obS.filter (fun p=>!(jO.flatMap (sw tm)).contains p.1)⟩ ⟨Dx,ob⟩:=fun s hs=>hv s (fun j hj hnd he=>hnd (hi3 j (hD.data i Uz hi1 s hs j hj he)))
    obtain ⟨e1,e2⟩:=sN (σ2:=⟨Dx,ob⟩) (hD.fl i hif Uz) hsame (fun k o hk=>by
     obtain ⟨g1,g2⟩:=get_filter (p:=fun k=>!(jO.flatMap (sw tm)).contains k) hk
     exact gy k o (by simpa using g1) g2) h1
    refine wO heq lX hC hg h e2 fun a' w' h'=>?_
    refine ih m _ (su pre[i].1.dst Dx pv) ob a' w' (by simp [hl]) hm (fun j hj hj'=>?_) (fun j hj hjf=>hset.mpr (.inr (hfl j hj hjf))) (sO hdn hl hi1 hi3) (by omega) hL gy (fun s hs=>?_) ?_
    ·rw [hset,hd j hj hj']
     omega
    ·rw [pF]
     split
     ·rename_i he
      exact (h2 s he).symm
     ·rename_i he
      refine hv s (fun j hj hnd hjs=>?_)
      by_cases hji:j = i
      ·subst hji;exact he hjs
      ·exact hs j hj (fun hdj=>by rcases hset.mp hdj with h | h;exact hji h;exact hnd h) hjs
    ·cases hdst:pre[i].1.dst with
     | none=>rw [hdst] at h';exact h'
     | some s=>rw [hdst] at h';exact h'
   ·
    have him:i = pre.length + m ∧ m < jO.length:=by
     have hge:pre.length + m ≤ i:=by
      apply Classical.byContradiction
      intro hlt
      exact hi2 ((hd i hi1 (by omega)).mpr (by omega))
     have hlt':i < pre.length + jO.length:=by
      apply Classical.byContradiction
      intro hnl
      rcases hD.tl i (by omega) hi1 i0 (by omega) with hb | ⟨_,_,hb⟩
      ·exact hn0 (hdn.Yu hD hb (fun _=>hi3))
      ·omega
     refine ⟨?_,by omega⟩
     apply Classical.byContradiction
     intro hne
     have hnm:¬ Dn l (pre.length + m):=fun hh=>by have:=(hd (pre.length + m) (by omega) (by omega)).mp hh;omega
     rcases hD.tl i (by omega) hi1 (pre.length + m) (by omega) with hb | ⟨hb,_,_⟩
     ·exact hnm (hdn.Yu hD hb (fun _=>hi3))
     ·omega
    obtain ⟨rfl,hml⟩:=him
    rw [List.getElem_append_right (by simp),List.getElem_append_left (by simpa using hml)] at hg
    simp only [List.length_map,Array.getElem_toList,Nat.add_sub_cancel_left] at hg
    rw [List.drop_eq_getElem_cons hml] at hL
    have hlg:=hD.lt' _ (List.getElem_mem hml)
    have hld:=hD.ld m hml hi1
    have hkey:∀ k,k ∈ sw tm jO[m] → (jO.flatMap (sw tm)).contains k = true:=fun k hk=>by
     rw [List.contains_iff_mem]
     exact List.mem_flatMap.mpr ⟨_,List.getElem_mem hml,hk⟩
    generalize jO[m] = g at hg hL hlg hld hkey
    obtain ⟨gd,gg,gi⟩:=g
    unfold isLt at hlg
    simp only [Bool.and_eq_true] at hlg
    obtain ⟨⟨hl1,hl2⟩,hl3⟩:=hlg
    have hgd:gd = none:=by cases gd <;> simp_all
    have hgg:gg = none:=by cases gg <;> simp_all
    subst hgd
    subst hgg
    cases gi with
    | store n x y =>
     simp only [KF] at hL
     split at hL
     ·rename_i key off hval
      obtain ⟨p,h1,h2⟩:=zbm hL
      obtain ⟨pv,s⟩:=p
      have hsame:Same (mX (.store n x y)) ⟨tm,ob⟩ ⟨Dx,ob⟩:=fun s hs=>hv s (fun j hj hnd he=>hnd (hi3 j (hld s (by unfold rd;exact List.mem_append_left _ hs) j hj he)))
      obtain ⟨e1,e2,e3⟩:=Uw (tm2:=Dx) hval h1
      have e2':=e2 hsame true 999
      refine wO (q:=true) (pv:=pv) (σ':=⟨Dx,s.ob⟩) heq lX hC hg h (by simp only [mD,zD,Option.bind_some,if_true];exact e2') fun a' w' h'=>?_
      refine ih (m + 1) _ Dx s.ob a' w' (by simp [hl]) (by omega) (fun j hj hj'=>?_) (fun j hj hjf=>hset.mpr (.inr (hfl j hj hjf))) (sO hdn hl hi1 hi3) (by omega) h2 (fun k o hk hg'=>?_) (fun s hs=>hv s (fun j hj hnd=>hs j hj (fun hdj=>by rcases hset.mp hdj with h | h;omega;exact hnd h))) h'
      ·rw [hset,hd j hj hj']
       omega
      ·refine e3 k o (fun e=>?_) (gy k o hk hg')
       subst e
       have hv0:val ⟨tm,[]⟩ x = some (.one (.ptr k off)):=(Ux (ob':=ob)).trans hval
       have:=hkey k (by simp only [sw,hv0,List.mem_singleton])
       rw [this] at hk;cases hk
     ·cases hL
    | _=>simp at hl3
end
end Go.Proofs.Ytfokaoeinpnagaa.Ev
namespace Go.Proofs.Ytfokaoeinpnagaa.Ev
open Go
section
variable {P : Program} {Γ:Env} {bG:Nat → Prop} {w0 w w':World} {bF:List Nat} {N:Fr} {jk:Nat → Value} {σ fH σ':St} {a:Act} {X:Hx} {ops:Array Oper} {pre:List (G × List Nat)} {lS:List Nat} {jO rest:List G} {l:Array Bool} {Q:Exit → Act → World → Prop}
theorem BP {α:Type} {ks:List Nat} {l:List (Nat × α)} {p:Nat × α} (h:p ∈ pick ks l):get l p.1 = some p.2:=by
 unfold pick at h
 obtain ⟨i,_,h2⟩:=List.mem_filterMap.mp h
 obtain ⟨v,h3,h4⟩:=zmm h2
 subst h4
 exact h3
theorem Dy {α:Type} {l:List (Nat × α)} {s:Nat}:∀ {ks:List Nat},get (pick ks l) s = if s ∈ ks then get l s else none
 | []=>rfl
 | k :: ks=>by
  have ih:=Dy (l:=l) (s:=s) (ks:=ks)
  unfold pick at ih ⊢
  rw [List.filterMap_cons]
  cases hg:get l k with
  | none =>
   simp only [Option.map_none]
   rw [ih]
   by_cases hk:s = k
   ·subst hk;simp [hg]
   ·simp [hk]
  | some v =>
   simp only [Option.map_some]
   conv=>lhs;unfold get
   by_cases hk:k = s
   ·subst hk;simp [hg]
   ·rw [if_neg hk,ih]
    have:¬ s = k:=fun e=>hk e.symm
    simp [this]
theorem get_none {α:Type} {l:List (Nat × α)} {s:Nat} (h:s ∉ l.map (·.1)):get l s = none:=by
 cases hg:get l s with
 | none=>rfl
 | some v=>exact absurd (List.mem_map.mpr ⟨_,get_mem hg,rfl⟩) h
theorem OD {α:Type} {l:List (Nat × α)} {s:Nat}:get (pick (l.map (·.1)) l) s = get l s:=by
 rw [Dy]
 split
 ·rfl
 ·rename_i h;exact (get_none h).symm
theorem aev (hD:Lg ops pre lS jO rest) (hall:∀ j,j < pre.length → ∃ pv st,Can Γ fH.ob pre fH.tm j pv st) (hfr:∀ i (h:i < pre.length),jT pre[i].1.i = true → fresh fH (dF (pre[i].1.dst.getD 999)) = true)
  {i:Nat} {pv:PV} {st:St} (hc:Can Γ fH.ob pre fH.tm i pv st) (hN:jT (pre[i]'hc.lt).1.i = true):∀ p ∈ st.ob.take 1,p.1 = dF ((pre[i]'hc.lt).1.dst.getD 999):=by
 have hi:=hc.lt
 obtain ⟨c1,c2,c3⟩:=sP hD hall i (by omega)
 have hgd:pre[i].1.gd = none:=by
  rcases hD.cls i hi with h | h
  ·exact (BO h hN).elim
  ·exact h.2
 have hfc:fresh ⟨jh Γ fH.ob pre fH.tm i,fH.ob⟩ (dF (pre[i].1.dst.getD 999)) = true:=by
  obtain ⟨f1,f2⟩:=jE.mp (hfr i hi hN)
  refine jE.mpr ⟨f1,fun p hp=>?_⟩
  rcases c3 p hp with h | ⟨j,pv',st',h1,h2,h3⟩
  ·exact f2 p h
  ·rcases hD.nk i j hi h2.lt (by omega) hN with h4 | h4
   ·rw [h3];exact (h2.nk _ h4).1
   ·have:=h4.lt hD;omega
 obtain ⟨o,e1,_⟩:=Lf (σ2:=⟨jh Γ fH.ob pre fH.tm i,fH.ob⟩) hN hgd (fun _ _=>rfl) hfc hfc hc.ev
 intro p hp
 rw [e1] at hp
 simp at hp
 rw [hp]
theorem UA (hD:Lg ops pre lS jO rest) (heq:∀ t ∈ X.eqs,lH P t) (lX:iN P Γ) (hC:eu P Γ) (hc:lG P X ops N.ok ops.toList = some (pre.map (·.1) ++ (jO ++ rest))) (hQ:∀ a' w',Ok bG w0 bF N jk σ' a' w' → Q .normal a' w')
  (hall:∀ j,j < pre.length → ∃ pv st,Can Γ fH.ob pre fH.tm j pv st) (hfr:∀ i (h:i < pre.length),jT pre[i].1.i = true → fresh fH (dF (pre[i].1.dst.getD 999)) = true)
  {tm:List (Nat × PV)} {sob OC news':List (Nat × Ob)} (RV:tm = pick ((jh Γ fH.ob pre fH.tm pre.length).map (·.1)) (jh Γ fH.ob pre fH.tm pre.length))
  (Yw:sob = news' ++ fH.ob) (hnews:∀ p ∈ news',∃ j pv st,∃ (h:Can Γ fH.ob pre fH.tm j pv st),jT (pre[j]'h.lt).1.i = true ∧ p ∈ st.ob.take 1)
  (OE:lS.all (fun j=>(mD Γ true ⟨tm,fH.ob.filter (fun p=>!(jO.flatMap (sw tm)).contains p.1)⟩ (pre.getD j default).1).isSome) = true)
  (hL:KF Γ tm jO sob = some OC) (hE:xC Γ false rest ⟨tm,OC⟩ = some σ') :
  ∀ (fuel:Nat) (l:Array Bool) (σ:St) (a:Act) (w:World),l.size = ops.size → (∀ i,pre.length ≤ i → ¬ Dn l i) → Down ops l → left l ≤ fuel → Ok bG w0 bF N jk σ a w → Lh Γ pre fH l σ → wpAny P .any ops Q fuel l a w:=by
 intro fuel
 have hcg:=jV hc
 have hlen:=hD.len
 obtain ⟨c1,c2,c3⟩:=sP (Γ:=Γ) hD hall pre.length (Nat.le_refl _)
 have htg:∀ s,get tm s = get (jh Γ fH.ob pre fH.tm pre.length) s:=fun s=>by rw [RV];exact OD
 have aew:∀ p ∈ tm,get tm p.1 = some p.2:=fun p hp=>by
  rw [htg]
  rw [RV] at hp
  exact BP hp
 have hpv:∀ j (h:j < pre.length),j ∈ lS → ∃ pv s,mD Γ true ⟨tm,fH.ob.filter (fun p=>!(jO.flatMap (sw tm)).contains p.1)⟩ pre[j].1 = some (pv,s) ∧ ∀ s,pre[j].1.dst = some s → get tm s = some pv:=by
  intro j h hj
  have h1:=List.all_eq_true.mp OE j hj
  rw [List.getD_eq_getElem?_getD,List.getElem?_eq_getElem h,Option.getD_some] at h1
  obtain ⟨q,hq⟩:=Option.isSome_iff_exists.mp h1
  obtain ⟨pv',s'⟩:=q
  refine ⟨pv',s',hq,fun s hs=>?_⟩
  obtain ⟨pv,st,hcj⟩:=hall j h
  obtain ⟨d1,d2,d3⟩:=sP (Γ:=Γ) hD hall j (by omega)
  have hV:=hD.fl j hj h
  obtain ⟨_,g1⟩:=sN (σ:=⟨tm,fH.ob.filter (fun p=>!(jO.flatMap (sw tm)).contains p.1)⟩) (σ2:=⟨tm,fH.ob⟩) hV (fun _ _=>rfl) (fun k o hk=>(get_filter (p:=fun k=>!(jO.flatMap (sw tm)).contains k) hk).2) hq
  have hsame:Same (rd pre[j].1) ⟨jh Γ fH.ob pre fH.tm j,fH.ob⟩ ⟨tm,fH.ob⟩:=by
   intro s hs
   show get tm s = get (jh Γ fH.ob pre fH.tm j) s
   rw [htg]
   by_cases hw:∃ i,∃ (hi:i < pre.length),pre[i].1.dst = some s
   ·obtain ⟨i,hi,his⟩:=hw
    have hie:=hD.data j h (by omega) s hs i hi his
    obtain ⟨pv',st',hc'⟩:=hall i hi
    rw [c1 i pv' st' hc' hi s his,d1 i pv' st' hc' (hD.lt j (by omega) i hie) s his]
   ·have hw':∀ i (h:i < pre.length),pre[i].1.dst ≠ some s:=fun i h e=>hw ⟨i,h,e⟩
    rw [c2 s (fun i h _=>hw' i h),d2 s (fun i h _=>hw' i h)]
  obtain ⟨_,g2⟩:=sN (σ2:=⟨tm,fH.ob⟩) hV hsame (fun k o hk=>hk) hcj.ev
  rw [g1] at g2
  simp only [Option.some.injEq,Prod.mk.injEq] at g2
  rw [htg,c1 j pv st hcj h s hs,g2.1]
 have over:∀ (fuel:Nat) (l:Array Bool) (σ:St) (a:Act) (w:World),l.size = ops.size → (∀ i,pre.length ≤ i → ¬ Dn l i) → Down ops l → left l ≤ fuel → Ok bG w0 bF N jk σ a w → Lh Γ pre fH l σ → (∀ i,i < pre.length → i ∉ lS → Dn l i) → wpAny P .any ops Q fuel l a w:=by
  intro fuel l σ a w hl hno hdn hf h hI hdone
  refine Uy (tm:=tm) (obS:=fH.ob) (OC:=OC) hD heq lX hC hc hQ aew hpv hE fuel 0 l σ.tm sob a w hl (Nat.zero_le _) (fun i hi Uz=>⟨fun hd=>absurd hd (hno i Uz),fun hd=>by omega⟩) hdone hdn hf (by rw [List.drop_zero];exact hL) (fun k o _ hk=>?_) (fun s hs=>?_) (h.less (fun _ hp=>hp) (fun p hp=>?_))
  ·rw [Yw,He]
   ·exact hk
   ·intro p hp e
    obtain ⟨j,pv,st,hcj,hN,hpt⟩:=hnews p hp
    have hk':=aev hD hall hfr hcj hN p hpt
    have:=(jE.mp (hfr j hcj.lt hN)).1 _ (get_mem hk)
    exact this.1 (by show k = _;rw [← e,hk'])
  ·rw [htg]
   by_cases hw:∃ j,∃ (h:j < pre.length),pre[j].1.dst = some s
   ·obtain ⟨j,hj,hjs⟩:=hw
    obtain ⟨pv,st,hcj⟩:=hall j hj
    have hdj:Dn l j:=Classical.byContradiction fun hn=>hs j hj hn hjs
    rw [c1 j pv st hcj hj s hjs]
    exact hI.tg1 j pv st hcj hdj s hjs
   ·have hw':∀ j (h:j < pre.length),pre[j].1.dst ≠ some s:=fun j h e=>hw ⟨j,h,e⟩
    rw [c2 s (fun j h _=>hw' j h)]
    exact hI.tg2 s (fun j h _=>hw' j h)
  ·rw [Yw] at hp
   rcases List.mem_append.mp hp with hp | hp
   ·obtain ⟨j,pv,st,hcj,hN,hpt⟩:=hnews p hp
    refine hI.ob2 j pv st hcj (hdone j hcj.lt (fun hj=>?_)) hN p hpt
    exact BO (hD.fl j hj hcj.lt) hN
   ·obtain ⟨news,ho,_⟩:=hI.ob1
    rw [ho]
    exact List.mem_append_right _ hp
 induction fuel with
 | zero =>
  intro l σ a w hl hno hdn hf h hI
  refine over 0 l σ a w hl hno hdn hf h hI fun i hi _=>?_
  apply Classical.byContradiction
  intro hn
  have:=nL (l:=l) (i:=i) (by omega) hn
  omega
 | succ fuel ih =>
  intro l σ a w hl hno hdn hf h hI
  by_cases hdone:∀ i,i < pre.length → i ∉ lS → Dn l i
  ·exact over (fuel + 1) l σ a w hl hno hdn hf h hI hdone
  ·have:∃ i,i < pre.length ∧ i ∉ lS ∧ ¬ Dn l i:=by
    apply Classical.byContradiction
    intro hc
    exact hdone fun i hi hif=>Classical.byContradiction fun hn=>hc ⟨i,hi,hif,hn⟩
   obtain ⟨i0,hi0,aex,hn0⟩:=this
   rw [kS]
   refine ⟨fun hn=>absurd hn (pE hD hl (by omega) hn0),fun i hi=>?_⟩
   obtain ⟨hi1,hi2,hi3⟩:=(je hl).mp hi
   have him:i < pre.length:=by
    apply Classical.byContradiction
    intro hge
    rcases hD.tl i (by omega) hi1 i0 (by omega) with hb | ⟨_,hb,_⟩
    ·exact hn0 (hdn.Yu hD hb (fun _=>hi3))
    ·exact aex hb
   obtain ⟨pv,σ1,h1,h2⟩:=Yv hD hall hfr hI hl hdn him hi1 hi2 hi3
   unfold wpOp
   rw [Array.getElem?_eq_getElem hi1]
   have hg:=hcg.2 i (by simpa using hi1) (by simp;omega)
   rw [List.getElem_append_left (by simpa using him)] at hg
   simp only [List.getElem_map,Array.getElem_toList] at hg
   refine wO heq lX hC hg h h1 fun a' w' h'=>?_
   refine ih _ _ a' w' (by simp [hl]) (fun j hj hd=>?_) (sO hdn hl hi1 hi3) ?_ h' h2
   ·rcases (Dn.set (by omega)).mp hd with rfl | hd
    ·omega
    ·exact hno j hj hd
   ·have:=nL (l:=l) (i:=i) (by omega) hi2
    omega
theorem UC {id:Nat} (hm:P.follows .mixedOrders = true) (hD:Lg ops pre lS jO rest) (heq:∀ t ∈ X.eqs,lH P t) (lX:iN P Γ) (hC:eu P Γ) (hc:lG P X ops N.ok ops.toList = some (pre.map (·.1) ++ (jO ++ rest))) (h:Ok bG w0 bF N jk σ a w) (hE:WM Γ pre lS jO rest σ = some σ')
  (hQ:∀ a' w',Ok bG w0 bF N jk σ' a' w' → Q .normal a' w'):(Code.region id ops true).wp P Q a w:=by
 refine wp_region_any hm ?_
 unfold WM at hE
 split at hE
 ·rename_i hfr
  obtain ⟨s,h1,h2⟩:=zbm hE
  split at h2
  ·rename_i OE
   obtain ⟨ob,h3,h4⟩:=zbm h2
   obtain ⟨e1,e2,news,e3,e4⟩:=Dv (Γ:=Γ) (qO:=σ.ob) (pre:=pre) (zJ:=σ.tm) pre.length 0 σ.ob s (by omega) (by rw [List.drop_zero];exact h1)
   have hall:∀ j,j < pre.length → ∃ pv st,Can Γ σ.ob pre σ.tm j pv st:=fun j hj=>e1 j (by omega) hj
   have Yx:∀ i (h:i < pre.length),jT pre[i].1.i = true → fresh σ (dF (pre[i].1.dst.getD 999)) = true:=by
    intro i hi hN
    have:=List.all_eq_true.mp hfr pre[i] (List.getElem_mem hi)
    rw [hN] at this
    exact this
   have hoff:∀ i,¬ Dn (Array.replicate ops.size false) i:=by
    intro i hd
    unfold Dn at hd
    rw [Array.getD_eq_getD_getElem?,Array.getElem?_replicate] at hd
    split at hd <;> simp at hd
   rw [e2] at OE h3 h4
   refine UA (fH:=σ) hD heq lX hC hc hQ hall Yx rfl e3 (fun p hp=>?_) OE h3 h4 ops.size _ σ a _ (by simp) (fun i _=>hoff i) (fun i hi hd=>absurd hd (hoff i)) ?_ ?_ ⟨fun i pv st h hd=>absurd hd (hoff i),fun s _=>rfl,⟨[],rfl,fun p hp=>by simp at hp⟩,fun i pv st h hd=>absurd hd (hoff i),fun i hi hN _=>Yx i hi hN⟩
   ·obtain ⟨j,pv,st,_,_,h5,h6,h7⟩:=e4 p hp
    exact ⟨j,pv,st,h5,h6,h7⟩
   ·unfold left
    exact Nat.le_trans (List.length_filter_le _ _) (by simp)
   ·obtain ⟨Fz,κ,hr,hk⟩:=h
    exact ⟨Fz,κ,hr.grow (w':={ w with drawn:=w.drawn + 1 }) (Nat.le_refl _) (fun _ _=>rfl) ⟨rfl,rfl⟩,hk⟩
  ·cases h2
 ·cases hE
end
end Go.Proofs.Ytfokaoeinpnagaa.Ev
namespace Go.Proofs.Ytfokaoeinpnagaa.Ev
open Go
def kM : List (List Nat) → List (List Nat) → List (List Nat)
 | acc,[]=>acc
 | acc,es :: l=>kM (acc ++ [(List.range acc.length).filter fun x=>es.any fun e=>e == x || (acc.getD e []).contains x]) l
def BQ : List G → Nat
 | []=>0
 | g :: l=>if OA g.i || (jT g.i && g.gd.isNone) then BQ l + 1 else 0
def WQ {α:Type} (n:Nat) (k:Nat → α):α:=match n with
 | 0=>k 0
 | j + 1=>k (j + 1)
theorem Li {α:Type} {n:Nat} {k:Nat → α}:WQ n k = k n:=by cases n <;> rfl
def Yy : Nat → List (List Nat) → Nat
 | i,[]=>i
 | i,es :: l=>WQ (Yy (i + 1) l) fun r=>if r == i + 1 && es.length == i then i else r
def Yz (C:List (List Nat)) (gs:List G):Nat:=min (BQ gs) (Yy 0 C)
def Lj (gs:List G) (C:List (List Nat)) (m j:Nat):List Nat:=((List.range m).filter fun i=>i != j && jT (gs.getD i default).i && !(C.getD j []).contains i).map fun i=>dF ((gs.getD i default).dst.getD 999)
def RX : List G → Nat
 | []=>0
 | g :: l=>if isLt g then RX l + 1 else 0
def YA (C:List (List Nat)) (m nl:Nat):List Nat:=(List.range m).filter fun j=>(List.range nl).any fun t=>!(C.getD (m + t) []).contains j
def aey (lS:List Nat) (n:Nat):Nat:=if lS.isEmpty then 0 else n
def UD (E C:List (List Nat)) (gs:List G) (n m:Nat) (lS:List Nat) (nl:Nat):Bool :=
 (List.range n).all (fun i=>(E.getD i []).all (· < i)) &&
 (List.range m).all (fun i=>(rd (gs.getD i default)).all fun s=>(List.range m).all fun j=>!((gs.getD j default).dst == some s) || (E.getD i []).contains j) &&
 (List.range m).all (fun i=>(List.range m).all fun j=>i == j || (gs.getD i default).dst.isNone || !((gs.getD i default).dst == (gs.getD j default).dst)) &&
 (List.range m).all (fun i=>OA (gs.getD i default).i || (jT (gs.getD i default).i && (gs.getD i default).gd.isNone)) &&
 (List.range n).all (fun k=>k < m || (List.range k).all fun j=>(C.getD k []).contains j || (j < m && lS.contains j && k < m + nl)) &&
 lS.all (fun j=>OA (gs.getD j default).i) &&
 ((gs.drop m).take nl).all isLt &&
 (List.range nl).all (fun t=>(rd (gs.getD (m + t) default)).all fun s=>(List.range m).all fun j=>!((gs.getD j default).dst == some s) || (E.getD (m + t) []).contains j)
structure Hi where
 ks:List Nat
 CW:List Nat
 rws:List (Nat × Nat)
def YB (k:Array Bool → Option (List (List Nat))) (l:Array Bool):List Nat → Option (List (List Nat))
 | []=>some []
 | i :: is=>(k (l.setIfInBounds i true)).bind fun a=>(YB k l is).map fun b=>a.map (i :: ·) ++ b
def UE (ops:Array Oper) (i:Nat):Bool:=match ops[i]? with
 | some o=>(match o.op with
  | .move _=>true
  | .assign _=>true
  | .fieldAddr _ _ _=>true
  | .build _ _=>true
  | .extract _ _=>true
  | _=>false)
 | none=>false
def exts (ops:Array Oper):Nat → Array Bool → Option (List (List Nat))
 | 0,l=>if Region.ready .any ops l = [] then some [[]] else none
 | n + 1,l=>match Region.ready .any ops l with
  | []=>some [[]]
  | i :: is=>match (i :: is).find? (fun j=>UE ops j && Region.free .any ops l j) with
   | some j=>(exts ops n (l.setIfInBounds j true)).map fun a=>a.map (j :: ·)
   | none=>YB (exts ops n) l (i :: is)
def YC : Nat → List Nat → Nat
 | i,[]=>i
 | i,j :: l=>if i == j then YC (i + 1) l else i
def Dz (C:List (List Nat)):Nat → Nat → Nat
 | 0,_=>C.length
 | n + 1,k=>WQ (Dz C n (k + 1)) fun r=>WQ (YC 0 (C.getD k [])) fun p=>if p < k then min p r else r
def Hf (E C:List (List Nat)) (n h:Nat):Bool:=(List.range n).all (fun i=>(E.getD i []).all (· < i)) && (List.range n).all fun k=>(C.getD k []).take (min k h) == List.range (min k h)
def mask (h n:Nat):Array Bool:=(List.replicate h true ++ List.replicate (n - h) false).toArray
def Ll (ops:Array Oper):Option (List (List Nat)) :=
 let E:=ops.toList.map jF
 let C:=kM [] E
 WQ (Dz C ops.size 0) fun h=>if h ≤ ops.size ∧ Hf E C ops.size h = true then (exts ops (ops.size - h) (mask h ops.size)).map fun a=>a.map (List.range h ++ ·) else none
def YD (P:Program) (X:Hx) (N:Nat → Bool) (ops:Array Oper) (draw:Bool) (ks CW:List Nat):Option CC :=
 (lG P X ops N ops.toList).bind fun gs=>match draw with
  | false=>some (.reg gs ks)
  | true=>match CW with
   | _ :: _=>if Region.noSelect ops then (Ll ops).map fun o=>.any gs o ks CW else none
   | [] =>
   let E:=ops.toList.map jF
   let C:=kM [] E
   WQ (Yz C gs) fun m =>
   let nl0:=RX (gs.drop m)
   let lS:=YA C m nl0
   let nl:=aey lS nl0
   if UD E C gs ops.size m lS nl then some (.rU ((List.range m).map fun j=>(gs.getD j default,Lj gs C m j)) lS ((gs.drop m).take nl) ((gs.drop m).drop nl) ks) else none
def comp (P:Program) (X:Hx) (N:Nat → Bool):Code → List Hi → Option (CC × List Hi)
 | .skip,h=>some (.skip,h)
 | .region _ ops draw,h=>match h with
  | []=>none
  | k :: h=>(YD P X N ops draw k.ks k.CW).map fun c=>(c,h)
 | .seq x y,h=>(comp P X N x h).bind fun p=>(comp P X N y p.2).map fun r=>(.seq p.1 r.1,r.2)
 | .cond c x y,h=>(fM c).bind fun o=>(comp P X N x h).bind fun p=>(comp P X N y p.2).map fun r=>(.cond o p.1 r.1,r.2)
 | .block id c,h=>(comp P X N c h).map fun p=>(.block id p.1,p.2)
 | .loop c,h=>match h with
  | []=>none
  | k :: h=>(comp P X N c h).map fun p=>(.loop k.ks k.CW k.rws p.1,p.2)
 | .exit id,h=>some (.exit id,h)
 | .ret,h=>some (.ret,h)
 | .scope c,h=>comp P X N c h
 | .label _,h=>some (.skip,h)
 | _,_=>none
section
variable {P : Program} {Γ:Env} {bG:Nat → Prop} {w0 w w':World} {bF:List Nat} {N:Fr} {F:Nat} {jk:Nat → Value} {σ fH σ':St} {a:Act} {X:Hx} {ops:Array Oper} {gs:List G} {Q:Exit → Act → World → Prop}
theorem yh : ∀ (l acc:List (List Nat)),(∀ j,∀ x ∈ acc.getD j [],Jm ops x j) → (∀ k,k < l.length → ∃ h:acc.length + k < ops.size,l[k]? = some (jF ops[acc.length + k])) → ∀ j,∀ x ∈ (kM acc l).getD j [],Jm ops x j
 | [],acc,h,_=>h
 | es :: l,acc,h,hl=>by
  unfold kM
  obtain ⟨h0,h1⟩:=hl 0 (by simp)
  simp only [List.getElem?_cons_zero,Option.some.injEq,Nat.add_zero] at h1
  refine yh l _ (fun j x hx=>?_) (fun k hk=>?_)
  ·rw [List.getD_eq_getElem?_getD,List.getElem?_append] at hx
   split at hx
   ·rename_i hj
    exact h j x (by rw [List.getD_eq_getElem?_getD];exact hx)
   ·by_cases hj:j - acc.length = 0
    ·have hje:j = acc.length:=by omega
     subst hje
     simp only [Nat.sub_self,List.getElem?_cons_zero,Option.getD_some] at hx
     obtain ⟨_,hx⟩:=List.mem_filter.mp hx
     obtain ⟨e,he,hor⟩:=List.any_eq_true.mp hx
     rw [h1] at he
     rw [Bool.or_eq_true] at hor
     rcases hor with hor | hor
     ·have:e = x:=by simpa using hor
      subst this
      exact .dir h0 he
     ·exact .step h0 he (h e x (by simpa using hor))
    ·rw [List.getElem?_eq_none (by simp;omega)] at hx
     simp at hx
  ·obtain ⟨h2,h3⟩:=hl (k + 1) (by simpa using hk)
   simp only [List.length_append,List.length_cons,List.length_nil]
   refine ⟨by omega,?_⟩
   simp only [List.getElem?_cons_succ] at h3
   rw [h3]
   congr 3
   omega
theorem Ah : ∀ (gs:List G),BQ gs ≤ gs.length
 | []=>Nat.le_refl _
 | g :: l=>by
  unfold BQ
  have:=Ah l
  split <;> simp <;> omega
theorem OG (C:List (List Nat)) (gs:List G):Yz C gs ≤ gs.length:=by
 exact Nat.le_trans (Nat.min_le_left _ _) (Ah gs)
theorem Jo {lS:List Nat} {nl m:Nat} (hm:m ≤ gs.length) (h:lG P X ops N.ok ops.toList = some gs) (hb:UD (ops.toList.map jF) (kM [] (ops.toList.map jF)) gs ops.size m lS nl = true) :
  Lg ops ((List.range m).map fun j=>(gs.getD j default,Lj gs (kM [] (ops.toList.map jF)) m j)) lS ((gs.drop m).take nl) ((gs.drop m).drop nl) ∧
  ((List.range m).map fun j=>(gs.getD j default,Lj gs (kM [] (ops.toList.map jF)) m j)).map (·.1) ++ ((gs.drop m).take nl ++ (gs.drop m).drop nl) = gs:=by
 obtain ⟨hlen,_⟩:=jV h
 rw [Array.length_toList] at hlen
 unfold UD at hb
 simp only [Bool.and_eq_true] at hb
 obtain ⟨⟨⟨⟨⟨⟨⟨b1,b2⟩,b3⟩,b4⟩,b5⟩,b6⟩,b7⟩,b8⟩:=hb
 have hE:∀ i (hi:i < ops.size),(ops.toList.map jF).getD i [] = jF ops[i]:=by
  intro i hi
  rw [List.getD_eq_getElem?_getD,List.getElem?_map,Array.getElem?_toList,Array.getElem?_eq_getElem hi]
  rfl
 have hC:∀ j,∀ x ∈ (kM [] (ops.toList.map jF)).getD j [],Jm ops x j:=yh _ _ (fun j x hx=>by simp at hx) (fun k hk=>by
  have hk':k < ops.size:=by simpa using hk
  refine ⟨by simpa using hk',?_⟩
  rw [List.getElem?_map,Array.getElem?_toList,Array.getElem?_eq_getElem hk']
  simp)
 refine ⟨⟨?_,fun i hi e he=>?_,fun i hi hi' s hs j hj hjs=>?_,fun i j hi hj hne s h1 h2=>?_,fun i hi=>?_,fun i j hi hj hne hN=>?_,fun k h1 h2 j hj=>?_,fun j hj h=>?_,fun g hg=>List.all_eq_true.mp b7 g hg,fun t ht ht' s hs j hj hjs=>?_⟩,?_⟩
 ·simp only [List.length_map,List.length_range,List.length_drop,List.length_take]
  omega
 ·have:=List.all_eq_true.mp b1 i (List.mem_range.mpr hi)
  rw [hE i hi] at this
  have:=List.all_eq_true.mp this e he
  simpa using this
 ·simp only [List.length_map,List.length_range] at hi hj
  simp only [List.getElem_map,List.getElem_range] at hs hjs
  have:=List.all_eq_true.mp b2 i (List.mem_range.mpr hi)
  have:=List.all_eq_true.mp this s hs
  have:=List.all_eq_true.mp this j (List.mem_range.mpr hj)
  rw [hjs,hE i hi'] at this
  simpa using this
 ·simp only [List.length_map,List.length_range] at hi hj
  simp only [List.getElem_map,List.getElem_range] at h1 h2
  have:=List.all_eq_true.mp b3 i (List.mem_range.mpr hi)
  have:=List.all_eq_true.mp this j (List.mem_range.mpr hj)
  rw [h1,h2] at this
  simp [hne] at this
 ·simp only [List.length_map,List.length_range] at hi
  have:=List.all_eq_true.mp b4 i (List.mem_range.mpr hi)
  simp only [List.getElem_map,List.getElem_range]
  rw [Bool.or_eq_true,Bool.and_eq_true] at this
  rcases this with h | h
  ·exact .inl h
  ·exact .inr ⟨h.1,by simpa using h.2⟩
 ·simp only [List.length_map,List.length_range] at hi hj
  simp only [List.getElem_map,List.getElem_range] at hN ⊢
  cases hcc:((kM [] (ops.toList.map jF)).getD j []).contains i with
  | true=>exact .inr (hC j i (by simpa using hcc))
  | false =>
   left
   unfold Lj
   refine List.mem_map.mpr ⟨i,List.mem_filter.mpr ⟨List.mem_range.mpr hi,?_⟩,rfl⟩
   rw [hN,hcc]
   simp [hne]
 ·simp only [List.length_map,List.length_range] at h1 ⊢
  have:=List.all_eq_true.mp b5 k (List.mem_range.mpr h2)
  rw [Bool.or_eq_true] at this
  rcases this with h | h
  ·have:k < m:=by simpa using h
   omega
  ·have:=List.all_eq_true.mp h j (List.mem_range.mpr hj)
   rw [Bool.or_eq_true,Bool.and_eq_true,Bool.and_eq_true] at this
   rcases this with h | ⟨⟨g1,g2⟩,g3⟩
   ·exact .inl (hC k j (by simpa using h))
   ·refine .inr ⟨by simpa using g1,by simpa using g2,?_⟩
    have g3':k < m + nl:=by simpa using g3
    simp only [List.length_take,List.length_drop]
    omega
 ·simp only [List.length_map,List.length_range] at h
  simp only [List.getElem_map,List.getElem_range]
  exact List.all_eq_true.mp b6 j hj
 ·simp only [List.length_map,List.length_range] at hj ht' ⊢
  simp only [List.length_take,List.length_drop] at ht
  simp only [List.getElem_map,List.getElem_range] at hjs
  have h1:=List.all_eq_true.mp b8 t (List.mem_range.mpr (by omega))
  have hgt:((gs.drop m).take nl)[t]'(by simp only [List.length_take,List.length_drop];omega) = gs.getD (m + t) default:=by
   rw [List.getElem_take,List.getElem_drop,List.getD_eq_getElem?_getD,List.getElem?_eq_getElem (by omega)]
   rfl
  rw [hgt] at hs
  have h2:=List.all_eq_true.mp h1 s hs
  have h3:=List.all_eq_true.mp h2 j (List.mem_range.mpr hj)
  rw [hjs,hE _ ht'] at h3
  simpa using h3
 ·rw [List.map_map]
  have:((List.range m).map ((fun x:G × List Nat=>x.1) ∘ fun j=>(gs.getD j default,Lj gs (kM [] (ops.toList.map jF)) m j))) = gs.take m:=by
   refine List.ext_getElem (by simp;omega) fun i h1 h2=>?_
   simp only [List.length_map,List.length_range] at h1
   simp only [List.getElem_map,List.getElem_range,Function.comp,List.getElem_take]
   rw [List.getD_eq_getElem?_getD,List.getElem?_eq_getElem (by omega)]
   rfl
  rw [this,List.take_append_drop,List.take_append_drop]
def Fv : Out → Exit
 | .jc=>.normal
 | .ext id=>.exit id
 | .ret=>.ret
theorem Rel.put' {Fz:Nat → Prop} {κ:Nat → Value} (h:Rel bG w0 bF N Fz κ σ a w) {d:Nat} {pv:PV} (hv:ji Fz κ w pv (a.tmps.getD d undef)):Rel bG w0 bF N Fz κ ⟨Ev.put σ.tm d pv,σ.ob⟩ a w where
 tm:=fun p hp=>by
  rcases iB hp with rfl | ⟨hp,_⟩
  ·exact hv
  ·exact h.tm p hp
 sz:=h.sz
 l8:=h.l8
 fs:=h.fs
 ob:=h.ob
 uI:=h.uI
 pos:=h.pos
 fz:=h.fz
 zw:=h.zw
 big:=h.big
 ext:=h.ext
 kp:=h.kp
theorem Ok.keep (h:Ok bG w0 bF N jk σ a w) (ks:List Nat):Ok bG w0 bF N jk ⟨pick ks σ.tm,σ.ob⟩ a w:=h.less (fun _ hp=>kg hp) (fun _ hp=>hp)
theorem Ok.jc : ∀ (l:List (Nat × Nat)) {σ:St},Ok bG w0 bF N jk σ a w → Ok bG w0 bF N jk (Ev.jc σ l) a w
 | [],σ,h=>h
 | (s,sz) :: l,σ,h=>by
  unfold Ev.jc
  split
  ·rename_i hg
   split
   ·exact Ok.jc l h
   ·rename_i hz
    split
    ·rename_i t hn
     refine Ok.jc l ?_
     obtain ⟨Fz,κ,hr,hk⟩:=h
     have hv:a.tmps.getD s undef = .slice none 0 0:=hr.val hg
     have hnew:=hr.new (w':=w) (v:=.slice none 0 0) hn (Nat.le_refl _) (fun _ _=>rfl) (fun b hb=>by cases hb) ⟨rfl,rfl⟩ ⟨by omega,0,[],none,0,by rw [bQ];rfl,by rw [bQ];exact World.ownsRow_nil w _ _ _,rfl⟩
     refine ⟨Fz,oN κ (dF s) (.slice none 0 0),hnew.put' ⟨?_,none,0,hv⟩,fun k hk'=>?_⟩
     ·rw [bQ];exact hv
     ·rw [d9 (fun e=>by unfold dF at e;omega)];exact hk k hk'
    ·exact Ok.jc l h
  ·exact Ok.jc l h
theorem Ok.res (h:Ok bG w0 bF N jk σ a w) (ks os:List Nat) (rws:List (Nat × Nat)):Ok bG w0 bF N jk (Ev.res ks os rws σ) a w :=
 (Ok.jc rws h).less (fun _ hp=>kg hp) (fun _ hp=>kg hp)
theorem sQ : ∀ (n:Nat) (l:Array Bool),exts ops n l ≠ some []
 | 0,l,h=>by unfold exts at h;split at h <;> simp at h
 | n + 1,l,h=>by
  unfold exts at h
  split at h
  ·simp at h
  ·split at h
   ·obtain ⟨A,h1,h2⟩:=zmm h
    have:A = []:=by
     cases A with
     | nil=>rfl
     | cons _ _=>simp at h2
    subst this
    exact sQ n _ h1
   ·obtain ⟨A,h1,h2⟩:=zbm h
    obtain ⟨B,_,h3⟩:=zmm h2
    have:A = []:=by
     cases A with
     | nil=>rfl
     | cons _ _=>simp at h3
    subst this
    exact sQ n _ h1
theorem lU.app {ks oM:List Nat} {r:St}:∀ {A B:List (List Nat)},lU Γ gs ks oM σ r (A ++ B) → lU Γ gs ks oM σ r A ∧ lU Γ gs ks oM σ r B
 | [],_,h=>⟨trivial,h⟩
 | _ :: A,_,h=>⟨⟨h.1,(lU.app (A:=A) h.2).1⟩,(lU.app (A:=A) h.2).2⟩
theorem lU.step {ks oM:List Nat} {r:St} {i:Nat}:∀ {A:List (List Nat)},lU Γ gs ks oM σ r (A.map (i :: ·)) → A ≠ [] → ∃ s,Og Γ false σ (gs.getD i default) = some s ∧ lU Γ gs ks oM s r A
 | [],_,h=>absurd rfl h
 | x :: A,h,_=>by
  obtain ⟨⟨s,h1,h2⟩,h3⟩:=h
  obtain ⟨s1,h4,h5⟩:=zbm h1
  refine ⟨s1,h4,⟨s,h5,h2⟩,?_⟩
  by_cases hA:A = []
  ·subst hA;trivial
  ·obtain ⟨s2,g1,g2⟩:=lU.step h3 hA
   rw [h4] at g1;cases g1
   exact g2
theorem Jp {Fz:Nat → Prop} {κ:Nat → Value} (h:Rel bG w0 bF N Fz κ σ a w) {t:TypeId} {ps:Array (Nat × Operand)} {z:List PL} {l:List (Nat × Nat × dX)} {d:Nat} {p:PV × St} (hz:EU P t = some z) (hp:(∃ fs,P.underlying t = some (.struct fs) ∧ fs.toList.all (fun (f:Field)=>(lV P f.type).isSome) = true ∧ parts P fs ps.toList = some l) ∨ ∃ n e sz,P.underlying t = some (.array n e) ∧ lV P e = some sz ∧ oQ sz ps.toList = some l) (hE:cO Γ false σ d (.build z l) = some p) :
  p.2 = σ ∧ ∃ v,(∀ w',(Instr.build t (ps.map fun (i,x)=>(i,a.eval x))).run P w' = .ok v w') ∧ ji Fz κ w p.1 v:=by
 obtain ⟨vs,h1,h2⟩:=zbm hE
 obtain ⟨z',h3,h4⟩:=zmm h2
 cases h4
 obtain ⟨i,zv,e1,e2,e3⟩:=uK (Fz:=Fz) (κ:=κ) (w:=w) hz
 refine ⟨rfl,?_⟩
 rcases hp with ⟨fs,hu,hall,hp⟩ | ⟨n,e,sz,hu,hn,hp⟩
 ·have hpl:∃ places:List (Nat × Nat),fs.toList.mapM (fun (f:Field)=>(P.info? f.type).map fun i=>(f.offset,i.size)) = some places ∧ ∀ i:Nat,places.toArray[i]? = (fs[i]?.bind fun (f:Field)=>(lV P f.type).map fun n=>(f.offset,n)):=by
   have key:∀ (l:List Field),l.all (fun (f:Field)=>(lV P f.type).isSome) = true → ∃ places:List (Nat × Nat),l.mapM (fun (f:Field)=>(P.info? f.type).map fun i=>(f.offset,i.size)) = some places ∧ ∀ i:Nat,places[i]? = (l[i]?.bind fun (f:Field)=>(lV P f.type).map fun n=>(f.offset,n)):=by
    intro l
    induction l with
    | nil=>intro _;exact ⟨[],rfl,fun i=>by simp⟩
    | cons f l ih =>
     intro ha
     simp only [List.all_cons,Bool.and_eq_true] at ha
     obtain ⟨pl,e1,e2⟩:=ih ha.2
     obtain ⟨n,hn⟩:=Option.isSome_iff_exists.mp ha.1
     obtain ⟨inf,hi,hs⟩:=zmm hn
     refine ⟨(f.offset,n) :: pl,by simp [List.mapM_cons,hi,hs,e1],fun i=>?_⟩
     cases i with
     | zero=>simp [hn]
     | succ i=>simpa using e2 i
   obtain ⟨pl,e1,e2⟩:=key fs.toList hall
   exact ⟨pl,e1,fun i=>by have:=e2 i;simpa using this⟩
  obtain ⟨places,e4,e5⟩:=hpl
  obtain ⟨cs',e6,e7,_⟩:=lW h (place:=(places.toArray[·]?)) (ps:=ps.toList) (cs:=zv.cells) (fun _=>trivial) (by
   refine (xR hp).imp fun {p r} hpr=>⟨?_,hpr.2⟩
   rw [e5];exact hpr.1) h1 h3 e3
  refine ⟨.agg cs',fun w'=>run_build w' t _ cs' ?_,cs',rfl,e7⟩
  unfold Program.built
  rw [e1,hu]
  simp only [e2,e4]
  rw [Array.toList_map]
  exact e6
 ·obtain ⟨ie,g1,g2⟩:=zmm hn
  obtain ⟨cs',e6,e7,_⟩:=lW h (place:=fun i=>some (i * sz,sz)) (ps:=ps.toList) (cs:=zv.cells) (fun _=>trivial) (qg hp) h1 h3 e3
  refine ⟨.agg cs',fun w'=>run_build w' t _ cs' ?_,cs',rfl,e7⟩
  unfold Program.built
  rw [e1,hu]
  simp only [e2,g1]
  rw [Array.toList_map,g2]
  exact e6
theorem OH {Fz:Nat → Prop} {κ:Nat → Value} (h:Rel bG w0 bF N Fz κ σ a w) {x:Operand} {x':dX} {i d:Nat} {p:PV × St} (hx:fM x = some x') (hE:cO Γ false σ d (.ext x' i) = some p) :
  p.2 = σ ∧ ∃ v,(∀ w',(Instr.extract (a.eval x) i).run P w' = .ok v w') ∧ ji Fz κ w p.1 v:=by
 simp only [cO] at hE
 split at hE
 ·rename_i l hl
  obtain ⟨v,h1,h2⟩:=zmm hE
  cases h2
  obtain ⟨vs,e1,e2⟩:=h.GJ hx hl
  have key:∀ (l:List CV) (us:List Value) (i:Nat) (v:CV),dL Fz κ w l us → l[i]? = some v → ∃ u,us[i]? = some u ∧ gq Fz κ w v u:=by
   intro l
   induction l with
   | nil=>intro us i v _ h;simp at h
   | cons x l ih =>
    intro us i v h h2
    cases us with
    | nil=>exact h.elim
    | cons u us =>
     cases i with
     | zero=>simp at h2;subst h2;exact ⟨u,rfl,h.1⟩
     | succ i=>simp at h2;exact ih us i v h.2 h2
  obtain ⟨u,h3,h4⟩:=key _ _ _ _ e2 h1
  refine ⟨rfl,u,fun w'=>?_,h4⟩
  rw [e1]
  rw [Array.getElem?_toList] at h3
  simp [Instr.extract,h3]
 ·cases hE
theorem OI {i:Nat} {o:Oper} {g:G} (ho:ops[i]? = some o) (hp:UE ops i = true) (hg:xL P X ops N.ok o = some g) (h:Ok bG w0 bF N jk σ a w) (hE:Og Γ false σ g = some σ'):∃ v,Yields P ops o v a ∧ Ok bG w0 bF N jk σ' (a.put o.dst v) w:=by
 obtain ⟨Fz,κ,hr,hk⟩:=h
 obtain ⟨p,h1,rfl⟩:=zmm hE
 obtain ⟨i',hi,h2⟩:=zbm hg
 split at h2
 ·rename_i hd
  cases h2
  have hput:∀ {pv v},ji Fz κ w pv v → Ok bG w0 bF N jk (sj σ o.dst pv) (a.put o.dst v) w:=by
   intro pv v hv
   refine ⟨Fz,κ,?_,hk⟩
   cases hdst:o.dst with
   | none=>exact hr.RP v
   | some d =>
    rw [hdst] at hd
    exact hr.put (by simpa using hd) hv
  obtain ⟨t,h3,h4⟩:=zbm h1
  cases t with
  | false =>
   rw [if_neg (by decide)] at h4
   cases h4
   exact ⟨undef,.inr ⟨Lc hr h3,rfl⟩,hput rfl⟩
  | true =>
   rw [if_pos rfl] at h4
   have hw:=Lc hr h3
   unfold UE at hp
   rw [ho] at hp
   simp only at hp
   have mv:∀ x,(o.op = .move x ∨ o.op = .assign x) → ∃ v,Yields P ops o v a ∧ Ok bG w0 bF N jk (sj p.2 o.dst p.1) (a.put o.dst v) w:=by
    intro x hx
    have hi2:(fM x).map I.mv = some i':=by
     unfold xK xJ nC at hi
     rcases hx with hx | hx <;> simp only [hx] at hi <;> (split at hi <;> first | (split at hi <;> first | (cases hi;assumption) | cases hi) | cases hi)
    obtain ⟨y,h5,rfl⟩:=zmm hi2
    obtain ⟨v,h6,h7⟩:=zmm h4
    cases h7
    refine ⟨a.eval x,.inl ⟨hw,fun w'=>?_⟩,hput (hr.GJ h5 h6)⟩
    unfold execOp
    rcases hx with hx | hx <;> simp only [hx] <;> rfl
   split at hp
   ·rename_i x hx;exact mv x (.inl hx)
   ·rename_i x hx;exact mv x (.inr hx)
   ·rename_i s x f hx
    have hi2:nC P X o = some i':=by
     unfold xK xJ at hi
     simp only [hx] at hi
     split at hi
     ·split at hi
      ·cases hi
      ·cases hi;assumption
     ·cases hi
    unfold nC at hi2
    simp only [hx] at hi2
    obtain ⟨fl,h5,hi2⟩:=zbm hi2
    obtain ⟨n,h6,hi2⟩:=zbm hi2
    split at hi2
    ·cases hi2
    ·rename_i h0
     obtain ⟨y,h7,rfl⟩:=zmm hi2
     obtain ⟨v,h8,h9⟩:=zbm h4
     have hv:=hr.eval h7 h8
     obtain ⟨fs,hu,hfi⟩:=Bu h5
     have run:∀ b o' (w':World),a.eval x = .pointer (some ⟨b,o',none⟩) → (execOp a.eval o).run P w' = .ok (.value (.pointer (some ⟨b,o' + fl.offset,none⟩))) w':=by
      intro b o' w' he
      unfold execOp
      simp only [hx,he]
      unfold Instr.fieldAt
      simp only [Sem.run_bind,run_underlying hu,Result.andThen_ok,hfi]
      simp only [Instr.sureAddr,Sem.run_bind,Sem.run_pure,Result.andThen_ok,oV h6 h0]
     split at h9
     ·cases h9;obtain ⟨b,e1,e2⟩:=hv;exact ⟨_,.inl ⟨hw,fun w'=>run _ _ w' e2⟩,hput ⟨b,e1,rfl⟩⟩
     ·cases h9;obtain ⟨b,o',e1,e2,e3⟩:=hv;exact ⟨_,.inl ⟨hw,fun w'=>run _ _ w' e1⟩,hput ⟨b,_,rfl,e2,e3.drop _⟩⟩
     ·cases h9;obtain ⟨b,n',c,e1,e2⟩:=hv;exact ⟨_,.inl ⟨hw,fun w'=>run _ _ w' e2⟩,hput ⟨b,n',c,e1,by rw [Nat.add_assoc]⟩⟩
     ·cases h9
   ·rename_i s t ps hx
    have hi2:nC P X o = some i':=by
     unfold xK xJ at hi
     simp only [hx] at hi
     split at hi
     ·split at hi
      ·cases hi
      ·cases hi;assumption
     ·cases hi
    unfold nC at hi2
    simp only [hx] at hi2
    have hb:∃ z l,EU P t = some z ∧ i' = .build z l ∧ ((∃ fs,P.underlying t = some (.struct fs) ∧ fs.toList.all (fun (f:Field)=>(lV P f.type).isSome) = true ∧ parts P fs ps.toList = some l) ∨ ∃ n e sz,P.underlying t = some (.array n e) ∧ lV P e = some sz ∧ oQ sz ps.toList = some l):=by
     split at hi2
     ·rename_i fs hu
      split at hi2
      ·rename_i hall
       obtain ⟨z,g1,g2⟩:=zbm hi2
       obtain ⟨l,g3,rfl⟩:=zmm g2
       exact ⟨z,l,g1,rfl,.inl ⟨fs,hu,hall,g3⟩⟩
      ·cases hi2
     ·rename_i n e hu
      obtain ⟨sz,g0,g00⟩:=zbm hi2
      obtain ⟨z,g1,g2⟩:=zbm g00
      obtain ⟨l,g3,rfl⟩:=zmm g2
      exact ⟨z,l,g1,rfl,.inr ⟨n,e,sz,hu,g0,g3⟩⟩
     ·cases hi2
    obtain ⟨z,l,g1,rfl,g2⟩:=hb
    obtain ⟨g3,v,g4,g5⟩:=Jp hr g1 g2 h4
    refine ⟨v,.inl ⟨hw,fun w'=>?_⟩,by rw [g3];exact hput g5⟩
    unfold execOp
    simp only [hx,Sem.run_bind,g4,Result.andThen_ok,Sem.run_pure]
   ·rename_i s x n hx
    have hi2:nC P X o = some i':=by
     unfold xK xJ at hi
     simp only [hx] at hi
     split at hi
     ·split at hi
      ·cases hi
      ·cases hi;assumption
     ·cases hi
    unfold nC at hi2
    simp only [hx] at hi2
    obtain ⟨y,g1,rfl⟩:=zmm hi2
    obtain ⟨g3,v,g4,g5⟩:=OH (P:=P) hr g1 h4
    refine ⟨v,.inl ⟨hw,fun w'=>?_⟩,by rw [g3];exact hput g5⟩
    unfold execOp
    simp only [hx,Sem.run_bind,g4,Result.andThen_ok,Sem.run_pure]
   ·cases hp
 ·cases h2
theorem Fw (heq:∀ t ∈ X.eqs,lH P t) (lX:iN P Γ) (hC:eu P Γ) {ks oM:List Nat} {r:St} {Q:Exit → Act → World → Prop} (hns:Region.noSelect ops = true) (hg:lG P X ops N.ok ops.toList = some gs) (hQp:∀ c a w,¬ Q (.panic c) a w) (hQ:∀ a' w',Ok bG w0 bF N jk r a' w' → Q .normal a' w'):∀ (n:Nat) (l:Array Bool) (os:List (List Nat)) {σ:St} {a:Act} {w:World},l.size = ops.size → exts ops n l = some os → lU Γ gs ks oM σ r os → Ok bG w0 bF N jk σ a w → wpAny P .any ops Q n l a w
 | 0,l,os,σ,a,w,hl,he,hA,hO=>by
  unfold exts at he
  split at he
  ·rename_i hn
   cases he
   obtain ⟨⟨s,h1,h2⟩,_⟩:=hA
   cases h1
   exact ⟨hn,hQ a w (h2 ▸ hO.less (fun _ hp=>kg hp) (fun _ hp=>kg hp))⟩
  ·cases he
 | n + 1,l,os,σ,a,w,hl,he,hA,hO=>by
  unfold exts at he
  obtain ⟨e1,e2⟩:=jV hg
  have hgd:∀ i (hi1:i < ops.size),xL P X ops N.ok ops[i] = some (gs.getD i default):=by
   intro i hi1
   have hgi:=e2 i (by simpa using hi1) (by rw [← e1];simpa using hi1)
   rw [List.getD_eq_getElem?_getD,List.getElem?_eq_getElem (by rw [← e1];simpa using hi1)]
   simpa using hgi
  split at he
  ·rename_i hn
   cases he
   obtain ⟨⟨s,h1,h2⟩,_⟩:=hA
   cases h1
   rw [kS]
   exact ⟨fun _=>hQ a w (h2 ▸ hO.less (fun _ hp=>kg hp) (fun _ hp=>kg hp)),fun i hi=>by rw [hn] at hi;simp at hi⟩
  ·rename_i i0 is0 hn
   split at he
   ·rename_i j hf
    obtain ⟨A,h1,rfl⟩:=zmm he
    have hj:=List.find?_some hf
    rw [Bool.and_eq_true] at hj
    have hjr:j ∈ Region.ready .any ops l:=by rw [hn];exact List.mem_of_find?_eq_some hf
    obtain ⟨hj1,hj2,hj3⟩:=(je hl).mp hjr
    obtain ⟨s,g1,g2⟩:=hA.step (fun e=>sQ n _ (e ▸ h1))
    obtain ⟨v,hy,DC⟩:=OI (Array.getElem?_eq_getElem hj1) hj.1 (hgd j hj1) hO g1
    exact wpAny_take (Array.getElem?_eq_getElem hj1) hns hj.2 (by simpa using hjr) (fun c a w h=>absurd h (hQp c _ w)) hy (Fw heq lX hC hns hg hQp hQ n _ A (by simp [hl]) h1 g2 DC)
   ·rw [kS]
    refine ⟨fun h=>(by rw [hn] at h;cases h),?_⟩
    rw [hn]
    have hall:∀ i ∈ i0 :: is0,i ∈ Region.ready .any ops l:=fun i hi=>by rw [hn];exact hi
    rename_i hfn
    clear hfn
    generalize i0 :: is0 = is at he hall
    clear hn
    induction is generalizing os with
    | nil=>intro i hi;simp at hi
    | cons j is ih =>
     obtain ⟨A,h1,h2⟩:=zbm he
     obtain ⟨B,h3,rfl⟩:=zmm h2
     obtain ⟨hA1,hA2⟩:=hA.app
     intro i hi
     rcases List.mem_cons.mp hi with rfl | hi
     ·obtain ⟨hi1,hi2,hi3⟩:=(je hl).mp (hall i (by simp))
      obtain ⟨s,g1,g2⟩:=hA1.step (fun e=>sQ n _ (e ▸ h1))
      unfold wpOp
      rw [Array.getElem?_eq_getElem hi1]
      exact BN heq lX hC (hgd i hi1) hO g1 fun a' w' h'=>Fw heq lX hC hns hg hQp hQ n _ A (by simp [hl]) h1 g2 h'
     ·exact ih B hA2 h3 (fun i hi=>hall i (List.mem_cons_of_mem _ hi)) i hi
theorem lU.pre {ks oM:List Nat} {r:St}:∀ {p:List Nat} {A:List (List Nat)} {σ:St},lU Γ gs ks oM σ r (A.map (p ++ ·)) → A ≠ [] → ∃ s,xC Γ false (p.map fun i=>gs.getD i default) σ = some s ∧ lU Γ gs ks oM s r A
 | [],A,σ,h,_=>⟨σ,rfl,by simpa using h⟩
 | i :: p,A,σ,h,hA=>by
  have e:A.map (i :: p ++ ·) = (A.map (p ++ ·)).map (i :: ·):=by rw [List.map_map];rfl
  rw [e] at h
  obtain ⟨s,h1,h2⟩:=h.step (by simpa using hA)
  obtain ⟨s',h3,h4⟩:=lU.pre h2 hA
  refine ⟨s',?_,h4⟩
  show (Og Γ false σ _).bind _ = _
  rw [h1]
  exact h3
theorem Lm (ops:Array Oper):∀ j,∀ x ∈ (kM [] (ops.toList.map jF)).getD j [],Jm ops x j:=yh _ _ (fun j x hx=>by simp at hx) (fun k hk=>by
 have hk':k < ops.size:=by simpa using hk
 refine ⟨by simpa using hk',?_⟩
 rw [List.getElem?_map,Array.getElem?_toList,Array.getElem?_eq_getElem hk']
 simp)
theorem UF {l:Array Bool} (hd:Down ops l) {i j:Nat} (hb:Jm ops j i):(∀ (h:i < ops.size),∀ e ∈ jF ops[i],Dn l e) → Dn l j:=by
 induction hb with
 | dir h he=>intro hr;exact hr h _ he
 | step h he hj ih=>intro hr;exact ih (fun h'=>hd _ h' (hr h _ he))
theorem OJ {h n i:Nat} (hh:h ≤ n):Dn (mask h n) i ↔ i < h:=by
 unfold Dn mask
 rw [Array.getD_eq_getD_getElem?,List.getElem?_toArray,List.getElem?_append,List.length_replicate]
 split
 ·rename_i h1;simp [List.getElem?_replicate,h1]
 ·rename_i h1
  rw [List.getElem?_replicate]
  split <;> simp [h1]
theorem Lp {h n:Nat} (hh:h < n):(mask h n).setIfInBounds h true = mask (h + 1) n:=by
 unfold mask
 refine Array.ext' ?_
 rw [Array.toList_setIfInBounds]
 refine List.ext_getElem? fun i=>?_
 rw [List.getElem?_set]
 simp only [List.getElem?_append,List.length_replicate,List.getElem?_replicate,List.length_append]
 by_cases h1:h = i
 ·subst h1
  rw [if_pos rfl,if_pos (by simp;omega),if_pos (by omega),if_pos (by omega)]
 ·rw [if_neg h1]
  by_cases h2:i < h
  ·rw [if_pos h2,if_pos h2,if_pos (by omega),if_pos (by omega)]
  ·have h4:¬ i < h + 1:=by omega
   simp only [h2,h4,if_false]
   by_cases h3:i < n
   ·rw [if_pos (by omega),if_pos (by omega)]
   ·rw [if_neg (by omega),if_neg (by omega)]
theorem Hg (heq:∀ t ∈ X.eqs,lH P t) (lX:iN P Γ) (hC:eu P Γ) {Q:Exit → Act → World → Prop} (hg:lG P X ops N.ok ops.toList = some gs) {h:Nat} (hh:h ≤ ops.size) (hB:Hf (ops.toList.map jF) (kM [] (ops.toList.map jF)) ops.size h = true) {σh:St}
  (hK:∀ a' w',Ok bG w0 bF N jk σh a' w' → wpAny P .any ops Q (ops.size - h) (mask h ops.size) a' w'):∀ (m i:Nat) {σ:St} {a:Act} {w:World},m + i = h → xC Γ false ((List.range' i m).map fun i=>gs.getD i default) σ = some σh → Ok bG w0 bF N jk σ a w → wpAny P .any ops Q (ops.size - i) (mask i ops.size) a w
 | 0,i,σ,a,w,hm,hE,hO=>by
  have:i = h:=by omega
  subst this
  cases hE
  exact hK a w hO
 | m + 1,i,σ,a,w,hm,hE,hO=>by
  obtain ⟨e1,e2⟩:=jV hg
  have hi:i < ops.size:=by omega
  have hgd:xL P X ops N.ok ops[i] = some (gs.getD i default):=by
   have hgi:=e2 i (by simpa using hi) (by rw [← e1];simpa using hi)
   rw [List.getD_eq_getElem?_getD,List.getElem?_eq_getElem (by rw [← e1];simpa using hi)]
   simpa using hgi
  unfold Hf at hB
  rw [Bool.and_eq_true] at hB
  have hEd:∀ k (hk:k < ops.size),∀ e ∈ jF ops[k],e < k:=fun k hk e he=>by
   have h1:=List.all_eq_true.mp hB.1 k (List.mem_range.mpr hk)
   rw [List.getD_eq_getElem?_getD,List.getElem?_map,Array.getElem?_toList,Array.getElem?_eq_getElem hk] at h1
   simpa using List.all_eq_true.mp h1 e he
  have hsz:(mask i ops.size).size = ops.size:=by simp [mask];omega
  have hdn:∀ j,Dn (mask i ops.size) j ↔ j < i:=fun j=>OJ (by omega)
  have YE:Down ops (mask i ops.size):=fun j hj hd e he=>(hdn e).mpr (by have:=(hdn j).mp hd;have:=hEd j hj e he;omega)
  have hri:i ∈ Region.ready .any ops (mask i ops.size):=(je hsz).mpr ⟨hi,fun hd=>by have:=(hdn i).mp hd;omega,fun e he=>(hdn e).mpr (hEd i hi e he)⟩
  rw [show ops.size - i = (ops.size - (i + 1)) + 1 from by omega,kS]
  refine ⟨fun hn=>by rw [hn] at hri;simp at hri,fun j hj=>?_⟩
  obtain ⟨hj1,hj2,hj3⟩:=(je hsz).mp hj
  have hij:j = i:=by
   apply Classical.byContradiction
   intro hne
   have hlt:i < j:=by
    have:¬ j < i:=fun hx=>hj2 ((hdn j).mpr hx)
    omega
   have h1:=List.all_eq_true.mp hB.2 j (List.mem_range.mpr hj1)
   have h2:(List.getD (kM [] (ops.toList.map jF)) j []).take (min j h) = List.range (min j h):=by simpa using h1
   have h3:i ∈ (kM [] (ops.toList.map jF)).getD j []:=List.mem_of_mem_take (by rw [h2];exact List.mem_range.mpr (by omega))
   have:=(hdn i).mp (UF YE (Lm ops j i h3) (fun _=>hj3))
   omega
  subst hij
  rw [List.range'_succ,List.map_cons] at hE
  obtain ⟨s,g1,g2⟩:=zbm hE
  unfold wpOp
  rw [Array.getElem?_eq_getElem hi]
  refine BN heq lX hC hgd hO g1 fun a' w' h'=>?_
  rw [Lp hi]
  exact Hg heq lX hC hg hh (by unfold Hf;rw [Bool.and_eq_true];exact hB) hK m (j + 1) (by omega) g2 h'
theorem UG (hm:P.follows .mixedOrders = true) (heq:∀ t ∈ X.eqs,lH P t) (lX:iN P Γ) (hC:eu P Γ) {ks oM:List Nat} {os:List (List Nat)} {o:Out} {id:Nat} (hns:Region.noSelect ops = true) (hg:lG P X ops N.ok ops.toList = some gs) (he:Ll ops = some os) (hO:Ok bG w0 bF N jk σ a w) (hE:evO Γ gs ks oM σ os = some (o,σ')) (hQ:∀ a' w',Ok bG w0 bF N jk σ' a' w' → Q (Fv o) a' w'):(Code.region id ops true).wp P Q a w:=by
 refine wp_mono (Q:=fun e a w=>e = .normal ∧ Q e a w) ?_ (fun _ _ _ h=>h.2)
 refine wp_region_any hm ?_
 replace hO:Ok bG w0 bF N jk σ a { w with drawn:=w.drawn + 1 }:=by
  obtain ⟨Fz,κ,hr,hk⟩:=hO
  exact ⟨Fz,κ,hr.grow (w':={ w with drawn:=w.drawn + 1 }) (Nat.le_refl _) (fun _ _=>rfl) ⟨rfl,rfl⟩,hk⟩
 cases os with
 | nil=>cases hE
 | cons o1 os =>
  obtain ⟨s,h1,h2⟩:=zbm hE
  split at h2
  ·rename_i hA
   cases h2
   unfold Ll at he
   simp only [Li] at he
   split at he
   ·rename_i hcond
    obtain ⟨A,h5,h6⟩:=zmm he
    have hA':lU Γ gs ks oM σ _ (A.map (List.range (Dz (kM [] (ops.toList.map jF)) ops.size 0) ++ ·)):=h6 ▸ (show lU Γ gs ks oM σ ⟨pick ks s.tm,pick oM s.ob⟩ (o1 :: os) from ⟨⟨s,h1,rfl⟩,hA⟩)
    obtain ⟨sh,h7,h8⟩:=hA'.pre (fun e=>sQ _ _ (e ▸ h5))
    have hm0:Array.replicate ops.size false = mask 0 ops.size:=by
     unfold mask
     refine Array.ext' ?_
     simp
    rw [hm0]
    refine Hg (i:=0) (h:=Dz (kM [] (ops.toList.map jF)) ops.size 0) heq lX hC hg hcond.1 hcond.2 (fun a' w' h'=>?_) (Dz (kM [] (ops.toList.map jF)) ops.size 0) (by omega) (by rw [← List.range_eq_range'];exact h7) hO
    exact Fw heq lX hC hns hg (fun c a w h=>by cases h.1) (fun a' w' h=>⟨rfl,hQ a' w' h⟩) _ _ A (by simp [mask];omega) h5 h8 h'
   ·cases he
  ·cases h2
theorem DF (hm:P.follows .mixedOrders = true) (heq:∀ t ∈ X.eqs,lH P t) (lX:iN P Γ) (hC:eu P Γ):∀ (c:Code) {h h':List Hi} {cc:CC} {σ σ':St} {o:Out} {a:Act} {w:World} {Q:Exit → Act → World → Prop},comp P X N.ok c h = some (cc,h') → Ok bG w0 bF N jk σ a w → ev Γ F cc σ = some (o,σ') →
  (∀ a' w',Ok bG w0 bF N jk σ' a' w' → Q (Fv o) a' w') → c.wp P Q a w:=by
 intro c
 induction c with
 | skip =>
  intro h h' cc σ σ' o a w Q hc hO hE hQ
  cases hc
  cases hE
  exact wp_skip (hQ a w hO)
 | region id ops draw =>
  intro h h' cc σ σ' o a w Q hc hO hE hQ
  cases h with
  | nil=>cases hc
  | cons k h =>
  obtain ⟨cr,h1,h2⟩:=zmm hc
  cases h2
  obtain ⟨gs,h3,h4⟩:=zbm h1
  cases draw with
  | false =>
   cases h4
   obtain ⟨s,h5,h6⟩:=zmm hE
   cases h6
   exact wp_region_list (Ld heq lX hC h3 hO h5 fun a' w' h=>hQ a' w' (h.keep _))
  | true =>
   simp only [Li] at h4
   split at h4
   ·split at h4
    ·rename_i hns
     obtain ⟨os,h5,h6⟩:=zmm h4
     cases h6
     exact UG hm heq lX hC hns h3 h5 hO hE hQ
    ·cases h4
   split at h4
   ·rename_i hb
    cases h4
    obtain ⟨s,h5,h6⟩:=zmm hE
    cases h6
    obtain ⟨g1,g2⟩:=Jo (OG _ _) h3 hb
    exact UC hm g1 heq lX hC (by rw [g2];exact h3) hO h5 fun a' w' h=>hQ a' w' (h.keep _)
   ·cases h4
 | seq x y ihx ihy =>
  intro h h' cc σ σ' o a w Q hc hO hE hQ
  obtain ⟨p,h1,h2⟩:=zbm hc
  obtain ⟨r,h3,h4⟩:=zmm h2
  cases h4
  obtain ⟨s,h5,h6⟩:=zbm hE
  refine wp_seq (ihx h1 hO h5 fun a' w' DC=>?_)
  cases hs:s.1 with
  | jc=>rw [hs] at h6;exact ihy h3 DC h6 hQ
  | ext id=>rw [hs] at h6;cases h6;exact hQ a' w' DC
  | ret=>rw [hs] at h6;cases h6;exact hQ a' w' DC
 | cond c x y ihx ihy =>
  intro h h' cc σ σ' o a w Q hc hO hE hQ
  obtain ⟨co,h0,hc⟩:=zbm hc
  obtain ⟨p,h1,h2⟩:=zbm hc
  obtain ⟨r,h3,h4⟩:=zmm h2
  cases h4
  obtain ⟨v,h5,h6⟩:=zbm hE
  obtain ⟨t,h7,h8⟩:=zbm h6
  have hv:a.eval c = .bool t:=by
   obtain ⟨Fz,κ,hr,_⟩:=hO
   exact Bq h7 (hr.eval h0 h5)
  refine wp_cond hv ?_
  cases t with
  | true=>exact ihx h1 hO h8 hQ
  | false=>exact ihy h3 hO h8 hQ
 | block id c ih =>
  intro h h' cc σ σ' o a w Q hc hO hE hQ
  obtain ⟨p,h1,h2⟩:=zmm hc
  cases h2
  obtain ⟨s,h3,h4⟩:=zmm hE
  refine wp_block (ih h1 hO h3 fun a' w' DC=>?_)
  cases hs:s.1 with
  | jc=>rw [hs] at h4;cases h4;exact hQ a' w' DC
  | ret=>rw [hs] at h4;cases h4;exact hQ a' w' DC
  | ext i =>
   rw [hs] at h4
   simp only [Fv,Exit.inBlock]
   by_cases hi:i = id
   ·simp only [if_pos hi] at h4
    cases h4;rw [if_pos hi];exact hQ a' w' DC
   ·simp only [if_neg hi] at h4
    cases h4;rw [if_neg hi];exact hQ a' w' DC
 | loop c ih =>
  intro h h' cc σ σ' o a w Q hc hO hE hQ
  cases h with
  | nil=>cases hc
  | cons k h =>
   obtain ⟨p,h1,h2⟩:=zmm hc
   cases h2
   have key:∀ (n:Nat) (σ:St) (a:Act) (w:World),Ok bG w0 bF N jk σ a w → iter (ev Γ F p.1) (Ev.res k.ks k.CW k.rws) n σ = some (o,σ') → Code.rounds P c Q n a w:=by
    intro n
    induction n with
    | zero=>intro σ a w _ hE;cases hE
    | succ n ihn =>
     intro σ a w hO hE
     obtain ⟨s,h3,h4⟩:=zbm hE
     rw [rounds_succ]
     refine ih h1 (hO.res k.ks k.CW k.rws) h3 fun a' w' DC=>?_
     cases hs:s.1 with
     | jc=>rw [hs] at h4;exact ihn s.2 a' w' DC h4
     | ext id=>rw [hs] at h4;cases h4;exact hQ a' w' DC
     | ret=>rw [hs] at h4;cases h4;exact hQ a' w' DC
   exact wp_loop_rounds F (key F σ a w hO hE)
 | exit id =>
  intro h h' cc σ σ' o a w Q hc hO hE hQ
  cases hc
  cases hE
  exact wp_exit (hQ a w hO)
 | ret =>
  intro h h' cc σ σ' o a w Q hc hO hE hQ
  cases hc
  cases hE
  exact wp_ret (hQ a w hO)
 | scope c ih =>
  intro h h' cc σ σ' o a w Q hc hO hE hQ
  refine wp_scope_straight (ih hc hO hE fun a' w' h'=>?_)
  have:=hQ a' w' h'
  cases o <;> exact this
 | label l =>
  intro h h' cc σ σ' o a w Q hc hO hE hQ
  cases hc
  cases hE
  exact wp_label (hQ a w hO)
 | _=>intro h h' cc σ σ' o a w Q hc;cases hc
end
end Go.Proofs.Ytfokaoeinpnagaa.Ev
namespace Go.Proofs.Ytfokaoeinpnagaa.Ev
open Go
section
variable {P : Program} {Γ:Env} {bG Fz bJ:Nat → Prop} {w0 w w':World} {bF bs:List Nat} {N:Fr} {F:Nat} {κ jk:Nat → Value} {σ fH σ':St} {a:Act} {X:Hx}
theorem DI {bo:List Nat}:∀ {fK:List AV} {vals:List Value} {bx bs:List Nat} {i:Nat} {pend:List PL} {jI:List Value} {mU:List CV} {κ:Nat → Value} {σ σ':St},bT bG w0 bF N (bx ++ bs) Fz κ σ a w → fP Fz w fK vals bx → (∀ j v,vals[j]? = some v → a.tmps.getD (i + j) undef = v) → bA Fz κ w pend jI → enter bo i pend σ fK = some (mU,σ') →
  ∃ fu,bT bG w0 bF N bs Fz fu σ' a w ∧ dL Fz fu w mU vals ∧ bA Fz fu w pend jI
 | [],[],bx,bs,i,pend,jI,mU,κ,σ,σ',h,hx,ht,hp,hs=>by cases hs;cases hx;exact ⟨κ,h,trivial,hp⟩
 | [],_ :: _,_,_,_,_,_,_,_,_,_,_,hx,_,_,_=>hx.elim
 | _ :: _,[],_,_,_,_,_,_,_,_,_,_,hx,_,_,_=>hx.elim
 | x :: fK,v :: vals,bx,bs,i,pend,jI,mU,κ,σ,σ',h,hx,ht,hp,hs=>by
  obtain ⟨b1,b2,h1,h2,rfl⟩:=hx
  obtain ⟨p,h3,h4⟩:=zbm hs
  obtain ⟨r,h5,h6⟩:=zmm h4
  cases h6
  obtain ⟨zI,e1,e2,e3,_⟩:=K6 (Kp:=fun _=>True) (fun _ _=>trivial) (fun _ _ _=>trivial) trivial (bs:=b2 ++ bs) (by rw [← List.append_assoc];exact h) h1 hp h3
  have hv:a.tmps.getD i undef = v:=by have:=ht 0 v rfl;rwa [Nat.add_zero] at this
  have hrel:bT bG w0 bF N (b2 ++ bs) Fz zI ⟨Ev.put p.2.tm i (.c p.1),p.2.ob⟩ a w:=⟨e1.rel.put' (by rw [hv];exact e2),e1.l8,e1.ap⟩
  obtain ⟨Fg,g1,g2,g3⟩:=DI hrel h2 (fun j u hj=>by have:=ht (j + 1) u (by simpa using hj);rwa [show i + 1 + j = i + (j + 1) from by omega]) (show bA Fz zI w (Ev.cells p.1 ++ pend) (Ev.Dq p.1 v ++ jI) from e2.Dq.app e3) h5
  obtain ⟨g5,g6⟩:=g3.BL (by have:=e2.Dq.length;omega)
  exact ⟨Fg,g1,⟨gq.K7 (fun xs hx=>by rw [hx] at e2;obtain ⟨cs,h,_⟩:=e2;exact ⟨cs,h⟩) g5,g2⟩,g6⟩
theorem wP (h:bT bG w0 bF N bs Fz κ σ a w) {x:PL} {y:TV} {v:Value} (hx:dY Fz κ w x v) (hs:outT σ x = some (y,σ')):∃ bJ bx,bT bG w0 bF N (bx ++ bs) bJ κ σ' a w ∧ (∀ b,Fz b → bJ b) ∧ nK bJ w y v bx:=by
 cases x with
 | f x=>cases hs;exact ⟨Fz,[],h,fun _ h=>h,hx,rfl⟩
 | dN=>cases hs;exact ⟨Fz,[],h,fun _ h=>h,by simp only [eY];exact ⟨none,0,hx,Nat.le_refl _,by simp,.inl trivial⟩,rfl⟩
 | iy=>cases hs;exact ⟨Fz,[],h,fun _ h=>h,hx,rfl⟩
 | fB=>cases hs;exact ⟨Fz,[],h,fun _ h=>h,hx,rfl⟩
 | fp cs=>cases hs;exact ⟨Fz,[],h,fun _ h=>h,dY.mono (κ:=κ) (fu:=fun _=>undef) (fun _ h=>h) (fun _ _=>rfl) (fun k hk=>by cases hk) hx,rfl⟩
 | fn f cs=>cases hs;exact ⟨Fz,[],h,fun _ h=>h,dY.mono (κ:=κ) (fu:=fun _=>undef) (fun _ h=>h) (fun _ _=>rfl) (fun k hk=>by cases hk) hx,rfl⟩
 | own key n =>
  obtain ⟨p,h1,h2⟩:=zmm hs
  cases h2
  obtain ⟨bJ,g1,g2,g3⟩:=h.xg hx h1
  exact ⟨bJ,[],g1,g2,g3,rfl⟩
 | mp key =>
  simp only [outT] at hs
  split at hs
  ·rename_i sh ents gy
   cases hs
   obtain ⟨b,h1,h2⟩:=h.rel.obj gy
   exact ⟨Fz,[b],h.take gy (by rw [h1];rfl),fun _ h=>h,b,by rw [hx.1,h1],h2,rfl⟩
  ·cases hs
 | ptr key off =>
  cases off with
  | succ n=>cases hs
  | zero =>
   simp only [outT] at hs
   split at hs
   ·rename_i xs gy
    obtain ⟨p,h1,h2⟩:=zmm hs
    cases h2
    obtain ⟨b,cs,e,g1,g2,g3⟩:=h.rel.obj gy
    obtain ⟨b',g4,g5⟩:=hx
    rw [g1] at g4
    cases g4
    obtain ⟨F1,bx,e1,e2,e3⟩:=BH (h.take gy (by rw [g1];rfl)) g3 h1
    exact ⟨F1,b :: bx,e1.perm List.perm_middle,e2,b,cs,e,bx,g5,g2,e3,rfl⟩
   ·cases hs
 | _=>cases hs
theorem DJ : ∀ {xs:List PL} {ys:List TV} {vs:List Value} {bs:List Nat} {Fz:Nat → Prop} {σ σ':St},bT bG w0 bF N bs Fz κ σ a w → bA Fz κ w xs vs → vI σ xs = some (ys,σ') → ∃ bJ bx,bT bG w0 bF N (bx ++ bs) bJ κ σ' a w ∧ (∀ b,Fz b → bJ b) ∧ lN bJ w ys vs bx
 | [],ys,[],bs,Fz,σ,σ',h,_,hs=>by cases hs;exact ⟨Fz,[],h,fun _ h=>h,rfl⟩
 | x :: xs,ys,v :: vs,bs,Fz,σ,σ',h,hx,hs=>by
  obtain ⟨p,h1,h2⟩:=zbm hs
  obtain ⟨r,h3,h4⟩:=zmm h2
  cases h4
  obtain ⟨F1,b1,e1,e2,e3⟩:=wP h hx.1 h1
  obtain ⟨F2,b2,e4,e5,e6⟩:=DJ e1 (bA.mono e2 (fun _ _=>rfl) xs (fun _ _=>rfl) vs hx.2) h3
  refine ⟨F2,b1 ++ b2,e4.perm ?_,fun b hb=>e5 b (e2 b hb),b1,b2,e3.mono e5 (fun _ _=>rfl) (fun _ _=>rfl),e6,rfl⟩
  rw [← List.append_assoc]
  exact List.perm_append_comm.append_right bs
 | [],_,_ :: _,_,_,_,_,_,h,_=>h.elim
 | _ :: _,_,[],_,_,_,_,_,h,_=>h.elim
theorem OL (h:bT bG w0 bF N bs Fz κ σ a w) {x:CV} {y:AV} {v:Value} (hx:gq Fz κ w x v) (hs:Oi σ x = some (y,σ')):∃ bJ bx,bT bG w0 bF N (bx ++ bs) bJ κ σ' a w ∧ (∀ b,Fz b → bJ b) ∧ pq bJ w y v bx:=by
 cases x with
 | one x =>
  obtain ⟨p,h1,h2⟩:=zmm hs
  cases h2
  exact wP h hx h1
 | agg xs =>
  obtain ⟨p,h1,h2⟩:=zmm hs
  cases h2
  obtain ⟨cs,rfl,hx⟩:=hx
  obtain ⟨F1,b1,e1,e2,e3⟩:=DJ h hx h1
  exact ⟨F1,b1,e1,e2,cs,rfl,e3⟩
theorem OM (h:bT bG w0 bF N bs Fz κ σ a w) {sz:Nat} {x:PL} {y:TV} {v:Value} (hx:dY Fz κ w x v) (hs:Bh sz σ x = some (y,σ')):∃ bx,bT bG w0 bF N (bx ++ bs) Fz κ σ' a w ∧ nK Fz w y v bx:=by
 cases x with
 | own key n =>
  simp only [Bh] at hs
  split at hs
  ·rename_i z rows gy
   split at hs
   ·rename_i hz
    subst hz
    cases hs
    obtain ⟨g1,g2⟩:=h.GQ gy
    exact ⟨_,g1,by rw [hx.1];exact g2⟩
   ·cases hs
  ·cases hs
 | dN =>
  simp only [Bh] at hs
  split at hs
  ·cases hs
  ·rename_i hz
   cases hs
   have hv:v = .slice none 0 0:=hx
   subst hv
   exact ⟨[],h,by omega,0,[],none,0,rfl,World.ownsRow_nil w _ _ _,rfl,rfl⟩
 | _=>cases hs
theorem OO (h:bT bG w0 bF N bs Fz κ σ a w) {fl:Option Nat} {x:CV} {y:AV} {v:Value} (hx:gq Fz κ w x v) (hs:Bj fl σ x = some (y,σ')):∃ bJ bx,bT bG w0 bF N (bx ++ bs) bJ κ σ' a w ∧ (∀ b,Fz b → bJ b) ∧ pq bJ w y v bx:=by
 cases fl with
 | none=>exact OL h hx (by cases x <;> exact hs)
 | some sz =>
  cases x with
  | one x =>
   obtain ⟨p,h1,h2⟩:=zmm hs
   cases h2
   obtain ⟨bx,e1,e2⟩:=OM h hx h1
   exact ⟨Fz,bx,e1,fun _ h=>h,e2⟩
  | agg xs=>cases hs
theorem DK : ∀ {xs:List CV} {ys:List AV} {vs:List Value} {fl:List (Option Nat)} {bs:List Nat} {Fz:Nat → Prop} {σ σ':St},bT bG w0 bF N bs Fz κ σ a w → dL Fz κ w xs vs → mE fl σ xs = some (ys,σ') → ∃ bJ bx,bT bG w0 bF N (bx ++ bs) bJ κ σ' a w ∧ (∀ b,Fz b → bJ b) ∧ fP bJ w ys vs bx
 | [],ys,[],fl,bs,Fz,σ,σ',h,_,hs=>by cases hs;exact ⟨Fz,[],h,fun _ h=>h,rfl⟩
 | x :: xs,ys,v :: vs,fl,bs,Fz,σ,σ',h,hx,hs=>by
  obtain ⟨p,h1,h2⟩:=zbm hs
  obtain ⟨r,h3,h4⟩:=zmm h2
  cases h4
  obtain ⟨F1,b1,e1,e2,e3⟩:=OO h hx.1 h1
  obtain ⟨F2,b2,e4,e5,e6⟩:=DK e1 (dL.mono e2 (fun _ _=>rfl) xs (fun _ _=>rfl) vs hx.2) h3
  refine ⟨F2,b1 ++ b2,e4.perm ?_,fun b hb=>e5 b (e2 b hb),b1,b2,e3.mono e5 (fun _ _=>rfl) (fun _ _=>rfl),e6,rfl⟩
  rw [← List.append_assoc]
  exact List.perm_append_comm.append_right bs
 | [],_,_ :: _,_,_,_,_,_,_,h,_=>h.elim
 | _ :: _,_,[],_,_,_,_,_,_,h,_=>h.elim
theorem DL {x:PL} {y z:TV} {v:Value} {EX:List Nat} {F0:Nat → Prop} {u0:World} (h:bT bG w0 bF N bs Fz κ σ a w) {Lr:Nat → Value} (hx:dY F0 Lr u0 x v) (Kt:∀ k,k % 2 = 1 → κ k = Lr k) (hy:nK F0 u0 y v EX) (hf:∀ b,F0 b → Fz b) (hw:∀ b,F0 b → w.heap[b]? = u0.heap[b]?) (hs:jP σ x y = some (z,σ')) :
  ∃ bJ bx,bT bG w0 bF N (bx ++ bs) bJ κ σ' a w ∧ (∀ b,Fz b → bJ b) ∧ nK bJ w z v bx:=by
 have plain:EX = [] → some (y,σ) = some (z,σ') → ∃ bJ bx,bT bG w0 bF N (bx ++ bs) bJ κ σ' a w ∧ (∀ b,Fz b → bJ b) ∧ nK bJ w z v bx:=by
  intro hb hs
  cases hs
  subst hb
  exact ⟨Fz,[],h,fun _ h=>h,hy.mono hf hw (fun b hb=>by simp at hb)⟩
 cases y with
 | ptr cs =>
  cases x with
  | ptr key off =>
   cases off with
   | succ n=>cases hs
   | zero =>
    simp only [jP] at hs
    split at hs
    ·rename_i hk
     exact wP h (show dY Fz κ w (.ptr key 0) v by obtain ⟨b,h1,h2⟩:=hx;exact ⟨b,(Kt key hk).trans h1,h2⟩) hs
    ·cases hs
  | _=>cases hs
 | mp sh ents =>
  cases x with
  | mp key =>
   simp only [jP] at hs
   split at hs
   ·rename_i hk
    exact wP h (show dY Fz κ w (.mp key) v by obtain ⟨h1,h2⟩:=hx;exact ⟨h1.trans (Kt key hk).symm,h2⟩) hs
   ·cases hs
  | ptr key off=>cases off <;> cases hs
  | _=>cases hs
 | own sz rows =>
  have g:z = .any → σ' = σ → ∃ bJ bx,bT bG w0 bF N (bx ++ bs) bJ κ σ' a w ∧ (∀ b,Fz b → bJ b) ∧ nK bJ w z v bx:=by
   rintro rfl rfl
   exact ⟨Fz,[],h,fun _ h=>h,rfl⟩
  cases x with
  | ptr key off=>cases off <;> (cases hs;exact g rfl rfl)
  | own key n =>
   simp only [jP] at hs
   split at hs
   ·rename_i hk
    split at hs
    ·rename_i z' rows' gy
     cases hs
     obtain ⟨g1,g2⟩:=h.GQ gy
     refine ⟨Fz,_,g1,fun _ h=>h,?_⟩
     rw [hx.1,← Kt key hk]
     exact g2
    ·cases hs
   ·cases hs;exact g rfl rfl
  | _=>cases hs;exact g rfl rfl
 | fp cs =>
  cases x with
  | ptr key off=>cases off <;> exact plain hy.2 hs
  | _=>exact plain hy.2 hs
 | fn f cs =>
  cases x with
  | ptr key off=>cases off <;> exact plain hy.2 hs
  | _=>exact plain hy.2 hs
 | any =>
  cases x with
  | ptr key off=>cases off <;> exact plain hy hs
  | _=>exact plain hy hs
 | f y =>
  cases x with
  | ptr key off=>cases off <;> exact plain hy.2 hs
  | _=>exact plain hy.2 hs
 | iy =>
  cases x with
  | ptr key off=>cases off <;> exact plain hy.2 hs
  | _=>exact plain hy.2 hs
 | fB =>
  cases x with
  | ptr key off=>cases off <;> exact plain hy.2 hs
  | _=>exact plain hy.2 hs
theorem Ai {F0:Nat → Prop} {u0:World} {Lr:Nat → Value} (Kt:∀ k,k % 2 = 1 → κ k = Lr k):∀ {xs:List PL} {ys zs:List TV} {vs:List Value} {bs EX:List Nat} {Fz:Nat → Prop} {σ σ':St},bT bG w0 bF N bs Fz κ σ a w → bA F0 Lr u0 xs vs → lN F0 u0 ys vs EX → (∀ b,F0 b → Fz b) → (∀ b,F0 b → w.heap[b]? = u0.heap[b]?) → nX σ xs ys = some (zs,σ') →
  ∃ bJ bx,bT bG w0 bF N (bx ++ bs) bJ κ σ' a w ∧ (∀ b,Fz b → bJ b) ∧ lN bJ w zs vs bx
 | [],[],zs,[],bs,EX,Fz,σ,σ',h,hx,hy,hf,hw,hs=>by cases hs;exact ⟨Fz,[],h,fun _ h=>h,rfl⟩
 | x :: xs,y :: ys,zs,v :: vs,bs,EX,Fz,σ,σ',h,hx,hy,hf,hw,hs=>by
  obtain ⟨y1,y2,h1,h2,_⟩:=hy
  obtain ⟨p,h3,h4⟩:=zbm hs
  obtain ⟨r,h5,h6⟩:=zmm h4
  cases h6
  obtain ⟨F1,b1,e1,e2,e3⟩:=DL h hx.1 Kt h1 hf hw h3
  obtain ⟨F2,b2,e4,e5,e6⟩:=Ai Kt e1 hx.2 h2 (fun b hb=>e2 b (hf b hb)) hw h5
  refine ⟨F2,b1 ++ b2,e4.perm ?_,fun b hb=>e5 b (e2 b hb),b1,b2,e3.mono e5 (fun _ _=>rfl) (fun _ _=>rfl),e6,rfl⟩
  rw [← List.append_assoc]
  exact List.perm_append_comm.append_right bs
 | [],[],_,_ :: _,_,_,_,_,_,_,hx,_,_,_,_=>hx.elim
 | _ :: _,_ :: _,_,[],_,_,_,_,_,_,hx,_,_,_,_=>hx.elim
 | [],_ :: _,_,_,_,_,_,_,_,_,_,_,_,_,hs=>by cases hs
 | _ :: _,[],_,_,_,_,_,_,_,_,_,_,_,_,hs=>by cases hs
theorem Ls {F0:Nat → Prop} {u0:World} {Lr:Nat → Value} (Kt:∀ k,k % 2 = 1 → κ k = Lr k) {x:CV} {y z:AV} {v:Value} {EX:List Nat} (h:bT bG w0 bF N bs Fz κ σ a w) (hx:gq F0 Lr u0 x v) (hy:pq F0 u0 y v EX) (hf:∀ b,F0 b → Fz b) (hw:∀ b,F0 b → w.heap[b]? = u0.heap[b]?) (hs:xD σ x y = some (z,σ')) :
  ∃ bJ bx,bT bG w0 bF N (bx ++ bs) bJ κ σ' a w ∧ (∀ b,Fz b → bJ b) ∧ pq bJ w z v bx:=by
 cases x with
 | one x =>
  cases y with
  | one y =>
   obtain ⟨p,h1,h2⟩:=zmm hs
   cases h2
   exact DL h hx Kt hy hf hw h1
  | agg ys=>cases hs
 | agg xs =>
  cases y with
  | one y=>cases hs
  | agg ys =>
   obtain ⟨p,h1,h2⟩:=zmm hs
   cases h2
   obtain ⟨cs,rfl,hx⟩:=hx
   obtain ⟨cs',hcs,hy⟩:=hy
   cases hcs
   obtain ⟨F1,b1,e1,e2,e3⟩:=Ai Kt h hx hy hf hw h1
   exact ⟨F1,b1,e1,e2,cs,rfl,e3⟩
theorem Aj {F0:Nat → Prop} {u0:World} {Lr:Nat → Value} (Kt:∀ k,k % 2 = 1 → κ k = Lr k):∀ {xs:List CV} {ys zs:List AV} {vs:List Value} {bs EX:List Nat} {Fz:Nat → Prop} {σ σ':St},bT bG w0 bF N bs Fz κ σ a w → dL F0 Lr u0 xs vs → fP F0 u0 ys vs EX → (∀ b,F0 b → Fz b) → (∀ b,F0 b → w.heap[b]? = u0.heap[b]?) → jU σ xs ys = some (zs,σ') →
  ∃ bJ bx,bT bG w0 bF N (bx ++ bs) bJ κ σ' a w ∧ (∀ b,Fz b → bJ b) ∧ fP bJ w zs vs bx
 | [],[],zs,[],bs,EX,Fz,σ,σ',h,hx,hy,hf,hw,hs=>by cases hs;exact ⟨Fz,[],h,fun _ h=>h,rfl⟩
 | x :: xs,y :: ys,zs,v :: vs,bs,EX,Fz,σ,σ',h,hx,hy,hf,hw,hs=>by
  obtain ⟨y1,y2,h1,h2,_⟩:=hy
  obtain ⟨p,h3,h4⟩:=zbm hs
  obtain ⟨r,h5,h6⟩:=zmm h4
  cases h6
  obtain ⟨F1,b1,e1,e2,e3⟩:=Ls Kt h hx.1 h1 hf hw h3
  obtain ⟨F2,b2,e4,e5,e6⟩:=Aj Kt e1 hx.2 h2 (fun b hb=>e2 b (hf b hb)) hw h5
  refine ⟨F2,b1 ++ b2,e4.perm ?_,fun b hb=>e5 b (e2 b hb),b1,b2,e3.mono e5 (fun _ _=>rfl) (fun _ _=>rfl),e6,rfl⟩
  rw [← List.append_assoc]
  exact List.perm_append_comm.append_right bs
 | [],[],_,_ :: _,_,_,_,_,_,_,hx,_,_,_,_=>hx.elim
 | _ :: _,_ :: _,_,[],_,_,_,_,_,_,hx,_,_,_,_=>hx.elim
 | [],_ :: _,_,_,_,_,_,_,_,_,_,_,_,_,hs=>by cases hs
 | _ :: _,[],_,_,_,_,_,_,_,_,_,_,_,_,hs=>by cases hs
end
end Go.Proofs.Ytfokaoeinpnagaa.Ev
namespace Go.Proofs.Ytfokaoeinpnagaa.Ev
open Go
def mY (P:Program):List ResultVar → Option (List Rs)
 | []=>some []
 | .tmp t :: l=>(mY P l).map fun r=>.t t :: r
 | .cell a t :: l=>(xH P t).bind fun g=>(lV P t).bind fun n=>(mY P l).map fun r=>.cell a (if g then n else 1) g :: r
section
variable {P : Program} {Γ:Env} {bG Fz bJ:Nat → Prop} {w0 w w':World} {bF bs:List Nat} {N:Fr} {F:Nat} {κ jk:Nat → Value} {σ fH σ':St} {a:Act} {X:Hx}
def Ak (tmps:Array Value) (r:ResultVar):Sem Value:=match r with
 | .tmp t=>pure (tmps.getD t undef)
 | .cell a t=>do loadVar t (← asAddr (tmps.getD a undef))
theorem yj (h:Rel bG w0 bF N Fz κ σ a w):∀ {rv:List ResultVar} {rs:List Rs} {mU:List CV},mY P rv = some rs → slots σ rs = some mU → ∃ vs,(rv.mapM (Ak a.tmps)).run P w = .ok vs w ∧ dL Fz κ w mU vs
 | [],rs,mU,hc,hs=>by cases hc;cases hs;exact ⟨[],by simp,trivial⟩
 | .tmp t :: l,rs,mU,hc,hs=>by
  obtain ⟨r,h1,rfl⟩:=zmm hc
  obtain ⟨x,h2,hs⟩:=zbm hs
  obtain ⟨m,h3,rfl⟩:=zmm hs
  obtain ⟨vs,e1,e2⟩:=yj h h1 h3
  have hv:=h.eval (x:=.tmp t) (y:=.t t) rfl h2
  refine ⟨a.tmps.getD t undef :: vs,?_,hv,e2⟩
  rw [List.mapM_cons]
  simp [Ak,e1]
 | .cell ad t :: l,rs,mU,hc,hs=>by
  obtain ⟨g,hg,hc⟩:=zbm hc
  obtain ⟨n,hn,hc⟩:=zbm hc
  obtain ⟨r,h1,rfl⟩:=zmm hc
  obtain ⟨x,h2,hs⟩:=zbm hs
  obtain ⟨m,h3,rfl⟩:=zmm hs
  obtain ⟨vs,e1,e2⟩:=yj h h1 h3
  simp only [slot] at h2
  split at h2
  ·rename_i key off hk
   split at h2
   ·rename_i xs gy
    obtain ⟨sg,h5,h6⟩:=zbm h2
    have hv:ji Fz κ w (.c (.one (.ptr key off))) (a.tmps.getD ad undef):=h.val hk
    obtain ⟨b,g1,g2⟩:=hv
    obtain ⟨b',cs,e,g3,g4,g5⟩:=h.obj gy
    rw [g1] at g3
    cases g3
    obtain ⟨e6,e7,e8⟩:=g5.seg h5
    obtain ⟨v,e9,e10⟩:=mW (P:=P) (b:=b) (o:=off) hg hn e6 (fun j v hj=>by
     have:=qd (w:=w) (b:=b) (o:=0) (off:=off) (vs:=cs.toList) (n:=if g then n else 1) (fun j v hj=>by
      rw [Nat.zero_add]
      simp only [World.cell?,g4]
      simpa using hj) j v hj
     rwa [Nat.zero_add] at this) e7 h6
    refine ⟨v :: vs,?_,e10,e2⟩
    have ha:(asAddr (a.tmps.getD ad undef)).run P w = .ok ⟨b,off,none⟩ w:=by rw [g2];rfl
    have hro:(Ak a.tmps (.cell ad t)).run P w = .ok v w:=by
     simp only [Ak,Sem.run_bind,ha,Result.andThen_ok]
     exact e9
    rw [List.mapM_cons]
    simp only [Sem.run_bind,hro,e1,Result.andThen_ok,Sem.run_pure]
   ·cases h2
  ·cases h2
theorem Fx (h:Rel bG w0 bF N Fz κ σ a w) {fn:Func} {rs:List Rs} {mU:List CV} (hc:mY P fn.results.toList = some rs) (hs:slots σ rs = some mU):∃ vs,(results fn a.tmps).run P w = .ok (ret vs) w ∧ dL Fz κ w mU vs:=by
 obtain ⟨vs,h1,h2⟩:=yj h hc hs
 refine ⟨vs,?_,h2⟩
 have he:results fn a.tmps = (do let vs ← fn.results.mapM (Ak a.tmps);pure (if h:vs.size = 1 then vs[0] else .tuple vs)):=by
  unfold results Ak
  congr 1
 rw [he,Array.mapM_eq_mapM_toList]
 simp only [Sem.run_bind,Sem.run_map,h1,Result.andThen_ok,Sem.run_pure]
 match vs with
 | []=>rfl
 | [x]=>rfl
 | x :: y :: l=>simp [ret]
theorem Lu {fn:Func} {cf:CF} {fK rs rE:List AV} {vals:List Value} {mU:List CV} {N:Fr} (hr:mY P fn.results.toList = some cf.res) (ha:fP Fz w fK vals bs) (hap:∀ b ∈ bs,¬ Fz b ∧ b < w.heap.size) (hfz:∀ b,Fz b → b < w.heap.size) (g2:dL Fz jk w mU vals) :
  ∀ a' w',Ok Fz w bs N jk σ a' w' → ((jU σ mU fK).bind fun b=>(slots b.2 cf.res).bind fun l=>(mE cf.ro b.2 l).map fun r=>(r.1,b.1)) = some (rs,rE) →
    a'.defers = N.ds ∧ ∃ v,(results fn a'.tmps).run P w' = .ok v w' ∧ ∃ bJ uM b1 b2,Ending.returned v = .returned (ret uM) ∧ Post Fz w vals bs rs rE bJ w' uM b1 b2:=by
 rintro a' w' ⟨F1,κ,hr1,hk⟩ hE
 obtain ⟨b,h3,hE⟩:=zbm hE
 obtain ⟨l,h4,hE⟩:=zbm hE
 obtain ⟨r,h5,h6⟩:=zmm hE
 cases h6
 have hmv:∀ b,Fz b → w'.heap[b]? = w.heap[b]?:=fun b hb=>hr1.ext b (hfz b hb) (fun hm=>(hap b hm).1 hb)
 obtain ⟨F2,b1,e1,e2,e3⟩:=Aj hk hr1.x g2 ha (fun b hb=>hr1.zw b hb) hmv h3
 rw [List.append_nil] at e1
 obtain ⟨uM,e4,e5⟩:=Fx e1.rel hr h4
 obtain ⟨F3,b2,e6,e7,e8⟩:=DK e1 e5 h5
 have hpm:=e6.perm List.perm_append_comm
 refine ⟨hr1.l8,ret uM,e4,F3,uM,b1,b2,rfl,fun b hb=>e7 b (e2 b (hr1.zw b hb)),fun b hb=>e6.rel.fz b hb,hr1.big,hr1.ext,hr1.kp,e3.mono e7 (fun _ _=>rfl) (fun _ _=>rfl),e8,hpm.l8,fun b hb=>?_⟩
 have:=hpm.ap b hb
 exact ⟨this.1,this.2.1,this.2.2.1⟩
theorem fP.len : ∀ {xs:List AV} {vs:List Value} {b:List Nat},fP Fz w xs vs b → vs.length = xs.length
 | [],[],_,_=>rfl
 | [],_ :: _,_,h=>h.elim
 | _ :: _,[],_,h=>h.elim
 | x :: xs,v :: vs,_,⟨_,_,_,h2,_⟩=>by simp [fP.len h2]
theorem entered {bo:List Nat} {n:Nat} {fK:List AV} {vals:List Value} {mU:List CV} (ha:fP Fz w fK vals bs) (hnd:bs.Nodup) (hap:∀ b ∈ bs,¬ Fz b ∧ b < w.heap.size) (hfz:∀ b,Fz b → b < w.heap.size)
  (hsz:(vals.toArray ++ Array.replicate (n - vals.toArray.size) undef).size = n) (h1:enter bo 0 [] ⟨[],[]⟩ fK = some (mU,σ)) :
  ∃ jk,Ok Fz w bs (Fr.of n) jk σ { tmps:=vals.toArray ++ Array.replicate (n - vals.toArray.size) undef,defers:=[] } w ∧ dL Fz jk w mU vals:=by
 have YF:bT Fz w bs (Fr.of n) (bs ++ []) Fz (fun _=>undef) ⟨[],[]⟩ { tmps:=vals.toArray ++ Array.replicate (n - vals.toArray.size) undef,defers:=[] } w :=
  ⟨⟨fun p hp=>by simp at hp,hsz,rfl,fun d hd=>by
   rw [Array.getD_eq_getD_getElem?,Array.getElem?_eq_none (by rw [hsz];simpa [Fr.of,TW] using hd)];rfl,fun p hp=>by simp at hp,fun p hp=>by simp at hp,fun p hp=>by simp at hp,fun b hb=>⟨hfz b hb,.inl hb⟩,fun _ h=>h,Nat.le_refl _,fun _ _ _=>rfl,rfl,rfl⟩,by rw [List.append_nil];exact hnd,fun b hb=>by
   rw [List.append_nil] at hb
   exact ⟨(hap b hb).1,(hap b hb).2,.inl hb,fun p hp=>by simp at hp⟩⟩
 obtain ⟨jk,g1,g2,_⟩:=DI YF ha (fun j v hj=>by
  rw [Nat.zero_add,Array.getD_eq_getD_getElem?,Array.getElem?_append_left (by
   have:=(List.getElem?_eq_some_iff.mp hj).1
   simpa using this)]
  simp [hj]) (show bA Fz (fun _=>undef) w [] [] from trivial) h1
 exact ⟨jk,⟨Fz,jk,g1.rel,fun _ _=>rfl⟩,g2⟩
theorem Al (hm:P.follows .mixedOrders = true) (heq:∀ t ∈ X.eqs,lH P t) (lX:iN P Γ) (hC:eu P Γ) {f:FuncId} {fn:Func} {c:Code} (hf:P.funcs[f]? = some fn) (hb:fn.body = some c) {cf:CF} {hints rest:List Hi}
  (hc:comp P X (TW fn.ntmps) c hints = some (cf.body,rest)) (hr:mY P fn.results.toList = some cf.res) (hnp:cf.np ≤ fn.ntmps) (F:Nat):Sat P f (Kr Γ F cf):=by
 intro fK rs rE hE Fz w vals bs ha hnd hap hfz
 unfold Kr at hE
 split at hE
 ·cases hE
 ·rename_i hlen
  have hlen':fK.length = cf.np:=Decidable.not_not.mp hlen
  have hvl:vals.length = fK.length:=ha.len
  obtain ⟨e,h1,hE⟩:=zbm hE
  obtain ⟨p,h2,hE⟩:=zbm hE
  refine calls_of_wp hf hb ?_
  have hsz:(vals.toArray ++ Array.replicate (fn.ntmps - vals.toArray.size) undef).size = fn.ntmps:=by simp;omega
  obtain ⟨jk,hok,g2⟩:=entered ha hnd hap hfz hsz h1
  have fin:=fun a' w'=>Lu (σ:=p.2) (N:=Fr.of fn.ntmps) (rs:=rs) (rE:=rE) (cf:=cf) hr ha hap hfz g2 a' w'
  refine DF hm heq lX hC c hc hok h2 fun a' w' hO=>?_
  cases hp:p.1 with
  | jc=>rw [hp] at hE;exact fin a' w' hO hE
  | ret=>rw [hp] at hE;exact fin a' w' hO hE
  | ext id=>rw [hp] at hE;cases hE
end
end Go.Proofs.Ytfokaoeinpnagaa.Ev
namespace Go.Proofs.Ytfokaoeinpnagaa.Ev
open Go
structure Tok {α:Type} (k:α → Prop):Type where
def W {α:Type} (k:α → Prop) (_:Tok k) (x:Option α):Prop:=∃ a,x = some a ∧ k a
section
variable {α β:Type} {k:α → Prop} {u:Tok k}
theorem gN {a:α}:W k u (some a) ↔ k a:=by simp [W]
theorem uN : W k u none ↔ False:=by simp [W]
theorem Fy {x:Option β} {f:β → Option α}:W k u (x.bind f) ↔ W (fun a=>W k ⟨⟩ (f a)) ⟨⟩ x:=by
 cases x <;> simp [W]
theorem Lv {x:Option β} {f:β → α}:W k u (x.map f) ↔ W (fun a=>k (f a)) ⟨⟩ x:=by
 cases x <;> simp [W]
theorem YG {c:Prop} [Decidable c] {a b:Option α}:W k u (if c then a else b) ↔ (c → W k u a) ∧ (¬ c → W k u b):=by
 by_cases h:c <;> simp [h]
theorem FB {c:Prop} [Decidable c] {a:Option α}:W k u (if c then a else none) ↔ c ∧ W k u a:=by
 by_cases h:c <;> simp [h,uN]
theorem FD {c:Prop} [Decidable c] {a:Option α}:W k u (if c then none else a) ↔ ¬ c ∧ W k u a:=by
 by_cases h:c <;> simp [h,uN]
theorem uO {j:α → Prop} {x:Option α} (h:W j ⟨⟩ x) (hi:∀ a,j a → k a):W k u x:=by
 obtain ⟨a,h1,h2⟩:=h;exact ⟨a,h1,hi a h2⟩
end
def V {α:Type} (k:α → Prop) (x:Option α):Prop:=∃ a,x = some a ∧ k a
section
variable {α β:Type} {k:α → Prop} {u:Tok k}
theorem dO {x:Option α}:W k u x ↔ V k x:=Iff.rfl
theorem bH {a:α}:V k (some a) ↔ k a:=by simp [V]
theorem jr : V k none ↔ False:=by simp [V]
theorem bq {x:Option β} {f:β → Option α}:V k (x.bind f) ↔ V (fun a=>V k (f a)) x:=by
 cases x <;> simp [V]
theorem bX {x:Option β} {f:β → α}:V k (x.map f) ↔ V (fun a=>k (f a)) x:=by
 cases x <;> simp [V]
theorem bN {c:Prop} [Decidable c] {a:Option α}:V k (if c then a else none) ↔ c ∧ V k a:=by
 by_cases h:c <;> simp [h,jr]
theorem dx {c:Prop} [Decidable c] {a:Option α}:V k (if c then none else a) ↔ ¬ c ∧ V k a:=by
 by_cases h:c <;> simp [h,jr]
theorem bY {j:β → Prop}:V k none ↔ V j none:=jr.trans jr.symm
theorem lJ {j:β → Prop} {a:α} {b:β} (h:k a ↔ j b):V k (some a) ↔ V j (some b):=bH.trans (h.trans bH.symm)
theorem cK {x:Option α} {j:α → Prop} (h:∀ a,j a ↔ k a):V j x ↔ V k x:=by
 have:j = k:=funext fun a=>propext (h a)
 rw [this]
end
structure YH (A B:Unit → Prop):Type where
def Br (b:Bool) (A B:Unit → Prop) (_:YH A B):Prop:=(b = true → A ()) ∧ (b = false → B ())
theorem OP {A B:Unit → Prop} {u:YH A B}:Br true A B u ↔ A ():=by simp [Br]
theorem Lx {A B:Unit → Prop} {u:YH A B}:Br false A B u ↔ B ():=by simp [Br]
theorem UH {b:Bool} {A B:Unit → Prop} {u:YH A B}:Br (!b) A B u ↔ Br b B A ⟨⟩:=by cases b <;> simp [Br]
theorem eP {b:Bool} {A B:Unit → Prop} {u:YH A B} (h1:b = true → A ()) (h2:b = false → B ()):Br b A B u:=⟨h1,h2⟩
theorem LA {α:Type} {x:Option α} {a:α} (h:W (fun b=>b = a) ⟨⟩ x):x = some a:=by
 obtain ⟨b,h1,rfl⟩:=h;exact h1
theorem BR {body:St → Option (Out × St)} {rs:St → St} {k:Out × St → Prop} {u:Tok k} (I:Nat → St → Prop)
  (hstep:∀ m σ,I m σ → W (fun p=>match p.1 with
   | .jc=>∃ j,j < m ∧ I j p.2
   | o=>k (o,p.2)) ⟨⟩ (body (rs σ))):∀ (F m:Nat) (σ:St),m < F → I m σ → W k u (iter body rs F σ)
 | 0,m,σ,h,_=>by omega
 | F + 1,m,σ,h,hI=>by
  obtain ⟨p,h1,h2⟩:=hstep m σ hI
  unfold iter
  rw [h1,Option.bind_some]
  obtain ⟨o,s⟩:=p
  cases o with
  | jc =>
   obtain ⟨j,hj,hI'⟩:=h2
   exact BR I hstep F j s (by omega) hI'
  | ext i=>exact gN.mpr h2
  | ret=>exact gN.mpr h2
theorem RY {body:St → Option (Out × St)} {rs:St → St} {k:Out × St → Prop} {u:Tok k} {F:Nat} (N:Nat) (S:Nat → St) (P:Nat → Prop) (hF:N < F) (h0:P 0)
  (step:∀ i,i < N → P i → W (fun p=>match p.1 with
   | .jc=>p.2 = S (i + 1) ∧ P (i + 1)
   | o=>k (o,p.2)) ⟨⟩ (body (rs (S i))))
  (last:P N → W (fun p=>match p.1 with
   | .jc=>False
   | o=>k (o,p.2)) ⟨⟩ (body (rs (S N)))):W k u (iter body rs F (S 0)):=by
 refine BR (fun m σ=>∃ i,i ≤ N ∧ m = N - i ∧ σ = S i ∧ P i) ?_ F N (S 0) hF ⟨0,Nat.zero_le _,rfl,rfl,h0⟩
 rintro m σ ⟨i,hi,rfl,rfl,hP⟩
 by_cases hlt:i < N
 ·refine uO (step i hlt hP) fun p hp=>?_
  obtain ⟨o,s⟩:=p
  cases o with
  | jc=>exact ⟨N - (i + 1),by omega,i + 1,by omega,rfl,hp.1,hp.2⟩
  | ext j=>exact hp
  | ret=>exact hp
 ·have:i = N:=by omega
  subst this
  refine uO (last hP) fun p hp=>?_
  obtain ⟨o,s⟩:=p
  cases o with
  | jc=>exact hp.elim
  | ext j=>exact hp
  | ret=>exact hp
def look : List (FuncId × CF) → FuncId → Option CF
 | [],_=>none
 | (k,c) :: l,f=>if k = f then some c else look l f
noncomputable def Gm (yt:List (FuncId × CF)) (ext:Env) (F:Nat):Nat → Env
 | 0=>fun _ _=>none
 | n + 1=>fun f fK=>match look yt f with
  | some cf=>Kr (Gm yt ext F n) F cf fK
  | none=>ext f fK
structure kN (P:Program) (f:FuncId) (cf:CF):Prop where
 ok:∃ fn c X hints rest,P.funcs[f]? = some fn ∧ (fn.name == "runtime.NumGoroutine") = false ∧ fn.body = some c ∧ (∀ t ∈ X.eqs,lH P t) ∧ comp P X (TW fn.ntmps) c hints = some (cf.body,rest) ∧ mY P fn.results.toList = some cf.res ∧ cf.np ≤ fn.ntmps
theorem yu : ∀ {l:List (FuncId × CF)} {f:FuncId} {c:CF},look l f = some c → (f,c) ∈ l
 | [],_,_,h=>by cases h
 | (k,d) :: l,f,c,h=>by
  unfold look at h
  split at h
  ·rename_i e;subst e;cases h;simp
  ·exact List.mem_cons_of_mem _ (yu h)
theorem LB {P:Program} {yt:List (FuncId × CF)} {ext:Env} {F:Nat} (hm:P.follows .mixedOrders = true) (ht:∀ p ∈ yt,kN P p.1 p.2) (he:iN P ext) (hec:eu P ext):∀ n,iN P (Gm yt ext F n) ∧ eu P (Gm yt ext F n)
 | 0=>⟨fun f fK rs rE h=>by simp [Gm] at h,fun f fK r h=>by simp [Gm] at h⟩
 | n + 1=>by
  obtain ⟨h1,h2⟩:=LB hm ht he hec n
  constructor
  ·intro f
   cases hl:look yt f with
   | none =>
    have:Gm yt ext F (n + 1) f = ext f:=by funext fK;simp only [Gm,hl]
    rw [this];exact he f
   | some cf =>
    have:Gm yt ext F (n + 1) f = Kr (Gm yt ext F n) F cf:=by funext fK;simp only [Gm,hl]
    rw [this]
    obtain ⟨fn,c,X,hints,rest,e1,_,e2,e3,e4,e5,e6⟩:=(ht _ (yu hl)).ok
    exact Al hm e3 h1 h2 e1 e2 e4 e5 e6 F
  ·intro f fK r h
   cases hl:look yt f with
   | none=>exact hec f fK r (by simpa only [Gm,hl] using h)
   | some cf =>
    obtain ⟨fn,c,X,hints,rest,e1,e0,e2,_⟩:=(ht _ (yu hl)).ok
    exact ⟨fn,e1,e0,by rw [e2];rfl⟩
theorem eT {yt:List (FuncId × CF)} {ext:Env} {F n:Nat} {f:FuncId} {cf:CF} {fK:List AV} {r:List AV × List AV} (hl:look yt f = some cf) (h:W (fun z=>z = r) ⟨⟩ (Kr (Gm yt ext F n) F cf fK)):Gm yt ext F (n + 1) f fK = some r:=by
 simp only [Gm,hl]
 exact LA h
theorem nZ {yt:List (FuncId × CF)} {ext:Env} {F n:Nat} {f:FuncId} (hl:look yt f = none):Gm yt ext F (n + 1) f = ext f:=by
 funext fK;simp only [Gm,hl]
end Go.Proofs.Ytfokaoeinpnagaa.Ev
namespace Go.Proofs.Ytfokaoeinpnagaa.Ev
open Go
attribute [go_sem ↓] Fy Lv uN FB FD
attribute [go_sem] gN
attribute [go_sem ↓] OP Lx UH
section
variable {α β:Type} {k:α → Prop} {u:Tok k}
@[go_sem ↓] theorem aez {c:Prop} [Decidable c] {a b:Option α}:W k u (if c then a else b) ↔ (c → W k u a) ∧ (¬ c → W k u b):=YG
end
def Jq : CV → Option (Nat × Nat)
 | .one (.ptr k o)=>some (k,o)
 | _=>none
def qF : CV → Option ByteArray
 | .one (.f (.str s))=>some s
 | _=>none
def LC : CV → Option (List PL)
 | .agg l=>some l
 | _=>none
def UJ : PV → Option (List CV)
 | .uF l=>some l
 | _=>none
@[go_sem] theorem YI {l:List CV}:UJ (.uF l) = some l:=rfl
def fav (off:Nat):CV → Option CV
 | .one (.ptr key o)=>some (.one (.ptr key (o + off)))
 | .one (.fp cs)=>some (.one (.fp (cs.drop off)))
 | .one (.rp key z i o)=>some (.one (.rp key z i (o + off)))
 | _=>none
@[go_sem] theorem abJ {off k o:Nat}:fav off (.one (.ptr k o)) = some (.one (.ptr k (o + off))):=rfl
@[go_sem] theorem aeA {off:Nat} {cs:List FV}:fav off (.one (.fp cs)) = some (.one (.fp (cs.drop off))):=rfl
@[go_sem] theorem aeB {off k z i o:Nat}:fav off (.one (.rp k z i o)) = some (.one (.rp k z i (o + off))):=rfl
def UK : CV → Option Bool
 | .one .dN=>some true
 | .one (.f (.sl (_ :: _)))=>some false
 | _=>none
@[go_sem] theorem aeC : UK (.one .dN) = some true:=rfl
@[go_sem] theorem aeD {r:List FV} {l:List (List FV)}:UK (.one (.f (.sl (r :: l)))) = some false:=rfl
section
variable {α : Type}
@[go_sem] theorem get_nil {i:Nat}:get ([]:List (Nat × α)) i = none:=rfl
@[go_sem] theorem YJ {k:Nat} {v:α} {l:List (Nat × α)} {i:Nat}:get ((k,v) :: l) i = if k = i then some v else get l i:=rfl
@[go_sem] theorem abK {i:Nat}:rem ([]:List (Nat × α)) i = []:=rfl
@[go_sem] theorem YK {k:Nat} {v:α} {l:List (Nat × α)} {i:Nat}:rem ((k,v) :: l) i = if k = i then rem l i else (k,v) :: rem l i:=rfl
@[go_sem] theorem abL {i:Nat} {v:α}:put ([]:List (Nat × α)) i v = [(i,v)]:=rfl
@[go_sem] theorem YL {k:Nat} {w:α} {l:List (Nat × α)} {i:Nat} {v:α}:put ((k,w) :: l) i v = if k = i then (i,v) :: rem l i else (k,w) :: put l i v:=rfl
def LD (k:Nat) (r:List (Nat × α)):Option α → List (Nat × α)
 | some v=>(k,v) :: r
 | none=>r
@[go_sem] theorem UL {k:Nat} {v:α} {r:List (Nat × α)}:LD k r (some v) = (k,v) :: r:=rfl
@[go_sem] theorem UM {k:Nat} {r:List (Nat × α)}:LD k r none = r:=rfl
@[go_sem] theorem YM {l:List (Nat × α)}:pick [] l = []:=rfl
@[go_sem] theorem WR {k:Nat} {ks:List Nat} {l:List (Nat × α)}:pick (k :: ks) l = LD k (pick ks l) (get l k):=by
 unfold pick
 rw [List.filterMap_cons]
 cases get l k <;> rfl
end
section
variable {Γ : Env} {F d:Nat} {q:Bool} {σ:St}
section
variable {k : Out × St → Prop} {u:Tok k}
@[go_sem ↓] theorem aeE : W k u (ev Γ F .skip σ) ↔ k (.jc,σ):=by simp only [ev];exact gN
@[go_sem ↓] theorem afU {is:List G} {ks:List Nat}:W k u (ev Γ F (.reg is ks) σ) ↔ W (fun s=>W k ⟨⟩ (some (.jc,⟨pick ks s.tm,s.ob⟩))) ⟨⟩ (xC Γ false is σ):=by simp only [ev,dO,bX,bH]
@[go_sem ↓] theorem afV {pre:List (G × List Nat)} {lS:List Nat} {jO rest:List G} {ks:List Nat}:W k u (ev Γ F (.rU pre lS jO rest ks) σ) ↔ W (fun s=>W k ⟨⟩ (some (.jc,⟨pick ks s.tm,s.ob⟩))) ⟨⟩ (WM Γ pre lS jO rest σ):=by simp only [ev,dO,bX,bH]
@[go_sem ↓] theorem YN {gs:List G} {ks oM:List Nat} {r:St}:lU Γ gs ks oM σ r [] ↔ True:=Iff.rfl
@[go_sem ↓] theorem WS {gs:List G} {ks oM:List Nat} {r:St} {o:List Nat} {os:List (List Nat)}:lU Γ gs ks oM σ r (o :: os) ↔ W (fun s=>W (fun t=>t = r) ⟨⟩ (some (⟨pick ks s.tm,pick oM s.ob⟩:St))) ⟨⟩ (xC Γ false (o.map fun i=>gs.getD i default) σ) ∧ lU Γ gs ks oM σ r os:=by
 conv=>lhs;unfold lU
 simp only [dO,V,Option.some.injEq,exists_eq_left']
@[go_sem ↓] theorem afW {gs:List G} {o:List Nat} {os:List (List Nat)} {ks oM:List Nat}:W k u (ev Γ F (.any gs (o :: os) ks oM) σ) ↔ W (fun s=>W (fun r=>lU Γ gs ks oM σ r os ∧ W k ⟨⟩ (some (.jc,r))) ⟨⟩ (some (⟨pick ks s.tm,pick oM s.ob⟩:St))) ⟨⟩ (xC Γ false (o.map fun i=>gs.getD i default) σ):=by
 simp only [ev,evO,dO,bq,bN,bH]
@[go_sem ↓] theorem afX {a b:CC}:W k u (ev Γ F (.seq a b) σ) ↔ W (fun p=>match p.1 with
  | .jc=>W k ⟨⟩ (ev Γ F b p.2)
  | o=>k (o,p.2)) ⟨⟩ (ev Γ F a σ):=by
 simp only [ev,dO,bq]
 refine cK fun p=>?_
 obtain ⟨o,s⟩:=p
 cases o <;> first | rfl | exact bH
@[go_sem ↓] theorem aeF {c:dX} {a b:CC}:W k u (ev Γ F (.cond c a b) σ) ↔ W (fun v=>W (fun t=>Br t (fun _=>W k ⟨⟩ (ev Γ F a σ)) (fun _=>W k ⟨⟩ (ev Γ F b σ)) ⟨⟩) ⟨⟩ (bool? v)) ⟨⟩ (val σ c):=by
 simp only [ev,dO,bq]
 refine cK fun v=>cK fun t=>?_
 cases t <;> simp [Br,dO]
@[go_sem ↓] theorem abM {id:Nat} {c:CC}:W k u (ev Γ F (.block id c) σ) ↔ W (fun p=>match p.1 with
  | .ext i=>if i = id then k (.jc,p.2) else k (.ext i,p.2)
  | o=>k (o,p.2)) ⟨⟩ (ev Γ F c σ):=by
 simp only [ev,dO,bX]
 refine cK fun p=>?_
 obtain ⟨o,s⟩:=p
 cases o with
 | ext i=>by_cases hi:i = id <;> simp [hi]
 | _=>exact Iff.rfl
@[go_sem ↓] theorem jW {keep CW:List Nat} {rws:List (Nat × Nat)} {c:CC}:W k u (ev Γ F (.loop keep CW rws c) σ) ↔ W k u (iter (ev Γ F c) (res keep CW rws) F σ):=by simp only [ev]
@[go_sem ↓] theorem aeG {id:Nat}:W k u (ev Γ F (.exit id) σ) ↔ k (.ext id,σ):=by simp only [ev];exact gN
@[go_sem ↓] theorem afY : W k u (ev Γ F .ret σ) ↔ k (.ret,σ):=by simp only [ev];exact gN
end
section
variable {k : St → Prop} {u:Tok k}
@[go_sem ↓] theorem WT : W k u (xC Γ q [] σ) ↔ k σ:=gN
@[go_sem ↓] theorem UN {g:G} {l:List G}:W k u (xC Γ q (g :: l) σ) ↔ W (fun s=>W k ⟨⟩ (xC Γ q l s)) ⟨⟩ (Og Γ q σ g):=by
 show W k u ((Og Γ q σ g).bind (xC Γ q l)) ↔ _
 rw [Fy]
@[go_sem ↓] theorem afZ {g:G}:W k u (Og Γ q σ g) ↔ W (fun p=>W k ⟨⟩ (some (sj p.2 g.dst p.1))) ⟨⟩ (mD Γ q σ g):=by simp only [Og,dO,bX,bH]
def UO (f:Nat → Option (PV × St)):List Nat → Prop
 | []=>True
 | j :: l=>W (fun _=>True) ⟨⟩ (f j) ∧ UO f l
theorem Hl {f:Nat → Option (PV × St)}:∀ {l:List Nat},l.all (fun j=>(f j).isSome) = true ↔ UO f l
 | []=>by simp [UO]
 | j :: l=>by
  rw [List.all_cons,Bool.and_eq_true,Hl (l:=l)]
  refine and_congr_left fun _=>?_
  cases h:f j with
  | none=>simp [uN]
  | some y=>simp [gN]
@[go_sem ↓] theorem abN {f:Nat → Option (PV × St)}:UO f [] ↔ True:=Iff.rfl
@[go_sem ↓] theorem YO {f:Nat → Option (PV × St)} {j:Nat} {l:List Nat}:UO f (j :: l) ↔ W (fun _=>True) ⟨⟩ (f j) ∧ UO f l:=Iff.rfl
def wkv : Option CV → List Nat
 | some (.one (.ptr k _))=>[k]
 | _=>[]
@[go_sem] theorem abO {k o:Nat}:wkv (some (.one (.ptr k o))) = [k]:=rfl
@[go_sem] theorem abP {tm:List (Nat × PV)} {dst:Option Nat} {gd:Option (Option Nat × Bool)} {n:Nat} {x y:dX}:sw tm ⟨dst,gd,.store n x y⟩ = wkv (val ⟨tm,[]⟩ x):=by
 show (match val ⟨tm,[]⟩ x with | some (.one (.ptr k _))=>[k] | _=>[]) = _
 cases val ⟨tm,[]⟩ x with
 | none=>rfl
 | some v=>cases v with
  | one y=>cases y <;> rfl
  | agg _=>rfl
@[go_sem ↓] theorem af0 {pre:List (G × List Nat)} {lS:List Nat} {jO rest:List G}:W k u (WM Γ pre lS jO rest σ) ↔ pre.all (fun g=>!jT g.1.i || fresh σ (dF (g.1.dst.getD 999))) = true ∧ W (fun s=>W (fun tm=>UO (fun j=>mD Γ true ⟨tm,σ.ob.filter (fun p=>!(jO.flatMap (sw tm)).contains p.1)⟩ (pre.getD j default).1) lS ∧ W (fun ob=>W (fun s=>W k ⟨⟩ (xC Γ false rest s)) ⟨⟩ (some ⟨tm,ob⟩)) ⟨⟩ (KF Γ tm jO s.ob)) ⟨⟩ (some (pick (s.tm.map (·.1)) s.tm))) ⟨⟩ (Oh Γ σ.ob pre σ):=by
 simp only [WM,dO,bq,bN,bH,← Hl]
@[go_sem ↓] theorem WU {qO:List (Nat × Ob)}:W k u (Oh Γ qO [] σ) ↔ k σ:=gN
@[go_sem ↓] theorem UQ {qO:List (Nat × Ob)} {g:G} {nk:List Nat} {l:List (G × List Nat)}:W k u (Oh Γ qO ((g,nk) :: l) σ) ↔ W (fun p=>nk.any (fun k=>qN k p.1 || (jT g.i && (p.2.ob.take 1).any (fun r=>r.1 == k || mq k r.2))) = false ∧ W (fun s=>W k ⟨⟩ (Oh Γ qO l s)) ⟨⟩ (some ⟨su g.dst σ.tm p.1,if jT g.i then p.2.ob.take 1 ++ σ.ob else σ.ob⟩)) ⟨⟩ (mD Γ true ⟨σ.tm,qO⟩ g):=by
 conv=>lhs;unfold Oh
 simp only [dO,bq,dx,bH,Bool.not_eq_true]
end
section
variable {k : List (Nat × Ob) → Prop} {u:Tok k} {tm:List (Nat × PV)} {ob:List (Nat × Ob)}
@[go_sem ↓] theorem WV : W k u (KF Γ tm [] ob) ↔ k ob:=gN
@[go_sem ↓] theorem UR {n:Nat} {x y:dX} {dst:Option Nat} {gd:Option (Option Nat × Bool)} {l:List G}:W k u (KF Γ tm (⟨dst,gd,.store n x y⟩ :: l) ob) ↔ W (fun v=>W (fun _=>W (fun p=>W k ⟨⟩ (KF Γ tm l p.2.ob)) ⟨⟩ (cO Γ true ⟨tm,ob⟩ 999 (.store n x y))) ⟨⟩ (Jq v)) ⟨⟩ (val ⟨tm,ob⟩ x):=by
 conv=>lhs;unfold KF
 simp only
 cases hv:val ⟨tm,ob⟩ x with
 | none=>simp only [uN]
 | some v =>
  rw [gN]
  cases v with
  | one y=>cases y <;> simp only [Jq,dO,jr,bH,bq]
  | agg xs=>simp only [Jq,uN]
end
section
variable {i : Nat}
def vl : Option PV → Option CV
 | some (.c x)=>some x
 | _=>none
@[go_sem] theorem abQ {x:CV}:vl (some (.c x)) = some x:=rfl
@[go_sem] theorem YP : val σ (.t i) = vl (get σ.tm i):=by simp only [val];cases get σ.tm i with | none=>rfl | some v=>cases v <;> rfl
@[go_sem] theorem af2 {x:CV}:val σ (.k x) = some x:=rfl
@[go_sem] theorem aeH : r9 σ (.t i) = get σ.tm i:=rfl
@[go_sem] theorem aeI {x:CV}:r9 σ (.k x) = some (.c x):=rfl
@[go_sem] theorem YQ {k:IntKind} {n:Int}:int? (.one (.f (.int k n))) = some (k,n):=rfl
@[go_sem] theorem UU {b:Bool}:bool? (.one (.f (.bool b))) = some b:=rfl
@[go_sem] theorem YR {k o:Nat}:Jq (.one (.ptr k o)) = some (k,o):=rfl
@[go_sem] theorem YS {s:ByteArray}:qF (.one (.f (.str s))) = some s:=rfl
@[go_sem] theorem YT {l:List PL}:LC (.agg l) = some l:=rfl
@[go_sem] theorem cells_one {x:PL}:cells (.one x) = [x]:=rfl
@[go_sem] theorem WW {xs:List PL}:cells (.agg xs) = xs:=rfl
def oc : Option Ob → Option (List PL)
 | some (.iM xs)=>some xs
 | _=>none
def LG : Option Ob → Option (Nat × List (List FV))
 | some (.row sz rows)=>some (sz,rows)
 | _=>none
def om : Option Ob → Option (KS × List (KV × FC))
 | some (.map sh ents)=>some (sh,ents)
 | _=>none
@[go_sem] theorem aeJ {xs:List PL}:oc (some (.iM xs)) = some xs:=rfl
@[go_sem] theorem abR {sz:Nat} {rows:List (List FV)}:LG (some (.row sz rows)) = some (sz,rows):=rfl
@[go_sem] theorem aeK {sh:KS} {ents:List (KV × FC)}:om (some (.map sh ents)) = some (sh,ents):=rfl
def gb (want:Bool):Option PV → Option Bool
 | some (.c (.one (.f (.bool b))))=>some (b == want)
 | some (.c (.one .und))=>some false
 | _=>none
@[go_sem] theorem abS {b:Bool}:gb true (some (.c (.one (.f (.bool b))))) = some b:=by cases b <;> rfl
@[go_sem] theorem YU {b:Bool}:gb false (some (.c (.one (.f (.bool b))))) = some (!b):=by cases b <;> rfl
@[go_sem] theorem aeL {w:Bool}:gb w (some (.c (.one .und))) = some false:=rfl
@[go_sem] theorem WX {v:PV}:sj σ (some i) v = ⟨put σ.tm i v,σ.ob⟩:=rfl
@[go_sem] theorem WY {v:PV}:sj σ none v = σ:=rfl
@[go_sem] theorem WZ {tm:List (Nat × PV)} {v:PV}:su (some i) tm v = put tm i v:=rfl
@[go_sem] theorem W9 {tm:List (Nat × PV)} {v:PV}:su none tm v = tm:=rfl
end
section
variable {α : Type} {n off:Nat} {x:α} {xs ys:List α}
@[go_sem] theorem YV : seg 0 0 xs = some []:=by simp [seg]
@[go_sem] theorem YW : seg (n + 1) 0 (x :: xs) = (seg n 0 xs).map (x :: ·):=by
 unfold seg
 simp only [Nat.zero_add,List.length_cons,Nat.add_le_add_iff_right,List.drop_zero,List.take_succ_cons]
 split <;> rfl
@[go_sem] theorem YX : seg n (off + 1) (x :: xs) = seg n off xs:=by
 unfold seg
 simp only [List.length_cons,List.drop_succ_cons]
 by_cases h:off + n ≤ xs.length
 ·rw [if_pos h,if_pos (by omega)]
 ·rw [if_neg h,if_neg (by omega)]
@[go_sem] theorem abT : lay 0 ([]:List α) xs = some xs:=by simp [lay]
@[go_sem] theorem abU {y:α}:lay 0 (y :: ys) (x :: xs) = (lay 0 ys xs).map (y :: ·):=by
 unfold lay
 simp only [Nat.zero_add,List.length_cons,Nat.add_le_add_iff_right,List.take_zero,List.drop_succ_cons,List.nil_append,List.cons_append]
 split <;> rfl
@[go_sem] theorem YZ : lay (off + 1) ys (x :: xs) = (lay off ys xs).map (x :: ·):=by
 unfold lay
 simp only [List.length_cons,List.take_succ_cons]
 rw [show off + 1 + ys.length = off + ys.length + 1 from by omega]
 by_cases h:off + ys.length ≤ xs.length
 ·rw [if_pos h,if_pos (by omega)];rfl
 ·rw [if_neg h,if_neg (by omega)];rfl
end
@[go_sem] theorem aeM {xs:List PL}:mk true xs = some (.agg xs):=rfl
@[go_sem] theorem mk_one {x:PL}:mk false [x] = some (.one x):=rfl
def oJ (σ:St) (key:Nat):Option (List PL):=oc (get σ.ob key)
def iF (σ:St) (key:Nat):Option (Nat × List (List FV)):=LG (get σ.ob key)
def oh (σ:St) (key:Nat):Option (KS × List (KV × FC)):=om (get σ.ob key)
attribute [go_sem] oJ iF oh Option.map_some Option.map_none Option.bind_some Option.bind_none
def kr (σ:St) (n:Nat):CV → Option (List PL)
 | .one (.ptr key off)=>(oJ σ key).bind (seg n off)
 | .one (.fp cs)=>(seg n 0 cs).map (·.map .f)
 | .one (.rp key z i off)=>(iF σ key).bind fun p=>if p.1 ≠ z then none else p.2[i]?.bind fun r=>(seg n off r).map (·.map .f)
 | _=>none
@[go_sem ↓] theorem RZ {n key off:Nat}:kr σ n (.one (.ptr key off)) = (oJ σ key).bind (seg n off):=rfl
@[go_sem] theorem UW {n:Nat} {cs:List FV}:kr σ n (.one (.fp cs)) = (seg n 0 cs).map (·.map .f):=rfl
section
variable {k : List PL → Prop} {u:Tok k}
@[go_sem ↓] theorem R3 {n key off:Nat}:W k u (kr σ n (.one (.ptr key off))) ↔ W (fun xs=>W k ⟨⟩ (seg n off xs)) ⟨⟩ (oJ σ key):=Fy
@[go_sem ↓] theorem UY {n:Nat} {cs:List FV}:W k u (kr σ n (.one (.fp cs))) ↔ W (fun l=>k (l.map .f)) ⟨⟩ (seg n 0 cs):=Lv
@[go_sem ↓] theorem UZ {n key z i off:Nat}:W k u (kr σ n (.one (.rp key z i off))) ↔ W (fun p=>p.1 = z ∧ W (fun r=>W (fun l=>k (l.map .f)) ⟨⟩ (seg n off r)) ⟨⟩ (p.2[i]?)) ⟨⟩ (iF σ key):=by
 simp only [kr,dO,bq,bX,dx,ne_eq,Decidable.not_not]
end
section
variable {k : PV × St → Prop} {u:Tok k} {x y c:dX}
@[go_sem ↓] theorem aeN {dst:Option Nat} {i:I}:W k u (mD Γ q σ ⟨dst,none,i⟩) ↔ W k u (cO Γ q σ (dst.getD 999) i):=Iff.rfl
@[go_sem ↓] theorem Xa {dst:Option Nat} {s:Nat} {want:Bool} {i:I}:W k u (mD Γ q σ ⟨dst,some (some s,want),i⟩) ↔ W (fun w=>Br w (fun _=>W k ⟨⟩ (cO Γ q σ (dst.getD 999) i)) (fun _=>k (.c (.one .und),σ)) ⟨⟩) ⟨⟩ (gb want (get σ.tm s)):=by
 have h:zD σ (some (some s,want)) = gb want (get σ.tm s):=by
  simp only [zD]
  cases get σ.tm s with
  | none=>rfl
  | some v =>
   cases v with
   | uF l=>rfl
   | c x =>
    cases x with
    | agg l=>rfl
    | one p =>
     cases p with
     | f z=>cases z <;> rfl
     | _=>rfl
 simp only [mD,dO,bq,h]
 refine cK fun t=>?_
 cases t <;> simp [bH,Br,dO]
@[go_sem ↓] theorem ahU : W k u (cO Γ q σ d (.mv x)) ↔ W (fun v=>k (v,σ)) ⟨⟩ (r9 σ x):=by simp only [cO];exact Lv
@[go_sem ↓] theorem aeO : W k u (cO Γ q σ d (.pick c x y)) ↔ W (fun v=>W (fun t=>Br t (fun _=>W (fun z=>k (.c z,σ)) ⟨⟩ (val σ x)) (fun _=>W (fun z=>k (.c z,σ)) ⟨⟩ (val σ y)) ⟨⟩) ⟨⟩ (bool? v)) ⟨⟩ (val σ c):=by
 simp only [cO,dO,bq,bX]
 refine cK fun v=>cK fun t=>?_
 cases t <;> simp [Br,dO]
@[go_sem ↓] theorem abV {e:TypeId} {z:List PL}:W k u (cO Γ q σ d (.alloc e z)) ↔ z.any (dU (dF d)) = false ∧ W (fun s=>k (.c (.one (.ptr (dF d) 0)),s)) ⟨⟩ (new σ (dF d) (.iM z)):=by
 simp only [cO,dO,dx,iA,bX,Bool.not_eq_true]
@[go_sem ↓] theorem af3 {e:TypeId}:W k u (cO Γ q σ d (.box e x)) ↔ W (fun v=>((cells v).any oP || (cells v).any (dU (dF d))) = false ∧ W (fun s=>k (.c (.one (.ptr (dF d) 0)),s)) ⟨⟩ (new σ (dF d) (.iM (cells v)))) ⟨⟩ (val σ x):=by
 simp only [cO,dO,bq,dx,iA,bX,Bool.not_eq_true]
@[go_sem ↓] theorem abW {z:List PL} {ps:List (Nat × Nat × dX)}:W k u (cO Γ q σ d (.build z ps)) ↔ W (fun l=>W (fun z=>k (.c (.agg z),σ)) ⟨⟩ (fill z l)) ⟨⟩ (vals σ ps):=by
 simp only [cO,dO,bq,bX]
@[go_sem ↓] theorem af4 {e:TypeId} {sz len:Nat} {z:List PL} {ps:List (Nat × Nat × dX)}:W k u (cO Γ q σ d (.wM e sz len z ps)) ↔ W (fun l=>W (fun z=>(q && z.any gG) = false ∧ W (fun p=>W (fun s=>k (.c (.one (.own (dF d) len)),s)) ⟨⟩ (new p.2 (dF d) (.row sz (rowsOf sz len p.1)))) ⟨⟩ (kQ σ z)) ⟨⟩ (fill z l)) ⟨⟩ (vals σ ps):=by
 simp only [cO,dO,bq,dx,iA,bX,Bool.not_eq_true]
@[go_sem ↓] theorem aeP {n:Nat} {agg:Bool}:W k u (cO Γ q σ d (.load n agg x)) ↔ W (fun v=>W (fun l=>W (fun z=>k (.c z,σ)) ⟨⟩ (mk agg l)) ⟨⟩ (kr σ n v)) ⟨⟩ (val σ x):=by
 have h:cO Γ q σ d (.load n agg x) = (val σ x).bind fun v=>(kr σ n v).bind fun l=>(mk agg l).map fun z=>(.c z,σ):=by
  simp only [cO]
  congr 1
  funext v
  cases v with
  | agg l=>rfl
  | one p =>
   cases p with
   | ptr key off=>simp only [kr,oJ];cases get σ.ob key with | none=>rfl | some o=>cases o <;> rfl
   | fp cs=>simp only [kr];cases seg n 0 cs <;> rfl
   | rp key z i off =>
    simp only [kr,iF]
    cases get σ.ob key with
    | none=>rfl
    | some o =>
     cases o with
     | row sz rows =>
      simp only [LG,Option.bind_some]
      split
      ·rfl
      ·cases rows[i]? with
       | none=>rfl
       | some r=>simp only [Option.bind_some];cases seg n off r <;> rfl
     | _=>rfl
   | _=>rfl
 rw [h]
 simp only [dO,bq,bX]
def DN (q:Bool) (σ:St) (ys:List PL):CV → Option St
 | .one (.ptr key off)=>(oJ σ key).bind fun xs=>(lay off ys xs).map fun l=>jl σ key (.iM l)
 | .one (.rp key z i off)=>if q && ys.any gG then none else (kQ σ ys).bind fun p=>(iF p.2 key).bind fun o=>if o.1 ≠ z then none else o.2[i]?.bind fun r=>(lay off p.1 r).map fun l=>jl p.2 key (.row o.1 (o.2.set i l))
 | _=>none
@[go_sem ↓] theorem abX {n:Nat}:W k u (cO Γ q σ d (.store n x y)) ↔ W (fun v=>W (fun z=>((cells z).length = n ∧ (cells z).any oP = false) ∧ W (fun s=>k (.c (.one .und),s)) ⟨⟩ (DN q σ (cells z) v)) ⟨⟩ (val σ y)) ⟨⟩ (val σ x):=by
 have h:cO Γ q σ d (.store n x y) = (val σ x).bind fun v=>(val σ y).bind fun z=>if (cells z).length = n ∧ (cells z).any oP = false then (DN q σ (cells z) v).map fun s=>(.c (.one .und),s) else none:=by
  simp only [cO]
  congr 1
  funext v
  congr 1
  funext z
  split
  ·cases v with
   | agg l=>rfl
   | one p =>
    cases p with
    | ptr key off =>
     simp only [DN,oJ]
     cases get σ.ob key with
     | none=>rfl
     | some o=>cases o <;> first | rfl | (simp only [oc,Option.bind_some,Option.map_map];rfl)
    | rp key zz i off =>
     simp only [DN,iF]
     split
     ·rfl
     ·cases kQ σ (cells z) with
      | none=>rfl
      | some p =>
       simp only [Option.bind_some]
       cases get p.2.ob key with
       | none=>rfl
       | some o =>
        cases o with
        | row sz rows =>
         simp only [LG,Option.bind_some]
         split
         ·rfl
         ·cases rows[i]? with
          | none=>rfl
          | some r=>simp only [Option.bind_some,Option.map_map];rfl
        | _=>rfl
    | _=>rfl
  ·rfl
 rw [h]
 simp only [dO,bq,bN,bX]
end
section
variable {k : St → Prop} {u:Tok k}
@[go_sem ↓] theorem U0 {ys:List PL} {key off:Nat}:W k u (DN q σ ys (.one (.ptr key off))) ↔ W (fun xs=>W (fun l=>k (jl σ key (.iM l))) ⟨⟩ (lay off ys xs)) ⟨⟩ (oJ σ key):=by
 simp only [DN,dO,bq,bX]
@[go_sem ↓] theorem Xb {ys:List PL} {key z i off:Nat}:W k u (DN q σ ys (.one (.rp key z i off))) ↔ (q && ys.any gG) = false ∧ W (fun p=>W (fun o=>o.1 = z ∧ W (fun r=>W (fun l=>k (jl p.2 key (.row o.1 (o.2.set i l)))) ⟨⟩ (lay off p.1 r)) ⟨⟩ (o.2[i]?)) ⟨⟩ (iF p.2 key)) ⟨⟩ (kQ σ ys):=by
 simp only [DN,dO,dx,bq,bX,ne_eq,Decidable.not_not,Bool.not_eq_true]
end
end
end Go.Proofs.Ytfokaoeinpnagaa.Ev
namespace Go.Proofs.Ytfokaoeinpnagaa.Ev
open Go
section
variable {Γ : Env} {F d:Nat} {q:Bool} {σ:St} {k:PV × St → Prop} {u:Tok k} {x y z:dX}
def OQ : CV → Option CV
 | .one (.ptr k o)=>some (.one (.ptr k o))
 | .one (.fp cs)=>some (.one (.fp cs))
 | .one (.rp k z i o)=>some (.one (.rp k z i o))
 | _=>none
@[go_sem] theorem Y0 {k o:Nat}:OQ (.one (.ptr k o)) = some (.one (.ptr k o)):=rfl
@[go_sem] theorem abY {cs:List FV}:OQ (.one (.fp cs)) = some (.one (.fp cs)):=rfl
@[go_sem] theorem abZ {k z i o:Nat}:OQ (.one (.rp k z i o)) = some (.one (.rp k z i o)):=rfl
@[go_sem ↓] theorem aeQ : W k u (cO Γ q σ d (.mh x)) ↔ W (fun v=>W (fun w=>k (.c w,σ)) ⟨⟩ (OQ v)) ⟨⟩ (val σ x):=by
 simp only [cO,dO,bq]
 refine cK fun v=>?_
 cases v with
 | agg l=>exact bY
 | one p=>cases p <;> first | exact bY | exact lJ Iff.rfl
def Y1 : CV → Option Bool
 | .one .iy=>some true
 | .one (.ptr _ _)=>some false
 | .one (.fp _)=>some false
 | .one (.rp _ _ _ _)=>some false
 | _=>none
@[go_sem] theorem ab0 : Y1 (.one .iy) = some true:=rfl
@[go_sem] theorem ab1 {k o:Nat}:Y1 (.one (.ptr k o)) = some false:=rfl
@[go_sem] theorem aeR {cs:List FV}:Y1 (.one (.fp cs)) = some false:=rfl
@[go_sem] theorem aeS {k z i o:Nat}:Y1 (.one (.rp k z i o)) = some false:=rfl
@[go_sem ↓] theorem aeT {neg:Bool}:W k u (cO Γ q σ d (.rV neg x)) ↔ W (fun v=>W (fun b=>k (.c (.one (.f (.bool (if neg then !b else b)))),σ)) ⟨⟩ (Y1 v)) ⟨⟩ (val σ x):=by
 simp only [cO,dO,bq]
 refine cK fun v=>?_
 cases v with
 | agg l=>exact bY
 | one p=>cases p <;> first | exact bY | (cases neg <;> exact lJ Iff.rfl)
@[go_sem ↓] theorem ahV {off:Nat}:W k u (cO Γ q σ d (.fa off x)) ↔ W (fun v=>W (fun w=>k (.c w,σ)) ⟨⟩ (fav off v)) ⟨⟩ (val σ x):=by
 simp only [cO,dO,bq]
 refine cK fun v=>?_
 cases v with
 | agg l=>exact bY
 | one p=>cases p <;> first | exact bY | exact lJ Iff.rfl
@[go_sem ↓] theorem ahW {o:Ar}:W k u (cO Γ q σ d (.ar o x y)) ↔ W (fun a=>W (fun b=>W (fun a=>W (fun b=>a.1 = b.1 ∧ W (fun n=>k (.c (.one (.f (.int a.1 n))),σ)) ⟨⟩ (Kn o a.1 a.2 b.2)) ⟨⟩ (int? b)) ⟨⟩ (int? a)) ⟨⟩ (val σ y)) ⟨⟩ (val σ x):=by
 simp only [cO,dO,bq,bN,one,bH]
@[go_sem ↓] theorem af5 {o:WH}:W k u (cO Γ q σ d (.cmp o x y)) ↔ W (fun a=>W (fun b=>W (fun a=>W (fun b=>a.1 = b.1 ∧ k (.c (.one (.f (.bool (xu o a.2 b.2)))),σ)) ⟨⟩ (int? b)) ⟨⟩ (int? a)) ⟨⟩ (val σ y)) ⟨⟩ (val σ x):=by
 simp only [cO,dO,bq,bN,one,bH]
@[go_sem] theorem ab2 {k:IntKind} {a b:Int}:Kn .add k a b = some (k.wrap (a + b)):=rfl
@[go_sem] theorem ab3 {k:IntKind} {a b:Int}:Kn .sub k a b = some (k.wrap (a - b)):=rfl
@[go_sem] theorem ab4 {k:IntKind} {a b:Int}:Kn .mul k a b = some (k.wrap (a * b)):=rfl
section
variable {k : Int → Prop} {u:Tok k} {kk:IntKind} {a b:Int}
@[go_sem ↓] theorem af6 : W k u (Kn .quo kk a b) ↔ ¬ b = 0 ∧ k (kk.wrap (a.tdiv b)):=by simp only [Kn,dO,dx,bH]
@[go_sem ↓] theorem af7 : W k u (Kn .rem kk a b) ↔ ¬ b = 0 ∧ k (a.tmod b):=by simp only [Kn,dO,dx,bH]
end
section
variable {a b:Int}
@[go_sem] theorem ab5 : xu .eq a b = decide (a = b):=rfl
@[go_sem] theorem ab6 : xu .ne a b = !decide (a = b):=rfl
@[go_sem] theorem ab7 : xu .lt a b = decide (a < b):=rfl
@[go_sem] theorem ab8 : xu .le a b = decide (a ≤ b):=rfl
@[go_sem] theorem ab9 : xu .gt a b = decide (b < a):=rfl
@[go_sem] theorem acd : xu .ge a b = decide (b ≤ a):=rfl
end
@[go_sem ↓] theorem af8 {sh:KS} {neg:Bool}:W k u (cO Γ q σ d (.pY sh neg x y)) ↔ W (fun a=>W (fun b=>W (fun a=>W (fun b=>(a.ks = sh ∧ b.ks = sh) ∧ k (.c (.one (.f (.bool (if neg then !decide (a = b) else decide (a = b))))),σ)) ⟨⟩ (keyOf b)) ⟨⟩ (keyOf a)) ⟨⟩ (val σ y)) ⟨⟩ (val σ x):=by
 simp only [cO,dO,bq,bN,one,bH]
@[go_sem ↓] theorem af9 : W k u (cO Γ q σ d (.cat x y)) ↔ W (fun a=>W (fun b=>W (fun a=>W (fun b=>a.size + b.size ≤ 9223372036854775807 ∧ k (.c (.one (.f (.str (a ++ b)))),σ)) ⟨⟩ (qF b)) ⟨⟩ (qF a)) ⟨⟩ (val σ y)) ⟨⟩ (val σ x):=by
 simp only [cO,dO,bq]
 refine cK fun v=>cK fun w=>?_
 have no:V k none ↔ False:=jr
 have nb:∀ {g:ByteArray → Prop},V g none ↔ False:=jr
 have nn:∀ {x:Option ByteArray},V (fun _:ByteArray=>False) x ↔ False:=by intro x;cases x <;> simp [V]
 cases v with
 | agg l=>simp only [qF,no,nb]
 | one p =>
  cases p with
  | f a =>
   cases a with
   | str s =>
    cases w with
    | agg l=>simp only [qF,no,nb,bH]
    | one p =>
     cases p with
     | f b =>
      cases b with
      | str t=>simp only [qF,bH,bN,one]
      | _=>simp only [qF,no,nb,bH]
     | _=>simp only [qF,no,nb,bH]
   | _=>simp only [qF,no,nb]
  | _=>simp only [qF,no,nb]
@[go_sem ↓] theorem ahX : W k u (cO Γ q σ d (.no x)) ↔ W (fun v=>W (fun b=>k (.c (.one (.f (.bool (!b)))),σ)) ⟨⟩ (bool? v)) ⟨⟩ (val σ x):=by
 simp only [cO,dO,bq,one,bH]
@[go_sem ↓] theorem ahY {kk:IntKind}:W k u (cO Γ q σ d (.ci kk x)) ↔ W (fun v=>W (fun a=>k (.c (.one (.f (.int kk (kk.wrap a.2)))),σ)) ⟨⟩ (int? v)) ⟨⟩ (val σ x):=by
 simp only [cO,dO,bq,one,bH]
@[go_sem ↓] theorem aga : W k u (cO Γ q σ d (.mU x)) ↔ W (fun v=>W (fun s=>k (.c (.one (.f (.str s))),σ)) ⟨⟩ (qF v)) ⟨⟩ (val σ x):=by
 simp only [cO,dO,bq]
 refine cK fun v=>?_
 cases v with
 | agg l=>exact bY
 | one p=>cases p with
  | f a=>cases a <;> first | exact bY | exact lJ Iff.rfl
  | _=>exact bY
@[go_sem ↓] theorem ace {sh:KS}:W k u (cO Γ q σ d (.oO sh)) ↔ W (fun s=>k (.c (.one (.mp (dF d))),s)) ⟨⟩ (new σ (dF d) (.map sh [])):=by
 simp only [cO,iA,dO,bX]
@[go_sem ↓] theorem ahZ : W k u (cO Γ q σ d (.mn x y)) ↔ W (fun a=>W (fun b=>W (fun a=>W (fun b=>a.1 = b.1 ∧ k (.c (.one (.f (.int a.1 (if b.2 < a.2 then b.2 else a.2)))),σ)) ⟨⟩ (int? b)) ⟨⟩ (int? a)) ⟨⟩ (val σ y)) ⟨⟩ (val σ x):=by
 simp only [cO,dO,bq,bN,one,bH]
@[go_sem ↓] theorem ah0 : W k u (cO Γ q σ d (.mx x y)) ↔ W (fun a=>W (fun b=>W (fun a=>W (fun b=>a.1 = b.1 ∧ k (.c (.one (.f (.int a.1 (if a.2 < b.2 then b.2 else a.2)))),σ)) ⟨⟩ (int? b)) ⟨⟩ (int? a)) ⟨⟩ (val σ y)) ⟨⟩ (val σ x):=by
 simp only [cO,dO,bq,bN,one,bH]
@[go_sem ↓] theorem agb {o:BinOp}:W k u (cO Γ q σ d (.bit o x y)) ↔ W (fun a=>W (fun b=>W (fun a=>W (fun b=>a.1 = b.1 ∧ k (.c (.one (.f (.int a.1 (Go.bits o a.1 a.2 b.2)))),σ)) ⟨⟩ (int? b)) ⟨⟩ (int? a)) ⟨⟩ (val σ y)) ⟨⟩ (val σ x):=by
 simp only [cO,dO,bq,bN,one,bH]
@[go_sem ↓] theorem agc {l:Bool}:W k u (cO Γ q σ d (.TM l x y)) ↔ W (fun a=>W (fun b=>W (fun a=>W (fun b=>0 ≤ b.2 ∧ k (.c (.one (.f (.int a.1 (if l then a.1.wrap (a.2 * 2 ^ (min b.2.toNat a.1.bits)) else a.2.fdiv (2 ^ (min b.2.toNat a.1.bits)))))),σ)) ⟨⟩ (int? b)) ⟨⟩ (int? a)) ⟨⟩ (val σ y)) ⟨⟩ (val σ x):=by
 simp only [cO,dO,bq,bN,one,bH]
@[go_sem ↓] theorem aeU {lo hi:Option dX}:W k u (cO Γ q σ d (.I9 x lo hi)) ↔ W (fun v=>W (fun s=>W (fun p=>k (.c (.one (.f (.str (s.extract p.1 p.2)))),σ)) ⟨⟩ (rng s.size σ lo hi)) ⟨⟩ (qF v)) ⟨⟩ (val σ x):=by
 simp only [cO,dO,bq]
 refine cK fun v=>?_
 cases v with
 | agg l=>exact bY
 | one p=>cases p with
  | f a =>
   cases a with
   | str s=>simp only [qF,bH,bq,one]
   | _=>exact bY
  | _=>exact bY
section
variable {k : Nat × Nat → Prop} {u:Tok k} {len:Nat} {lo hi:Option dX}
@[go_sem ↓] theorem agd : W k u (rng len σ lo hi) ↔ W (fun h=>W (fun l=>k (l,h)) ⟨⟩ (bnd σ h lo 0)) ⟨⟩ (bnd σ len hi len):=by
 simp only [rng,dO,bq,bX]
end
section
variable {k : Nat → Prop} {u:Tok k} {len dd:Nat}
@[go_sem ↓] theorem U1 : W k u (bnd σ len none dd) ↔ k dd:=gN
@[go_sem ↓] theorem U2 : W k u (bnd σ len (some x) dd) ↔ W (fun v=>W (fun p=>(0 ≤ p.2 ∧ p.2 ≤ (len:Int)) ∧ k p.2.toNat) ⟨⟩ (int? v)) ⟨⟩ (val σ x):=by
 simp only [bnd,dO,bq,bN,bH]
end
def DR (q:Bool) (σ:St) (sz:Nat) (lo hi:Option dX):CV → Option (PV × St)
 | .one (.f (.sl rows))=>if rows.all (fun r=>r.length == sz) = false then none else (rng rows.length σ lo hi).bind fun p=>one (.sl ((rows.drop p.1).take (p.2 - p.1))) σ
 | .one .dN=>(rng 0 σ lo hi).bind fun p=>one (.sl []) σ
 | .one (.own key _)=>(iF σ key).bind fun o=>if o.1 ≠ sz then none else (rng o.2.length σ lo hi).bind fun p=>if q then none else (zu σ key).bind fun s=>one (.sl ((o.2.drop p.1).take (p.2 - p.1))) s
 | _=>none
@[go_sem ↓] theorem agf {sz:Nat} {lo hi:Option dX}:W k u (cO Γ q σ d (.cut sz x lo hi)) ↔ W (fun v=>W k ⟨⟩ (DR q σ sz lo hi v)) ⟨⟩ (val σ x):=by
 simp only [cO,dO,bq]
 refine cK fun v=>?_
 cases v with
 | agg l=>exact Iff.rfl
 | one p=>cases p with
  | f a=>cases a <;> exact Iff.rfl
  | own key n=>simp only [DR,iF];cases get σ.ob key with | none=>exact Iff.rfl | some o=>cases o <;> exact Iff.rfl
  | _=>exact Iff.rfl
@[go_sem ↓] theorem Y2 {sz:Nat} {lo hi:Option dX} {rows:List (List FV)}:W k u (DR q σ sz lo hi (.one (.f (.sl rows)))) ↔ rows.all (fun r=>r.length == sz) = true ∧ W (fun p=>k (.c (.one (.f (.sl ((rows.drop p.1).take (p.2 - p.1))))),σ)) ⟨⟩ (rng rows.length σ lo hi):=by
 simp only [DR,dO,bq,dx,one,bH,Bool.not_eq_false]
@[go_sem ↓] theorem Y3 {sz:Nat} {lo hi:Option dX}:W k u (DR q σ sz lo hi (.one .dN)) ↔ W (fun p=>k (.c (.one (.f (.sl []))),σ)) ⟨⟩ (rng 0 σ lo hi):=by
 simp only [DR,dO,bq,one,bH]
@[go_sem ↓] theorem Y4 {sz key n:Nat} {lo hi:Option dX}:W k u (DR q σ sz lo hi (.one (.own key n))) ↔ W (fun o=>o.1 = sz ∧ W (fun p=>q = false ∧ W (fun s=>k (.c (.one (.f (.sl ((o.2.drop p.1).take (p.2 - p.1))))),s)) ⟨⟩ (zu σ key)) ⟨⟩ (rng o.2.length σ lo hi)) ⟨⟩ (iF σ key):=by
 simp only [DR,dO,bq,dx,one,bH,ne_eq,Decidable.not_not,Bool.not_eq_true]
@[go_sem ↓] theorem agh {off n:Nat} {agg:Bool}:W k u (cO Γ q σ d (.TL off n agg x)) ↔ W (fun v=>W (fun l=>W (fun l=>W (fun z=>k (.c z,σ)) ⟨⟩ (mk agg l)) ⟨⟩ (seg n off l)) ⟨⟩ (LC v)) ⟨⟩ (val σ x):=by
 simp only [cO,dO,bq]
 refine cK fun v=>?_
 cases v with
 | agg l=>simp only [LC,bH,bq,bX]
 | one p=>exact bY
def U3 (σ:St) (sz:Nat) (i:Int):CV → Option PL
 | .one (.f (.sl rows))=>rows[i.toNat]?.bind fun r=>if r.length = sz then some (.fp r) else none
 | .one (.own key n)=>(iF σ key).bind fun o=>if o.1 = sz ∧ i < n ∧ n = o.2.length then some (.rp key sz i.toNat 0) else none
 | _=>none
@[go_sem ↓] theorem ah1 {sz:Nat}:W k u (cO Γ q σ d (.ia sz x y)) ↔ W (fun v=>W (fun j=>W (fun p=>0 ≤ p.2 ∧ W (fun l=>k (.c (.one l),σ)) ⟨⟩ (U3 σ sz p.2 v)) ⟨⟩ (int? j)) ⟨⟩ (val σ y)) ⟨⟩ (val σ x):=by
 simp only [cO,dO,bq,bN]
 refine cK fun v=>cK fun j=>cK fun p=>and_congr Iff.rfl ?_
 cases v with
 | agg l=>exact bY
 | one a =>
  cases a with
  | f a =>
   cases a with
   | sl rows=>simp only [U3,bq,bN,bH]
   | _=>exact bY
  | own key n =>
   simp only [U3,iF]
   cases get σ.ob key with
   | none=>exact bY
   | some o =>
    cases o with
    | row sz' rows=>simp only [LG,Option.bind_some,bN,bH]
    | _=>exact bY
  | _=>exact bY
section
variable {k : PL → Prop} {u:Tok k} {sz:Nat} {i:Int}
@[go_sem ↓] theorem acf {rows:List (List FV)}:W k u (U3 σ sz i (.one (.f (.sl rows)))) ↔ W (fun r=>r.length = sz ∧ k (.fp r)) ⟨⟩ (rows[i.toNat]?):=by
 simp only [U3,dO,bq,bN,bH]
@[go_sem ↓] theorem acg {key n:Nat}:W k u (U3 σ sz i (.one (.own key n))) ↔ W (fun o=>(o.1 = sz ∧ i < n ∧ n = o.2.length) ∧ k (.rp key sz i.toNat 0)) ⟨⟩ (iF σ key):=by
 simp only [U3,dO,bq,bN,bH]
end
@[go_sem ↓] theorem agi {sz len:Nat} {agg:Bool}:W k u (cO Γ q σ d (.idx sz len agg x y)) ↔ W (fun v=>W (fun j=>W (fun p=>(0 ≤ p.2 ∧ p.2 < (len:Int)) ∧ W (fun l=>W (fun l=>W (fun z=>k (.c z,σ)) ⟨⟩ (mk agg l)) ⟨⟩ (seg sz (p.2.toNat * sz) l)) ⟨⟩ (LC v)) ⟨⟩ (int? j)) ⟨⟩ (val σ y)) ⟨⟩ (val σ x):=by
 simp only [cO,dO,bq,bN]
 refine cK fun v=>cK fun j=>cK fun p=>and_congr Iff.rfl ?_
 cases v with
 | agg l=>simp only [LC,bH,bq,bX]
 | one p=>exact bY
@[go_sem ↓] theorem agj : W k u (cO Γ q σ d (.chr x y)) ↔ W (fun v=>W (fun j=>W (fun p=>W (fun s=>0 ≤ p.2 ∧ W (fun b=>k (.c (.one (.f (.int .u8 b.toNat))),σ)) ⟨⟩ (s.data[p.2.toNat]?)) ⟨⟩ (qF v)) ⟨⟩ (int? j)) ⟨⟩ (val σ y)) ⟨⟩ (val σ x):=by
 simp only [cO,dO,bq]
 refine cK fun v=>cK fun j=>cK fun p=>?_
 cases v with
 | agg l=>exact bY
 | one p=>cases p with
  | f a =>
   cases a with
   | str s=>simp only [qF,bH,bN,bq,one]
   | _=>exact bY
  | _=>exact bY
@[go_sem ↓] theorem agk {i:Nat}:W k u (cO Γ q σ d (.ext x i)) ↔ W (fun v=>W (fun l=>W (fun w=>k (.c w,σ)) ⟨⟩ (l[i]?)) ⟨⟩ (UJ v)) ⟨⟩ (r9 σ x):=by
 simp only [cO,dO]
 cases r9 σ x with
 | none=>exact bY
 | some v =>
  rw [bH]
  cases v with
  | c y=>exact bY
  | uF l=>simp only [UJ,bH,bX]
@[go_sem ↓] theorem aeV : W k u (cO Γ q σ d (.uG x)) ↔ W (fun v=>W (fun s=>k (.c (.one (.f (.int .i64 s.size))),σ)) ⟨⟩ (qF v)) ⟨⟩ (val σ x):=by
 simp only [cO,dO,bq]
 refine cK fun v=>?_
 cases v with
 | agg l=>exact bY
 | one p=>cases p with
  | f a=>cases a <;> first | exact bY | exact lJ Iff.rfl
  | _=>exact bY
def OT (σ:St):CV → Option Nat
 | .one .fB=>some 0
 | .one (.mp key)=>(oh σ key).map fun o=>o.2.length
 | _=>none
@[go_sem] theorem Y5 : OT σ (.one .fB) = some 0:=rfl
@[go_sem] theorem ach {key:Nat}:OT σ (.one (.mp key)) = (oh σ key).map fun o=>o.2.length:=rfl
def OU : CV → Option Nat
 | .one (.f (.sl rows))=>some rows.length
 | .one .dN=>some 0
 | .one (.own _ n)=>some n
 | _=>none
@[go_sem] theorem aeW {rows:List (List FV)}:OU (.one (.f (.sl rows))) = some rows.length:=rfl
@[go_sem] theorem aeX : OU (.one .dN) = some 0:=rfl
@[go_sem] theorem aeY {k n:Nat}:OU (.one (.own k n)) = some n:=rfl
@[go_sem ↓] theorem aeZ : W k u (cO Γ q σ d (.fZ x)) ↔ W (fun v=>W (fun n:Nat=>k (.c (.one (.f (.int .i64 (n:Int)))),σ)) ⟨⟩ (OU v)) ⟨⟩ (val σ x):=by
 simp only [cO,dO,bq]
 refine cK fun v=>?_
 cases v with
 | agg l=>exact bY
 | one p=>cases p with
  | f a=>cases a <;> first | exact bY | exact lJ Iff.rfl
  | _=>first | exact bY | exact lJ Iff.rfl
@[go_sem ↓] theorem ae0 {neg:Bool}:W k u (cO Γ q σ d (.Bd neg x)) ↔ W (fun v=>W (fun b=>k (.c (.one (.f (.bool (if neg then !b else b)))),σ)) ⟨⟩ (UK v)) ⟨⟩ (val σ x):=by
 simp only [cO,dO,bq]
 refine cK fun v=>?_
 cases v with
 | agg l=>exact bY
 | one p=>cases p with
  | f a =>
   cases a with
   | sl rows=>cases rows <;> first | exact bY | (cases neg <;> exact lJ Iff.rfl)
   | _=>exact bY
  | dN=>cases neg <;> exact lJ Iff.rfl
  | _=>exact bY
end
end Go.Proofs.Ytfokaoeinpnagaa.Ev

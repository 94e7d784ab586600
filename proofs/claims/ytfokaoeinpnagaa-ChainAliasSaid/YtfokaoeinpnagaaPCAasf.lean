/- A part of the proof of ChainAlias: cut, joined and given short names by a program of this session (wip/tools/pack.py); Lean checks it. No condition. -/
import Derived.Test.YtfokaoeinpnagaaPCAase
import Derived.Orders
import Derived.Scope
import Derived.Test.YtfokaoeinpnagaaPCAasd
set_option linter.unusedSectionVars false
set_option linter.unusedSimpArgs false
set_option linter.unusedVariables false
namespace Go.Proofs.Ytfokaoeinpnagaa.Ev
open Go
section
variable {Γ : Env} {d:Nat} {σ σ2 σ':St} {pv:PV}
theorem F5 {l:List CV}:∀ {caps:List (List FV)} {τ:St},lW true σ l = some (caps,τ) → τ = σ ∧ lW true σ2 l = some (caps,σ2):=by
 induction l with
 | nil=>intro caps τ h;simp only [lW] at h;cases h;exact ⟨rfl,by simp only [lW]⟩
 | cons y l ih =>
  intro caps τ h
  have one:∀ cs,y = .one (.fp cs) → τ = σ ∧ lW true σ2 (y :: l) = some (caps,σ2):=by
   intro cs hy
   subst hy
   simp only [lW] at h ⊢
   obtain ⟨r,g1,g2⟩:=zmm h
   cases g2
   obtain ⟨e1,e2⟩:=ih g1
   exact ⟨e1,by rw [e2];rfl⟩
  cases y with
  | one x =>
   cases x with
   | fp cs=>exact one cs rfl
   | ptr k o=>cases o <;> simp [lW] at h
   | _=>simp [lW] at h
  | agg xs=>simp [lW] at h
theorem O5 {i:I} (hi:O4 i = true) (hs:Same (nu i) σ σ2) (ho:∀ k o,get σ.ob k = some o → get σ2.ob k = some o) (hE:cO Γ true σ d i = some (pv,σ')):σ' = σ ∧ cO Γ true σ2 d i = some (pv,σ2):=by
 cases i with
 | alloc e z=>cases hi
 | box e x=>cases hi
 | xk e sz len z ps=>cases hi
 | zK f xs=>cases hi
 | store n x v=>cases hi
 | pF sh=>cases hi
 | xJ sh x k v=>cases hi
 | del sh x k=>cases hi
 | app e sz b x y=>cases hi
 | mv x =>
  simp only [nu] at hs
  simp only [cO] at hE ⊢
  rw [hs.sN]
  obtain ⟨v,h1,h2⟩:=zmm hE
  cases h2
  rw [h1];simp only [Option.map_some];exact ⟨trivial,trivial⟩
 | pick c x y =>
  simp only [nu] at hs
  simp only [cO] at hE ⊢
  obtain ⟨v,h1,h2⟩:=zbm hE
  obtain ⟨t,h3,h4⟩:=zbm h2
  obtain ⟨u,h5,h6⟩:=zmm h4
  cases h6
  rw [hs.l.l.val,h1]
  simp only [Option.bind_some,h3]
  have:Ev.val σ2 (if t then x else y) = Ev.val σ (if t then x else y):=by
   cases t
   ·exact hs.r.val
   ·exact hs.l.r.val
  rw [this,h5];exact ⟨trivial,rfl⟩
 | build z ps =>
  simp only [nu] at hs
  simp only [cO] at hE ⊢
  obtain ⟨v,h1,h2⟩:=zbm hE
  obtain ⟨u,h3,h4⟩:=zmm h2
  cases h4
  rw [hs.vals,h1]
  simp only [Option.bind_some,h3,Option.map_some]
  exact ⟨trivial,trivial⟩
 | load n g x =>
  simp only [nu] at hs
  simp only [cO] at hE ⊢
  obtain ⟨v,h1,h2⟩:=zbm hE
  rw [hs.val,h1]
  simp only [Option.bind_some]
  split at h2
  ·split at h2
   ·rename_i gu
    obtain ⟨l,h3,h4⟩:=zbm h2
    obtain ⟨u,h5,h6⟩:=zmm h4
    cases h6
    simp only [ho _ _ gu,h3,Option.bind_some,h5,Option.map_some]
    exact ⟨trivial,trivial⟩
   ·cases h2
  ·obtain ⟨l,h3,h4⟩:=zbm h2
   obtain ⟨u,h5,h6⟩:=zmm h4
   cases h6
   simp only [h3,Option.bind_some,h5,Option.map_some]
   exact ⟨trivial,trivial⟩
  ·split at h2
   ·rename_i gu
    split at h2
    ·cases h2
    ·rename_i hz
     obtain ⟨r,h7,h8⟩:=zbm h2
     obtain ⟨l,h3,h4⟩:=zbm h8
     obtain ⟨u,h5,h6⟩:=zmm h4
     cases h6
     simp only [ho _ _ gu,if_neg hz,h7,h3,Option.bind_some,h5,Option.map_some]
     exact ⟨trivial,trivial⟩
   ·cases h2
  ·cases h2
 | mq x =>
  simp only [nu] at hs
  simp only [cO] at hE ⊢
  obtain ⟨v,h1,h2⟩:=zbm hE
  rw [hs.val,h1]
  simp only [Option.bind_some]
  split at h2 <;> cases h2 <;> exact ⟨rfl,rfl⟩
 | sH neg x =>
  simp only [nu] at hs
  simp only [cO] at hE ⊢
  obtain ⟨v,h1,h2⟩:=zbm hE
  rw [hs.val,h1]
  simp only [Option.bind_some]
  split at h2 <;> cases h2 <;> exact ⟨rfl,rfl⟩
 | ar o x y =>
  simp only [nu] at hs
  simp only [cO] at hE ⊢
  obtain ⟨u,h1,hE⟩:=zbm hE
  obtain ⟨v,h2,hE⟩:=zbm hE
  obtain ⟨m,h3,hE⟩:=zbm hE
  obtain ⟨n,h4,hE⟩:=zbm hE
  split at hE
  ·rename_i hk
   obtain ⟨r,h5,hE⟩:=zbm hE
   cases hE
   rw [hs.l.val,hs.r.val]
   simp only [h1,h2,h3,h4,h5,Option.bind_some,if_pos hk,one]
   exact ⟨trivial,trivial⟩
  ·cases hE
 | cmp o x y =>
  simp only [nu] at hs
  simp only [cO] at hE ⊢
  obtain ⟨u,h1,hE⟩:=zbm hE
  obtain ⟨v,h2,hE⟩:=zbm hE
  obtain ⟨m,h3,hE⟩:=zbm hE
  obtain ⟨n,h4,hE⟩:=zbm hE
  split at hE
  ·rename_i hk
   cases hE
   rw [hs.l.val,hs.r.val]
   simp only [h1,h2,h3,h4,Option.bind_some,if_pos hk,one]
   exact ⟨trivial,trivial⟩
  ·cases hE
 | qo sh neg x y =>
  simp only [nu] at hs
  simp only [cO] at hE ⊢
  obtain ⟨u,h1,hE⟩:=zbm hE
  obtain ⟨v,h2,hE⟩:=zbm hE
  obtain ⟨m,h3,hE⟩:=zbm hE
  obtain ⟨n,h4,hE⟩:=zbm hE
  split at hE
  ·rename_i hk
   cases hE
   rw [hs.l.val,hs.r.val]
   simp only [h1,h2,h3,h4,Option.bind_some,if_pos hk,one]
   exact ⟨trivial,trivial⟩
  ·cases hE
 | cat x y =>
  simp only [nu] at hs
  simp only [cO] at hE ⊢
  obtain ⟨u,h1,hE⟩:=zbm hE
  obtain ⟨v,h2,hE⟩:=zbm hE
  rw [hs.l.val,hs.r.val]
  simp only [h1,h2,Option.bind_some]
  split at hE
  ·split at hE
   ·rename_i hk;cases hE;simp only [if_pos hk,one];exact ⟨trivial,trivial⟩
   ·cases hE
  ·cases hE
 | no x =>
  simp only [nu] at hs
  simp only [cO] at hE ⊢
  obtain ⟨u,h1,hE⟩:=zbm hE
  obtain ⟨v,h2,hE⟩:=zbm hE
  cases hE
  rw [hs.val]
  simp only [h1,h2,Option.bind_some,one]
  exact ⟨trivial,trivial⟩
 | ci k x =>
  simp only [nu] at hs
  simp only [cO] at hE ⊢
  obtain ⟨u,h1,hE⟩:=zbm hE
  obtain ⟨v,h2,hE⟩:=zbm hE
  cases hE
  rw [hs.val]
  simp only [h1,h2,Option.bind_some,one]
  exact ⟨trivial,trivial⟩
 | mY x =>
  simp only [nu] at hs
  simp only [cO] at hE ⊢
  obtain ⟨u,h1,hE⟩:=zbm hE
  rw [hs.val,h1]
  simp only [Option.bind_some]
  split at hE
  ·cases hE;exact ⟨rfl,rfl⟩
  ·cases hE
 | Jq x lo hi =>
  simp only [nu] at hs
  simp only [cO] at hE ⊢
  obtain ⟨u,h1,hE⟩:=zbm hE
  rw [hs.l.l.val,h1]
  simp only [Option.bind_some]
  split at hE
  ·obtain ⟨p,h2,hE⟩:=zbm hE
   cases hE
   rw [Same.rng hs.l.r hs.r,h2]
   exact ⟨rfl,rfl⟩
  ·cases hE
 | cut sz x lo hi =>
  simp only [nu] at hs
  simp only [cO] at hE ⊢
  obtain ⟨u,h1,hE⟩:=zbm hE
  rw [hs.l.l.val,h1]
  simp only [Option.bind_some]
  split at hE
  ·split at hE
   ·cases hE
   ·rename_i hz
    obtain ⟨p,h2,hE⟩:=zbm hE
    cases hE
    rw [if_neg hz,Same.rng hs.l.r hs.r,h2]
    exact ⟨rfl,rfl⟩
  ·obtain ⟨p,h2,hE⟩:=zbm hE
   cases hE
   rw [Same.rng hs.l.r hs.r,h2]
   exact ⟨rfl,rfl⟩
  ·split at hE
   ·split at hE
    ·cases hE
    ·obtain ⟨p,h2,hE⟩:=zbm hE
     rw [if_pos trivial] at hE
     cases hE
   ·cases hE
  ·cases hE
 | fa off x =>
  simp only [nu] at hs
  simp only [cO] at hE ⊢
  obtain ⟨v,h1,h2⟩:=zbm hE
  rw [hs.val,h1]
  simp only [Option.bind_some]
  split at h2 <;> cases h2 <;> exact ⟨rfl,rfl⟩
 | Um off n g x =>
  simp only [nu] at hs
  simp only [cO] at hE ⊢
  obtain ⟨v,h1,h2⟩:=zbm hE
  rw [hs.val,h1]
  simp only [Option.bind_some]
  split at h2
  ·obtain ⟨l,h3,h4⟩:=zbm h2
   obtain ⟨u,h5,h6⟩:=zmm h4
   cases h6
   simp only [h3,Option.bind_some,h5,Option.map_some]
   exact ⟨trivial,trivial⟩
  ·cases h2
 | ia sz x i =>
  simp only [nu] at hs
  simp only [cO] at hE ⊢
  obtain ⟨v,h1,hE⟩:=zbm hE
  obtain ⟨j,h2,hE⟩:=zbm hE
  obtain ⟨p,h3,hE⟩:=zbm hE
  rw [hs.l.val,hs.r.val]
  simp only [h1,h2,h3,Option.bind_some]
  split at hE
  ·rename_i h0
   rw [if_pos h0]
   split at hE
   ·obtain ⟨r,h4,hE⟩:=zbm hE
    split at hE
    ·rename_i hk;cases hE;simp only [h4,Option.bind_some,if_pos hk];exact ⟨trivial,trivial⟩
    ·cases hE
   ·split at hE
    ·rename_i gu
     split at hE
     ·rename_i hk;cases hE;simp only [ho _ _ gu,if_pos hk];exact ⟨trivial,trivial⟩
     ·cases hE
    ·cases hE
   ·cases hE
  ·cases hE
 | idx sz len g x i =>
  simp only [nu] at hs
  simp only [cO] at hE ⊢
  obtain ⟨v,h1,hE⟩:=zbm hE
  obtain ⟨j,h2,hE⟩:=zbm hE
  obtain ⟨p,h3,hE⟩:=zbm hE
  rw [hs.l.val,hs.r.val]
  simp only [h1,h2,h3,Option.bind_some]
  split at hE
  ·rename_i h0
   rw [if_pos h0]
   split at hE
   ·obtain ⟨l,h4,hE⟩:=zbm hE
    obtain ⟨u,h5,h6⟩:=zmm hE
    cases h6
    simp only [h4,Option.bind_some,h5,Option.map_some]
    exact ⟨trivial,trivial⟩
   ·cases hE
  ·cases hE
 | chr x i =>
  simp only [nu] at hs
  simp only [cO] at hE ⊢
  obtain ⟨v,h1,hE⟩:=zbm hE
  obtain ⟨j,h2,hE⟩:=zbm hE
  obtain ⟨p,h3,hE⟩:=zbm hE
  rw [hs.l.val,hs.r.val]
  simp only [h1,h2,h3,Option.bind_some]
  split at hE
  ·split at hE
   ·rename_i h0
    obtain ⟨b,h4,hE⟩:=zbm hE
    cases hE
    simp only [if_pos h0,h4,Option.bind_some,one]
    exact ⟨trivial,trivial⟩
   ·cases hE
  ·cases hE
 | look sh z ok x k =>
  simp only [nu] at hs
  simp only [cO] at hE ⊢
  obtain ⟨v,h1,hE⟩:=zbm hE
  obtain ⟨u,h2,hE⟩:=zbm hE
  obtain ⟨b,h3,hE⟩:=zbm hE
  rw [hs.l.val,hs.r.val]
  simp only [h1,h2,h3,Option.bind_some]
  split at hE
  ·cases hE
  ·rename_i hsh
   rw [if_neg hsh]
   obtain ⟨r,h4,h5⟩:=zmm hE
   cases h5
   split at h4
   ·cases h4;exact ⟨rfl,rfl⟩
   ·split at h4
    ·rename_i gu
     split at h4
     ·rename_i hk;cases h4;simp only [ho _ _ gu,if_pos hk,Option.map_some];exact ⟨trivial,trivial⟩
     ·cases h4
    ·cases h4
   ·cases h4
 | ext x i =>
  simp only [nu] at hs
  simp only [cO] at hE ⊢
  rw [hs.sN]
  split at hE
  ·rename_i l hl
   obtain ⟨v,h1,h2⟩:=zmm hE
   cases h2
   simp only [h1,Option.map_some]
   exact ⟨trivial,trivial⟩
  ·cases hE
 | uR x =>
  simp only [nu] at hs
  simp only [cO] at hE ⊢
  obtain ⟨v,h1,h2⟩:=zbm hE
  rw [hs.val,h1]
  simp only [Option.bind_some]
  split at h2 <;> cases h2 <;> exact ⟨rfl,rfl⟩
 | fV x =>
  simp only [nu] at hs
  simp only [cO] at hE ⊢
  obtain ⟨v,h1,h2⟩:=zbm hE
  rw [hs.val,h1]
  simp only [Option.bind_some]
  split at h2 <;> cases h2 <;> exact ⟨rfl,rfl⟩
 | Jr x =>
  simp only [nu] at hs
  simp only [cO] at hE ⊢
  obtain ⟨v,h1,h2⟩:=zbm hE
  rw [hs.val,h1]
  simp only [Option.bind_some]
  split at h2
  ·cases h2;exact ⟨rfl,rfl⟩
  ·split at h2
   ·rename_i gu;cases h2;simp only [ho _ _ gu,one];exact ⟨trivial,trivial⟩
   ·cases h2
  ·cases h2
 | mn x y =>
  simp only [nu] at hs
  simp only [cO] at hE ⊢
  obtain ⟨u,h1,hE⟩:=zbm hE
  obtain ⟨v,h2,hE⟩:=zbm hE
  obtain ⟨m,h3,hE⟩:=zbm hE
  obtain ⟨n,h4,hE⟩:=zbm hE
  rw [hs.l.val,hs.r.val]
  simp only [h1,h2,h3,h4,Option.bind_some]
  split at hE
  ·rename_i hk;cases hE;rw [if_pos hk];exact ⟨rfl,rfl⟩
  ·cases hE
 | mx x y =>
  simp only [nu] at hs
  simp only [cO] at hE ⊢
  obtain ⟨u,h1,hE⟩:=zbm hE
  obtain ⟨v,h2,hE⟩:=zbm hE
  obtain ⟨m,h3,hE⟩:=zbm hE
  obtain ⟨n,h4,hE⟩:=zbm hE
  rw [hs.l.val,hs.r.val]
  simp only [h1,h2,h3,h4,Option.bind_some]
  split at hE
  ·rename_i hk;cases hE;rw [if_pos hk];exact ⟨rfl,rfl⟩
  ·cases hE
 | Sn sz z x=>cases hi
 | call gv f xs =>
  simp only [nu] at hs
  simp only [cO] at hE ⊢
  obtain ⟨l,h1,hE⟩:=zbm hE
  rw [hs.jh,h1]
  simp only [Option.bind_some]
  exact yF ho hE
 | dyn x xs =>
  simp only [nu] at hs
  simp only [cO] at hE ⊢
  obtain ⟨v,h0,hE⟩:=zbm hE
  rw [hs.l.val,h0]
  simp only [Option.bind_some]
  split at hE
  ·obtain ⟨l,h1,hE⟩:=zbm hE
   simp only [hs.r.jh,h1,Option.bind_some]
   exact yF ho hE
  ·cases hE
 | Uo f xs =>
  simp only [nu] at hs
  simp only [cO] at hE ⊢
  obtain ⟨l,h1,hE⟩:=zbm hE
  rw [hs.jh,h1]
  simp only [Option.bind_some]
  obtain ⟨p,h2,h3⟩:=zmm hE
  cases h3
  obtain ⟨e1,e2⟩:=F5 (σ2:=σ2) h2
  rw [e2]
  exact ⟨e1,rfl⟩
 | Bu neg x =>
  simp only [nu] at hs
  simp only [cO] at hE ⊢
  obtain ⟨v,h1,h2⟩:=zbm hE
  rw [hs.val,h1]
  simp only [Option.bind_some]
  split at h2 <;> cases h2 <;> exact ⟨rfl,rfl⟩
 | bit o x y =>
  simp only [nu] at hs
  simp only [cO] at hE ⊢
  obtain ⟨u,h1,hE⟩:=zbm hE
  obtain ⟨v,h2,hE⟩:=zbm hE
  obtain ⟨m,h3,hE⟩:=zbm hE
  obtain ⟨n,h4,hE⟩:=zbm hE
  rw [hs.l.val,hs.r.val]
  simp only [h1,h2,h3,h4,Option.bind_some]
  split at hE
  ·rename_i hk;cases hE;rw [if_pos hk];exact ⟨rfl,rfl⟩
  ·cases hE
 | Un o x y =>
  simp only [nu] at hs
  simp only [cO] at hE ⊢
  obtain ⟨u,h1,hE⟩:=zbm hE
  obtain ⟨v,h2,hE⟩:=zbm hE
  obtain ⟨m,h3,hE⟩:=zbm hE
  obtain ⟨n,h4,hE⟩:=zbm hE
  rw [hs.l.val,hs.r.val]
  simp only [h1,h2,h3,h4,Option.bind_some]
  split at hE
  ·rename_i hk;cases hE;rw [if_pos hk];exact ⟨rfl,rfl⟩
  ·cases hE
 | FJ sz x y=>simp [cO] at hE
 | cutV sz x y =>
  simp only [nu] at hs
  simp only [cO] at hE ⊢
  obtain ⟨v,h1,hE⟩:=zbm hE
  obtain ⟨j,h2,hE⟩:=zbm hE
  obtain ⟨p,h3,hE⟩:=zbm hE
  rw [hs.l.val,hs.r.val]
  simp only [h1,h2,h3,Option.bind_some]
  split at hE
  ·split at hE
   ·rename_i gu
    split at hE
    ·rename_i hk;cases hE;simp only [ho _ _ gu,if_pos hk];exact ⟨trivial,trivial⟩
    ·cases hE
   ·cases hE
  ·cases hE
 | Xh x =>
  simp only [nu] at hs
  simp only [cO] at hE ⊢
  obtain ⟨v,h1,h2⟩:=zbm hE
  rw [hs.val,h1]
  simp only [Option.bind_some]
  split at h2
  ·obtain ⟨s,h3,h4⟩:=zbm h2
   cases h4
   simp only [h3,Option.bind_some,one]
   exact ⟨trivial,trivial⟩
  ·cases h2;exact ⟨rfl,rfl⟩
  ·split at h2
   ·rename_i gu
    split at h2
    ·rename_i hz
     obtain ⟨s,h3,h4⟩:=zbm h2
     cases h4
     simp only [ho _ _ gu,if_pos hz,h3,Option.bind_some,one]
     exact ⟨trivial,trivial⟩
    ·cases h2
   ·cases h2
  ·cases h2
end
end Go.Proofs.Ytfokaoeinpnagaa.Ev
namespace Go.Proofs.Ytfokaoeinpnagaa.Ev
open Go
section
variable {Γ : Env} {d:Nat} {σ σ2 σ':St} {pv:PV}
theorem UY {α:Type} {l:List (Nat × α)} {k:Nat} (h:∀ p ∈ l,p.1 ≠ k):rem l k = l:=by
 induction l with
 | nil=>rfl
 | cons p l ih =>
  obtain ⟨j,u⟩:=p
  unfold rem
  rw [if_neg (h _ List.mem_cons_self),ih (fun p hp=>h p (List.mem_cons_of_mem _ hp))]
theorem jF {key:Nat}:fresh σ key = true ↔ (∀ p ∈ σ.ob,p.1 ≠ key ∧ mD key p.2 = false) ∧ ∀ p ∈ σ.tm,q8 key p.2 = false:=by
 simp [fresh]
theorem je {key:Nat} (h:fresh σ key = true) (o:Ob):new σ key o = some ⟨σ.tm,(key,o) :: σ.ob⟩:=by
 obtain ⟨h1,h2⟩:=jF.mp h
 have hr:=UY (fun p hp=>(h1 p hp).1)
 unfold new Xi
 rw [hr,if_neg]
 ·simp only [Option.map_some]
  rw [List.filter_eq_self.mpr (fun p hp=>by rw [h2 p hp];rfl)]
 ·intro hc
  obtain ⟨p,hp,hm⟩:=List.any_eq_true.mp hc
  rw [(h1 p hp).2] at hm;cases hm
theorem JD {x:PL} {y:FV} (hn:gF x = false) (h:xK σ x = some (y,σ')):σ' = σ ∧ xK σ2 x = some (y,σ2):=by
 cases x with
 | f x=>cases h;exact ⟨rfl,rfl⟩
 | dN=>cases h;exact ⟨rfl,rfl⟩
 | own k n=>cases hn
 | _=>cases h
theorem yG : ∀ {xs:List PL} {ys:List FV} {σ':St},xs.any gF = false → kV σ xs = some (ys,σ') → σ' = σ ∧ kV σ2 xs = some (ys,σ2)
 | [],ys,σ',_,h=>by cases h;exact ⟨rfl,rfl⟩
 | x :: xs,ys,σ',hn,h=>by
  obtain ⟨p,h1,h2⟩:=zbm h
  obtain ⟨r,h3,h4⟩:=zmm h2
  cases h4
  simp only [List.any_cons,Bool.or_eq_false_iff] at hn
  obtain ⟨e1,e2⟩:=JD (σ2:=σ2) hn.1 h1
  rw [e1] at h3
  obtain ⟨e3,e4⟩:=yG hn.2 h3
  exact ⟨e3,by unfold kV;rw [e2];simp only [Option.bind_some];rw [e4];rfl⟩
theorem YR {i:I} (hi:jc i = true) (hs:Same (nu i) σ σ2) (hf:fresh σ (dF d) = true) (hf2:fresh σ2 (dF d) = true) (hE:cO Γ true σ d i = some (pv,σ')) :
  ∃ o,σ' = ⟨σ.tm,(dF d,o) :: σ.ob⟩ ∧ cO Γ true σ2 d i = some (pv,⟨σ2.tm,(dF d,o) :: σ2.ob⟩):=by
 cases i <;> first | cases hi | skip
 ·rename_i e z
  simp only [cO] at hE ⊢
  split at hE
  ·cases hE
  ·rename_i hm
   simp only [iy,je hf,Option.map_some] at hE
   cases hE
   refine ⟨_,rfl,?_⟩
   rw [if_neg hm]
   simp only [iy,je hf2,Option.map_some]
 ·rename_i e x
  simp only [nu] at hs
  simp only [cO] at hE ⊢
  obtain ⟨v,h1,h2⟩:=zbm hE
  split at h2
  ·cases h2
  ·rename_i hm
   simp only [iy,je hf,Option.map_some] at h2
   cases h2
   refine ⟨_,rfl,?_⟩
   rw [hs.val,h1]
   simp only [Option.bind_some]
   rw [if_neg hm]
   simp only [iy,je hf2,Option.map_some]
 ·rename_i e sz len z ps
  simp only [nu] at hs
  simp only [cO] at hE ⊢
  obtain ⟨v,h1,hE⟩:=zbm hE
  obtain ⟨u,h2,hE⟩:=zbm hE
  split at hE
  ·cases hE
  ·rename_i hm
   obtain ⟨p,h3,hE⟩:=zbm hE
   have hn:u.any gF = false:=by simpa using hm
   obtain ⟨e1,e2⟩:=yG (σ2:=σ2) hn h3
   rw [e1] at hE
   simp only [iy,je hf,Option.map_some] at hE
   cases hE
   refine ⟨_,rfl,?_⟩
   rw [hs.vals,h1]
   simp only [Option.bind_some,h2]
   rw [if_neg hm,e2]
   simp only [Option.bind_some,iy,je hf2,Option.map_some]
 ·rename_i sh
  simp only [cO] at hE ⊢
  simp only [iy,je hf,Option.map_some] at hE
  cases hE
  exact ⟨_,rfl,by simp only [iy,je hf2,Option.map_some]⟩
 ·rename_i f xs
  simp only [nu] at hs
  simp only [cO,sM] at hE ⊢
  obtain ⟨l,h1,hE⟩:=zbm hE
  obtain ⟨fK,h2,hE⟩:=zbm hE
  obtain ⟨r,h3,hE⟩:=zbm hE
  obtain ⟨p,h4,hE⟩:=zbm hE
  simp only [je hf,Option.map_some] at hE
  cases hE
  refine ⟨_,rfl,?_⟩
  rw [hs.jh,h1]
  simp only [Option.bind_some,h2,h3,h4,je hf2,Option.map_some]
end
end Go.Proofs.Ytfokaoeinpnagaa.Ev
namespace Go.Proofs.Ytfokaoeinpnagaa.Ev
open Go
def rd (g:G):List Nat:=nu g.i ++ match g.gd with
 | some (some s,_)=>[s]
 | _=>[]
section
variable {Γ : Env} {d:Nat} {σ σ2 σ':St} {pv:PV}
theorem LB {g:G} (hs:Same (rd g) σ σ2):zN σ2 g.gd = zN σ g.gd:=by
 unfold rd at hs
 have hr:=hs.r
 cases hg:g.gd with
 | none=>rfl
 | some p =>
  obtain ⟨s,want⟩:=p
  cases s with
  | none=>rfl
  | some s =>
   rw [hg] at hr
   simp only [zN]
   rw [hr s (by simp)]
theorem tF {g:G} (hi:O4 g.i = true) (hs:Same (rd g) σ σ2) (ho:∀ k o,get σ.ob k = some o → get σ2.ob k = some o) (hE:mE Γ true σ g = some (pv,σ')):σ' = σ ∧ mE Γ true σ2 g = some (pv,σ2):=by
 unfold mE at hE ⊢
 obtain ⟨t,h1,h2⟩:=zbm hE
 rw [LB hs,h1]
 simp only [Option.bind_some]
 cases t with
 | true =>
  rw [if_pos rfl] at h2 ⊢
  exact O5 hi (by unfold rd at hs;exact hs.l) ho h2
 | false =>
  rw [if_neg (by decide)] at h2 ⊢
  cases h2
  exact ⟨rfl,rfl⟩
theorem LC {g:G} (hi:jc g.i = true) (hg:g.gd = none) (hs:Same (rd g) σ σ2) (hf:fresh σ (dF (g.dst.getD 999)) = true) (hf2:fresh σ2 (dF (g.dst.getD 999)) = true) (hE:mE Γ true σ g = some (pv,σ')) :
  ∃ o,σ' = ⟨σ.tm,(dF (g.dst.getD 999),o) :: σ.ob⟩ ∧ mE Γ true σ2 g = some (pv,⟨σ2.tm,(dF (g.dst.getD 999),o) :: σ2.ob⟩):=by
 unfold mE at hE ⊢
 rw [hg] at hE ⊢
 simp only [zN,Option.bind_some,if_true] at hE ⊢
 exact YR hi (by unfold rd at hs;exact hs.l) hf hf2 hE
theorem get_put {α:Type} {l:List (Nat × α)} {i j:Nat} {v:α}:get (put l i v) j = if j = i then some v else get l j:=by
 have aeK:∀ {l:List (Nat × α)} {i j:Nat},j ≠ i → get (rem l i) j = get l j:=by
  intro l i j hj
  induction l with
  | nil=>rfl
  | cons p l ih =>
   obtain ⟨k,u⟩:=p
   unfold rem
   by_cases hk:k = i
   ·rw [if_pos hk,ih]
    conv=>rhs;unfold get
    rw [if_neg (fun e=>hj (by omega))]
   ·rw [if_neg hk]
    unfold get
    rw [ih]
 induction l with
 | nil =>
  unfold put get
  by_cases h:j = i
  ·rw [if_pos h,if_pos h.symm]
  ·rw [if_neg h,if_neg (fun e=>h e.symm)];rfl
 | cons p l ih =>
  obtain ⟨k,u⟩:=p
  unfold put
  by_cases hk:k = i
  ·rw [if_pos hk]
   unfold get
   by_cases h:j = i
   ·rw [if_pos h,if_pos h.symm]
   ·rw [if_neg h,if_neg (fun e=>h e.symm),aeK h,if_neg (fun e=>h (by omega))]
  ·rw [if_neg hk]
   unfold get
   by_cases hkj:k = j
   ·rw [if_pos hkj,if_neg (by omega),if_pos hkj]
   ·rw [if_neg hkj,ih,if_neg hkj]
theorem DR {b:Bool} (h:¬ b = true):b = false:=Bool.eq_false_iff.mpr h
def ji (Γ:Env) (q9:List (Nat × Ob)) (pre:List (G × List Nat)) (zS:List (Nat × PV)):Nat → List (Nat × PV)
 | 0=>zS
 | i + 1=>match pre[i]? with
  | some g=>match mE Γ true ⟨ji Γ q9 pre zS i,q9⟩ g.1 with
   | some p=>sP g.1.dst (ji Γ q9 pre zS i) p.1
   | none=>ji Γ q9 pre zS i
  | none=>ji Γ q9 pre zS i
structure Can (Γ:Env) (q9:List (Nat × Ob)) (pre:List (G × List Nat)) (zS:List (Nat × PV)) (i:Nat) (pv:PV) (s:St):Prop where
 lt:i < pre.length
 ev:mE Γ true ⟨ji Γ q9 pre zS i,q9⟩ (pre[i]'lt).1 = some (pv,s)
 nx:ji Γ q9 pre zS (i + 1) = sP (pre[i]'lt).1.dst (ji Γ q9 pre zS i) pv
 nk:∀ k ∈ (pre[i]'lt).2,q8 k pv = false ∧ (jc (pre[i]'lt).1.i = true → ∀ r ∈ s.ob.take 1,r.1 ≠ k ∧ mD k r.2 = false)
theorem DT {q9:List (Nat × Ob)} {pre:List (G × List Nat)} {zS:List (Nat × PV)}:∀ (n i:Nat) (obx:List (Nat × Ob)) (s:St),n + i = pre.length → OJ Γ q9 (pre.drop i) ⟨ji Γ q9 pre zS i,obx⟩ = some s →
  (∀ j,i ≤ j → j < pre.length → ∃ pv st,Can Γ q9 pre zS j pv st) ∧ s.tm = ji Γ q9 pre zS pre.length ∧
  ∃ news,s.ob = news ++ obx ∧ ∀ p ∈ news,∃ j pv st,i ≤ j ∧ j < pre.length ∧ ∃ (h:Can Γ q9 pre zS j pv st),jc (pre[j]'h.lt).1.i = true ∧ p ∈ st.ob.take 1
 | 0,i,obx,s,hn,hE=>by
  rw [List.drop_eq_nil_of_le (by omega)] at hE
  cases hE
  refine ⟨fun j h1 h2=>by omega,by rw [show pre.length = i from by omega],[],rfl,fun p hp=>by simp at hp⟩
 | n + 1,i,obx,s,hn,hE=>by
  have hi:i < pre.length:=by omega
  rw [List.drop_eq_getElem_cons hi] at hE
  obtain ⟨g,nk,hp⟩:∃ g nk,pre[i] = (g,nk):=⟨_,_,rfl⟩
  rw [hp] at hE
  simp only [OJ] at hE
  obtain ⟨p,h1,h2⟩:=zbm hE
  split at h2
  ·cases h2
  ·rename_i hnk
   have hnx:ji Γ q9 pre zS (i + 1) = sP g.dst (ji Γ q9 pre zS i) p.1:=by
    conv=>lhs;unfold ji
    rw [List.getElem?_eq_getElem hi,hp]
    simp only [h1]
   have hcan:Can Γ q9 pre zS i p.1 p.2:=⟨hi,by rw [hp];exact h1,by rw [hp];exact hnx,fun k hk=>by
    rw [hp] at hk ⊢
    have hk':¬ (q8 k p.1 || (jc g.i && (p.2.ob.take 1).any (fun r=>r.1 == k || mD k r.2))) = true:=fun hc=>hnk (List.any_eq_true.mpr ⟨k,hk,hc⟩)
    rw [Bool.or_eq_true,not_or] at hk'
    refine ⟨DR hk'.1,fun hN r hr=>?_⟩
    have:=hk'.2
    rw [hN,Bool.true_and] at this
    have hr':¬ (r.1 == k || mD k r.2) = true:=fun hc=>this (List.any_eq_true.mpr ⟨r,hr,hc⟩)
    rw [Bool.or_eq_true,not_or] at hr'
    exact ⟨by simpa using hr'.1,DR hr'.2⟩⟩
   rw [← hnx] at h2
   obtain ⟨e1,e2,news,e3,e4⟩:=DT n (i + 1) _ s (by omega) h2
   refine ⟨fun j h3 h4=>?_,e2,news ++ (if jc g.i then p.2.ob.take 1 else []),?_,fun r hr=>?_⟩
   ·by_cases hj:j = i
    ·subst hj;exact ⟨_,_,hcan⟩
    ·exact e1 j (by omega) h4
   ·rw [e3]
    cases jc g.i <;> simp
   ·rcases List.mem_append.mp hr with h | h
    ·obtain ⟨j,pv,st,h3,h4,h5⟩:=e4 r h
     exact ⟨j,pv,st,by omega,h4,h5⟩
    ·split at h
     ·rename_i hN
      exact ⟨i,p.1,p.2,Nat.le_refl _,hi,hcan,by rw [hp];exact hN,h⟩
     ·simp at h
end
end Go.Proofs.Ytfokaoeinpnagaa.Ev
namespace Go.Proofs.Ytfokaoeinpnagaa.Ev
open Go
def jG (o:Oper):List Nat:=(o.after.toList.filter (fun e=>Region.binds .any e)).map (·.on)
inductive JE (ops:Array Oper):Nat → Nat → Prop
 | dir {i e:Nat} (h:i < ops.size) (he:e ∈ jG ops[i]):JE ops e i
 | step {i e j:Nat} (h:i < ops.size) (he:e ∈ jG ops[i]) (hj:JE ops j e):JE ops j i
def isLt (g:G):Bool:=g.dst.isNone && g.gd.isNone && (match g.i with
 | .store _ _ _=>true
 | _=>false)
structure LD (ops:Array Oper) (pre:List (G × List Nat)) (lV:List Nat) (jR rest:List G):Prop where
 len:ops.size = pre.length + (jR.length + rest.length)
 lt:∀ i (h:i < ops.size),∀ e ∈ jG ops[i],e < i
 data:∀ i (h:i < pre.length) (h':i < ops.size),∀ s ∈ rd pre[i].1,∀ j (hj:j < pre.length),pre[j].1.dst = some s → j ∈ jG ops[i]
 dst:∀ i j (h:i < pre.length) (hj:j < pre.length),i ≠ j → ∀ s,pre[i].1.dst = some s → pre[j].1.dst ≠ some s
 cls:∀ i (h:i < pre.length),O4 pre[i].1.i = true ∨ (jc pre[i].1.i = true ∧ pre[i].1.gd = none)
 nk:∀ i j (h:i < pre.length) (hj:j < pre.length),i ≠ j → jc pre[i].1.i = true → dF (pre[i].1.dst.getD 999) ∈ pre[j].2 ∨ JE ops i j
 tl:∀ k,pre.length ≤ k → k < ops.size → ∀ j,j < k → JE ops j k ∨ (j < pre.length ∧ j ∈ lV ∧ k < pre.length + jR.length)
 fl:∀ j ∈ lV,∀ (h:j < pre.length),O4 pre[j].1.i = true
 lt':∀ g ∈ jR,isLt g = true
 ld:∀ m (h:m < jR.length) (h':pre.length + m < ops.size),∀ s ∈ rd jR[m],∀ j (hj:j < pre.length),pre[j].1.dst = some s → j ∈ jG ops[pre.length + m]
def Dn (l:Array Bool) (i:Nat):Prop:=l.getD i false = true
section
variable {P : Program} {Γ:Env} {bG:Nat → Prop} {w0 w w':World} {bF:List Nat} {N:Fr} {jl:Nat → Value} {σ σ':St} {a:Act} {X:Hx} {ops:Array Oper} {pre:List (G × List Nat)} {lV:List Nat} {jR rest:List G} {l:Array Bool} {Q:Exit → Act → World → Prop}
def Down (ops:Array Oper) (l:Array Bool):Prop:=∀ i (h:i < ops.size),Dn l i → ∀ e ∈ jG ops[i],Dn l e
theorem Down.YS (hd:Down ops l) (hD:LD ops pre lV jR rest) {i j:Nat} (hb:JE ops j i):(∀ (h:i < ops.size),∀ e ∈ jG ops[i],Dn l e) → Dn l j:=by
 induction hb with
 | dir h he=>intro hr;exact hr h _ he
 | step h he hj ih =>
  intro hr
  exact ih (fun h'=>hd _ h' (hr h _ he))
theorem jf {i:Nat} (hl:l.size = ops.size):i ∈ Region.ready .any ops l ↔ ∃ (h:i < ops.size),¬ Dn l i ∧ ∀ e ∈ jG ops[i],Dn l e:=by
 unfold Region.ready
 rw [List.mem_filter,List.mem_range]
 constructor
 ·rintro ⟨h,hh⟩
  refine ⟨h,?_⟩
  rw [Bool.and_eq_true,Array.getElem?_eq_getElem h] at hh
  simp only [Option.map_some,Option.getD_some] at hh
  refine ⟨fun hd=>?_,fun e he=>?_⟩
  ·have h1:=hh.1
   unfold Dn at hd
   rw [Array.getD_eq_getD_getElem?,Array.getElem?_eq_getElem (by omega)] at hd h1
   simp only [Option.getD_some] at hd h1
   rw [hd] at h1;cases h1
  ·obtain ⟨x,hx,rfl⟩:=List.mem_map.mp he
   obtain ⟨hx1,hx2⟩:=List.mem_filter.mp hx
   have:=(Array.all_eq_true_iff_forall_mem.mp hh.2) x (by simpa using hx1)
   rw [hx2] at this
   exact this
 ·rintro ⟨h,h1,h2⟩
  refine ⟨h,?_⟩
  rw [Bool.and_eq_true,Array.getElem?_eq_getElem h]
  simp only [Option.map_some,Option.getD_some]
  constructor
  ·unfold Dn at h1
   rw [Array.getD_eq_getD_getElem?,Array.getElem?_eq_getElem (by omega)] at h1 ⊢
   simp only [Option.getD_some] at h1 ⊢
   simpa using h1
  ·refine Array.all_eq_true_iff_forall_mem.mpr fun x hx=>?_
   cases hb:Region.binds .any x with
   | false=>rfl
   | true=>exact h2 x.on (List.mem_map.mpr ⟨x,List.mem_filter.mpr ⟨by simpa using hx,hb⟩,rfl⟩)
theorem Dn.set {i j:Nat} (hi:i < l.size):Dn (l.setIfInBounds i true) j ↔ j = i ∨ Dn l j:=by
 unfold Dn
 rw [Array.getD_eq_getD_getElem?,Array.getD_eq_getD_getElem?,Array.getElem?_setIfInBounds]
 by_cases h:i = j
 ·subst h
  rw [if_pos rfl,if_pos hi]
  simp
 ·rw [if_neg h]
  constructor
  ·exact fun hh=>.inr hh
  ·rintro (hh | hh)
   ·exact absurd hh.symm h
   ·exact hh
def left (l:Array Bool):Nat:=(l.toList.filter (!·)).length
theorem nR {i:Nat} (hi:i < l.size) (hn:¬ Dn l i):left (l.setIfInBounds i true) + 1 = left l:=by
 unfold left
 rw [Array.toList_setIfInBounds]
 have hv:l.toList[i]? = some false:=by
  unfold Dn at hn
  rw [Array.getD_eq_getD_getElem?,Array.getElem?_eq_getElem hi] at hn
  simp only [Option.getD_some] at hn
  rw [Array.getElem?_toList,Array.getElem?_eq_getElem hi]
  simpa using hn
 have key:∀ (l:List Bool) (i:Nat),l[i]? = some false → ((l.set i true).filter (!·)).length + 1 = (l.filter (!·)).length:=by
  intro l
  induction l with
  | nil=>intro i h;simp at h
  | cons b l ih =>
   intro i h
   cases i with
   | zero=>simp at h;subst h;simp
   | succ i =>
    have:=ih i (by simpa using h)
    cases b <;> simp_all
 exact key l.toList i hv
theorem tH (hd:Down ops l) {i:Nat} (hl:l.size = ops.size) (hi:i < ops.size) (hr:∀ e ∈ jG ops[i],Dn l e):Down ops (l.setIfInBounds i true):=by
 intro j hj hD e he
 rcases (Dn.set (by omega)).mp hD with rfl | hD
 ·exact (Dn.set (by omega)).mpr (.inr (hr e he))
 ·exact (Dn.set (by omega)).mpr (.inr (hd j hj hD e he))
theorem pV (hD:LD ops pre lV jR rest) (hl:l.size = ops.size) {i:Nat} (hi:i < ops.size) (hn:¬ Dn l i):Region.ready .any ops l ≠ []:=by
 have key:∀ (n i:Nat),i ≤ n → (hi:i < ops.size) → ¬ Dn l i → ∃ j,j ∈ Region.ready .any ops l:=by
  intro n
  induction n with
  | zero =>
   intro i h0 hi hn
   exact ⟨i,(jf hl).mpr ⟨hi,hn,fun e he=>by have:=hD.lt i hi e he;omega⟩⟩
  | succ n ih =>
   intro i h0 hi hn
   by_cases hall:∀ e ∈ jG ops[i],Dn l e
   ·exact ⟨i,(jf hl).mpr ⟨hi,hn,hall⟩⟩
   ·have:∃ e,e ∈ jG ops[i] ∧ ¬ Dn l e:=by
     apply Classical.byContradiction
     intro hc
     exact hall (fun e he=>Classical.byContradiction fun hne=>hc ⟨e,he,hne⟩)
    obtain ⟨e,he,hne⟩:=this
    have:=hD.lt i hi e he
    exact ih e (by omega) (by omega) hne
 obtain ⟨j,hj⟩:=key i i (Nat.le_refl _) hi hn
 intro e
 rw [e] at hj
 simp at hj
end
end Go.Proofs.Ytfokaoeinpnagaa.Ev
namespace Go.Proofs.Ytfokaoeinpnagaa.Ev
open Go
section
variable {P : Program} {Γ:Env} {bG:Nat → Prop} {w0 w w':World} {bF:List Nat} {N:Fr} {jl:Nat → Value} {σ σ':St} {a:Act} {X:Hx} {ops:Array Oper} {pre:List (G × List Nat)} {lV:List Nat} {jR rest:List G} {l:Array Bool} {Q:Exit → Act → World → Prop}
theorem jY : ∀ {l:List Oper} {gs:List G},lJ P X ops N.ok l = some gs → l.length = gs.length ∧ ∀ i (h:i < l.length) (h':i < gs.length),yc P X ops N.ok l[i] = some gs[i]
 | [],gs,h=>by cases h;exact ⟨rfl,fun i h=>by simp at h⟩
 | o :: l,gs,h=>by
  obtain ⟨g,h1,h2⟩:=zbm h
  obtain ⟨r,h3,rfl⟩:=zmm h2
  obtain ⟨e1,e2⟩:=jY h3
  refine ⟨by simp [e1],fun i hi hi'=>?_⟩
  cases i with
  | zero=>exact h1
  | succ i=>exact e2 i (by simpa using hi) (by simpa using hi')
theorem kX {fuel:Nat}:wpAny P .any ops Q (fuel + 1) l a w = ((Region.ready .any ops l = [] → Q .normal a w) ∧ ∀ i ∈ Region.ready .any ops l,wpOp P ops Q i (wpAny P .any ops Q fuel (l.setIfInBounds i true)) a w):=rfl
theorem UZ (hD:LD ops pre lV jR rest) (heq:∀ t ∈ X.eqs,lK P t) (l5:iN P Γ) (hC:eD P Γ) (hc:lJ P X ops N.ok ops.toList = some (pre.map (·.1) ++ (jR ++ rest))) (hQ:∀ a' w',Ok bG w0 bF N jl σ' a' w' → Q .normal a' w') :
  ∀ (fuel k:Nat) (l:Array Bool) (σ:St) (a:Act) (w:World),l.size = ops.size → pre.length + jR.length ≤ k → k ≤ ops.size → (∀ i,i < ops.size → (Dn l i ↔ i < k)) → Down ops l → left l ≤ fuel → Ok bG w0 bF N jl σ a w → xR Γ false (rest.drop (k - (pre.length + jR.length))) σ = some σ' → wpAny P .any ops Q fuel l a w:=by
 intro fuel
 have hcg:=jY hc
 have hlen:=hD.len
 have nil:∀ {k:Nat} {l:Array Bool},l.size = ops.size → k = ops.size → (∀ i,i < ops.size → (Dn l i ↔ i < k)) → Region.ready .any ops l = []:=by
  intro k l hl hk hd
  refine List.eq_nil_iff_forall_not_mem.mpr fun i hi=>?_
  obtain ⟨h1,h2,_⟩:=(jf hl).mp hi
  exact h2 ((hd i h1).mpr (by omega))
 have pos:∀ {k:Nat} {l:Array Bool},l.size = ops.size → k < ops.size → (∀ i,i < ops.size → (Dn l i ↔ i < k)) → 0 < left l:=by
  intro k l hl hk hd
  have:=nR (l:=l) (i:=k) (by omega) (fun h=>by have:=(hd k hk).mp h;omega)
  omega
 induction fuel with
 | zero =>
  intro k l σ a w hl h1 h2 hd hdn hf h hE
  by_cases hk:k = ops.size
  ·refine ⟨nil hl hk hd,?_⟩
   rw [List.drop_eq_nil_of_le (by omega)] at hE
   cases hE
   exact hQ a w h
  ·have:=pos hl (by omega) hd
   omega
 | succ fuel ih =>
  intro k l σ a w hl h1 h2 hd hdn hf h hE
  rw [kX]
  by_cases hk:k = ops.size
  ·have hn:=nil hl hk hd
   refine ⟨fun _=>?_,fun i hi=>by rw [hn] at hi;simp at hi⟩
   rw [List.drop_eq_nil_of_le (by omega)] at hE
   cases hE
   exact hQ a w h
  ·have hk':k < ops.size:=by omega
   have hnk:¬ Dn l k:=fun hh=>by have:=(hd k hk').mp hh;omega
   refine ⟨fun hn=>absurd hn (pV hD hl hk' hnk),fun i hi=>?_⟩
   obtain ⟨hi1,hi2,hi3⟩:=(jf hl).mp hi
   have hik:i = k:=by
    have hge:k ≤ i:=by
     apply Classical.byContradiction
     intro hlt
     exact hi2 ((hd i hi1).mpr (by omega))
    apply Classical.byContradiction
    intro hne
    rcases hD.tl i (by omega) hi1 k (by omega) with hb | ⟨_,_,hb⟩
    ·exact hnk (hdn.YS hD hb (fun _=>hi3))
    ·omega
   subst hik
   unfold wpOp
   rw [Array.getElem?_eq_getElem hi1]
   have ht:i - (pre.length + jR.length) < rest.length:=by omega
   rw [List.drop_eq_getElem_cons ht] at hE
   obtain ⟨s,h4,h5⟩:=zbm hE
   have hg:=hcg.2 i (by simpa using hi1) (by simp;omega)
   rw [List.getElem_append_right (by simp;omega),List.getElem_append_right (by simp;omega)] at hg
   simp only [List.length_map,Array.getElem_toList,Nat.sub_sub] at hg
   refine Cb heq l5 hC hg h h4 fun a' w' h'=>?_
   refine ih (i + 1) _ s a' w' (by simp [hl]) (by omega) (by omega) (fun j hj=>?_) (tH hdn hl hi1 hi3) ?_ h' (by rw [show i + 1 - (pre.length + jR.length) = i - (pre.length + jR.length) + 1 from by omega];exact h5)
   ·rw [Dn.set (by omega)]
    rw [hd j hj]
    omega
   ·have:=nR (l:=l) (i:=i) (by omega) hnk
    omega
end
end Go.Proofs.Ytfokaoeinpnagaa.Ev
namespace Go.Proofs.Ytfokaoeinpnagaa.Ev
open Go
structure LG (Γ:Env) (pre:List (G × List Nat)) (fH:St) (l:Array Bool) (σ:St):Prop where
 tg1:∀ i pv st (h:Can Γ fH.ob pre fH.tm i pv st),Dn l i → ∀ s,(pre[i]'h.lt).1.dst = some s → get σ.tm s = some pv
 tg2:∀ s,(∀ i (h:i < pre.length),Dn l i → pre[i].1.dst ≠ some s) → get σ.tm s = get fH.tm s
 ob1:∃ news,σ.ob = news ++ fH.ob ∧ ∀ p ∈ news,∃ i,∃ (h:i < pre.length),jc pre[i].1.i = true ∧ p.1 = dF (pre[i].1.dst.getD 999)
 ob2:∀ i pv st (h:Can Γ fH.ob pre fH.tm i pv st),Dn l i → jc (pre[i]'h.lt).1.i = true → ∀ p ∈ st.ob.take 1,p ∈ σ.ob
 fr:∀ i (h:i < pre.length),jc pre[i].1.i = true → ¬ Dn l i → fresh σ (dF (pre[i].1.dst.getD 999)) = true
section
variable {Γ : Env} {σ fH σ':St} {ops:Array Oper} {pre:List (G × List Nat)} {lV:List Nat} {jR rest:List G} {l:Array Bool}
theorem Can.uniq {q9:List (Nat × Ob)} {zS:List (Nat × PV)} {i:Nat} {pv pv':PV} {s s':St} (h:Can Γ q9 pre zS i pv s) (h':Can Γ q9 pre zS i pv' s'):pv = pv' ∧ s = s':=by
 have:=h.ev.symm.trans h'.ev
 simp only [Option.some.injEq,Prod.mk.injEq] at this
 exact this
theorem pW {d:Option Nat} {tm:List (Nat × PV)} {v:PV} {s:Nat}:get (sP d tm v) s = if d = some s then some v else get tm s:=by
 cases d with
 | none=>simp [sP]
 | some d =>
  simp only [sP,get_put,Option.some.injEq]
  by_cases h:s = d
  ·rw [if_pos h,if_pos h.symm]
  ·rw [if_neg h,if_neg (fun e=>h e.symm)]
theorem DU {d:Option Nat} {tm:List (Nat × PV)} {v:PV} {p:Nat × PV} (h:p ∈ sP d tm v):p.2 = v ∨ p ∈ tm:=by
 cases d with
 | none=>exact .inr h
 | some d =>
  rcases iA h with rfl | ⟨h,_⟩
  ·exact .inl rfl
  ·exact .inr h
theorem tJ (hD:LD ops pre lV jR rest) (hall:∀ j,j < pre.length → ∃ pv st,Can Γ fH.ob pre fH.tm j pv st):∀ i,i ≤ pre.length →
  (∀ j pv st (h:Can Γ fH.ob pre fH.tm j pv st),j < i → ∀ s,(pre[j]'h.lt).1.dst = some s → get (ji Γ fH.ob pre fH.tm i) s = some pv) ∧
  (∀ s,(∀ j (h:j < pre.length),j < i → pre[j].1.dst ≠ some s) → get (ji Γ fH.ob pre fH.tm i) s = get fH.tm s) ∧
  ∀ p ∈ ji Γ fH.ob pre fH.tm i,p ∈ fH.tm ∨ ∃ j pv st,j < i ∧ Can Γ fH.ob pre fH.tm j pv st ∧ p.2 = pv
 | 0,_=>⟨fun j _ _ _ h=>by omega,fun s _=>rfl,fun p hp=>.inl hp⟩
 | i + 1,hi=>by
  obtain ⟨e1,e2,e3⟩:=tJ hD hall i (by omega)
  obtain ⟨pv,st,hc⟩:=hall i (by omega)
  rw [hc.nx]
  refine ⟨fun j pv' st' h hj s hs=>?_,fun s hs=>?_,fun p hp=>?_⟩
  ·rw [pW]
   by_cases hji:j = i
   ·subst hji
    rw [if_pos hs,(h.uniq hc).1]
   ·rw [if_neg (hD.dst j i h.lt hc.lt hji s hs),e1 j pv' st' h (by omega) s hs]
  ·rw [pW,if_neg (hs i hc.lt (by omega))]
   exact e2 s (fun j h hj=>hs j h (by omega))
  ·rcases DU hp with h | h
   ·exact .inr ⟨i,pv,st,by omega,hc,h⟩
   ·rcases e3 p h with h | ⟨j,pv',st',h1,h2,h3⟩
    ·exact .inl h
    ·exact .inr ⟨j,pv',st',by omega,h2,h3⟩
theorem JE.lt (hD:LD ops pre lV jR rest) {i j:Nat} (h:JE ops j i):j < i:=by
 induction h with
 | dir h he=>exact hD.lt _ h _ he
 | step h he hj ih=>have:=hD.lt _ h _ he;omega
theorem Ia {α:Type} {l m:List (Nat × α)} {k:Nat} (h:∀ p ∈ l,p.1 ≠ k):get (l ++ m) k = get m k:=by
 induction l with
 | nil=>rfl
 | cons p l ih =>
  obtain ⟨j,u⟩:=p
  rw [List.cons_append]
  conv=>lhs;unfold get
  rw [if_neg (h _ List.mem_cons_self),ih (fun p hp=>h p (List.mem_cons_of_mem _ hp))]
theorem Cc : ∀ {i:I},O4 i = true → jc i = true → False:=by
 intro i h1 h2
 cases i <;> simp [O4,jc] at h1 h2
theorem YT (hD:LD ops pre lV jR rest) (hall:∀ j,j < pre.length → ∃ pv st,Can Γ fH.ob pre fH.tm j pv st) (hfr:∀ i (h:i < pre.length),jc pre[i].1.i = true → fresh fH (dF (pre[i].1.dst.getD 999)) = true)
  (hI:LG Γ pre fH l σ) (hl:l.size = ops.size) (hdn:Down ops l) {i:Nat} (hi:i < pre.length) (hi':i < ops.size) (hn:¬ Dn l i) (hr:∀ e ∈ jG ops[i],Dn l e) :
  ∃ pv σ1,mE Γ true σ pre[i].1 = some (pv,σ1) ∧ LG Γ pre fH (l.setIfInBounds i true) (sO σ1 pre[i].1.dst pv):=by
 obtain ⟨pv,st,hc⟩:=hall i hi
 obtain ⟨c1,c2,c3⟩:=tJ hD hall i (by omega)
 have hset:∀ {j},Dn (l.setIfInBounds i true) j ↔ j = i ∨ Dn l j:=fun {j}=>Dn.set (by omega)
 have hsame:Same (rd pre[i].1) ⟨ji Γ fH.ob pre fH.tm i,fH.ob⟩ σ:=by
  intro s hs
  by_cases hw:∃ j,∃ (h:j < pre.length),pre[j].1.dst = some s
  ·obtain ⟨j,hj,hjs⟩:=hw
   have hje:=hD.data i hi hi' s hs j hj hjs
   obtain ⟨pv',st',hc'⟩:=hall j hj
   rw [hI.tg1 j pv' st' hc' (hr j hje) s hjs,c1 j pv' st' hc' (hD.lt i hi' j hje) s hjs]
  ·have hw':∀ j (h:j < pre.length),pre[j].1.dst ≠ some s:=fun j h e=>hw ⟨j,h,e⟩
   rw [hI.tg2 s (fun j h _=>hw' j h),c2 s (fun j h _=>hw' j h)]
 have hnk:∀ j (h:j < pre.length),jc pre[j].1.i = true → ¬ Dn l j → j ≠ i → dF (pre[j].1.dst.getD 999) ∈ pre[i].2:=by
  intro j h hN hdj hji
  rcases hD.nk j i h hi hji hN with h1 | h1
  ·exact h1
  ·exact absurd (hdn.YS hD h1 (fun _=>hr)) hdj
 obtain ⟨news,ho1,ho2⟩:=hI.ob1
 have hkey:∀ k o,get fH.ob k = some o → get σ.ob k = some o:=by
  intro k o hk
  rw [ho1,Ia]
  ·exact hk
  ·intro p hp e
   obtain ⟨j,hj,hN,hpk⟩:=ho2 p hp
   have:=(jF.mp (hfr j hj hN)).1 _ (get_mem hk)
   exact this.1 (by show k = _;rw [← e,hpk])
 have fin:∀ (σ1:St) (new:List (Nat × Ob)),σ1.tm = σ.tm → σ1.ob = new ++ σ.ob → (∀ p ∈ new,jc pre[i].1.i = true ∧ p.1 = dF (pre[i].1.dst.getD 999)) → (jc pre[i].1.i = true → new = st.ob.take 1) → LG Γ pre fH (l.setIfInBounds i true) (sO σ1 pre[i].1.dst pv):=by
  intro σ1 new ht gu hnew hst
  have SC:(sO σ1 pre[i].1.dst pv).tm = sP pre[i].1.dst σ.tm pv:=by
   unfold sO sP
   cases pre[i].1.dst <;> simp [ht]
  have U0:(sO σ1 pre[i].1.dst pv).ob = new ++ σ.ob:=by
   unfold sO
   cases pre[i].1.dst <;> simp [gu]
  refine ⟨fun j pv' st' h hd s hs=>?_,fun s hs=>?_,⟨new ++ news,by rw [U0,ho1,List.append_assoc],fun p hp=>?_⟩,fun j pv' st' h hd hN p hp=>?_,fun j h hN hd=>?_⟩
  ·rw [SC,pW]
   rcases hset.mp hd with rfl | hd
   ·rw [if_pos hs,(h.uniq hc).1]
   ·have hji:j ≠ i:=fun e=>hn (e ▸ hd)
    rw [if_neg (hD.dst j i h.lt hi hji s hs)]
    exact hI.tg1 j pv' st' h hd s hs
  ·rw [SC,pW,if_neg (hs i hi (hset.mpr (.inl rfl)))]
   exact hI.tg2 s (fun j h hd=>hs j h (hset.mpr (.inr hd)))
  ·rcases List.mem_append.mp hp with hp | hp
   ·exact ⟨i,hi,hnew p hp⟩
   ·exact ho2 p hp
  ·rw [U0]
   rcases hset.mp hd with rfl | hd
   ·refine List.mem_append_left _ ?_
    rw [hst hN,(hc.uniq h).2];exact hp
   ·exact List.mem_append_right _ (hI.ob2 j pv' st' h hd hN p hp)
  ·have hji:j ≠ i:=fun e=>hd (hset.mpr (.inl e))
   have hdj:¬ Dn l j:=fun e=>hd (hset.mpr (.inr e))
   have hk:=hnk j h hN hdj hji
   obtain ⟨f1,f2⟩:=jF.mp (hI.fr j h hN hdj)
   obtain ⟨g1,g2⟩:=hc.nk _ hk
   refine jF.mpr ⟨fun p hp=>?_,fun p hp=>?_⟩
   ·rw [U0] at hp
    rcases List.mem_append.mp hp with hp | hp
    ·have hNi:=(hnew p hp).1
     exact g2 hNi p (by rw [← hst hNi];exact hp)
    ·exact f1 p hp
   ·rw [SC] at hp
    rcases DU hp with h | h
    ·rw [h];exact g1
    ·exact f2 p h
 rcases hD.cls i hi with hV | ⟨hN,hgd⟩
 ·obtain ⟨e1,e2⟩:=tF hV hsame hkey hc.ev
  refine ⟨pv,σ,e2,fin σ [] rfl rfl (fun p hp=>by simp at hp) (fun hN=>?_)⟩
  exact (Cc hV hN).elim
 ·have hfc:fresh ⟨ji Γ fH.ob pre fH.tm i,fH.ob⟩ (dF (pre[i].1.dst.getD 999)) = true:=by
   obtain ⟨f1,f2⟩:=jF.mp (hfr i hi hN)
   refine jF.mpr ⟨f1,fun p hp=>?_⟩
   rcases c3 p hp with h | ⟨j,pv',st',h1,h2,h3⟩
   ·exact f2 p h
   ·rcases hD.nk i j hi h2.lt (by omega) hN with h4 | h4
    ·rw [h3];exact (h2.nk _ h4).1
    ·have:=h4.lt hD;omega
  obtain ⟨o,e1,e2⟩:=LC hN hgd hsame hfc (hI.fr i hi hN hn) hc.ev
  refine ⟨pv,_,e2,fin _ [(dF (pre[i].1.dst.getD 999),o)] rfl rfl (fun p hp=>by simp at hp;exact ⟨hN,by rw [hp]⟩) (fun _=>by rw [e1];rfl)⟩
end
end Go.Proofs.Ytfokaoeinpnagaa.Ev
namespace Go.Proofs.Ytfokaoeinpnagaa.Ev
open Go
section
variable {P : Program} {Γ:Env} {bG:Nat → Prop} {w0 w w':World} {bF:List Nat} {N:Fr} {d:Nat} {jl:Nat → Value} {σ fH σ':St} {a:Act} {X:Hx} {ops:Array Oper} {pre:List (G × List Nat)} {lV:List Nat} {jR rest:List G} {l:Array Bool} {Q:Exit → Act → World → Prop} {pv:PV}
theorem U1 {tm tm2:List (Nat × PV)} {ob:List (Nat × Ob)} {n key off:Nat} {x y:dZ} {s:St} (hv:val ⟨tm,ob⟩ x = some (.one (.ptr key off))) (hE:cO Γ true ⟨tm,ob⟩ d (.store n x y) = some (pv,s)) :
  s.tm = tm ∧ (Same (nu (.store n x y)) ⟨tm,ob⟩ ⟨tm2,ob⟩ → ∀ q d,cO Γ q ⟨tm2,ob⟩ d (.store n x y) = some (pv,⟨tm2,s.ob⟩)) ∧ ∀ k o,k ≠ key → get ob k = some o → get s.ob k = some o:=by
 simp only [cO] at hE
 rw [hv] at hE
 simp only [Option.bind_some] at hE
 obtain ⟨u,h1,h2⟩:=zbm hE
 split at h2
 ·rename_i hc
  split at h2
  ·rename_i xs gu
   obtain ⟨l,h3,h4⟩:=zmm h2
   cases h4
   refine ⟨rfl,fun hs q d=>?_,fun k o hk hg=>?_⟩
   ·simp only [cO]
    simp only [nu] at hs
    rw [hs.l.val,hv,Option.bind_some,hs.r.val,h1,Option.bind_some,if_pos hc]
    simp only [gu]
    simp only [h3,Option.map_some,jm]
   ·simp only [jm,get_put,if_neg hk]
    exact hg
  ·cases h2
 ·cases h2
theorem U2 {tm:List (Nat × PV)} {ob ob':List (Nat × Ob)} {x:dZ}:val ⟨tm,ob⟩ x = val ⟨tm,ob'⟩ x:=by
 cases x <;> rfl
theorem get_filter {α:Type} {l:List (Nat × α)} {p:Nat → Bool} {k:Nat} {o:α} (h:get (l.filter fun x=>p x.1) k = some o):p k = true ∧ get l k = some o:=by
 induction l with
 | nil=>cases h
 | cons q l ih =>
  obtain ⟨j,u⟩:=q
  rw [List.filter_cons] at h
  by_cases hp:p j = true
  ·rw [if_pos hp] at h
   unfold get at h ⊢
   by_cases hj:j = k
   ·rw [if_pos hj] at h ⊢
    exact ⟨hj ▸ hp,h⟩
   ·rw [if_neg hj] at h ⊢
    exact ih h
  ·rw [if_neg hp] at h
   obtain ⟨h1,h2⟩:=ih h
   refine ⟨h1,?_⟩
   unfold get
   rw [if_neg (by intro e;subst e;exact hp h1)]
   exact h2
theorem Ok.less (h:Ok bG w0 bF N jl σ a w) (ht:∀ p ∈ σ'.tm,p ∈ σ.tm) (ho:∀ p ∈ σ'.ob,p ∈ σ.ob):Ok bG w0 bF N jl σ' a w:=by
 obtain ⟨Fz,κ,hr,hk⟩:=h
 exact ⟨Fz,κ,hr.less ht ho,hk⟩
def Vis (pre:List (G × List Nat)) (l:Array Bool) (s:Nat):Prop:=∀ j (h:j < pre.length),¬ Dn l j → pre[j].1.dst ≠ some s
theorem U3 (hD:LD ops pre lV jR rest) (heq:∀ t ∈ X.eqs,lK P t) (l5:iN P Γ) (hC:eD P Γ) (hc:lJ P X ops N.ok ops.toList = some (pre.map (·.1) ++ (jR ++ rest))) (hQ:∀ a' w',Ok bG w0 bF N jl σ' a' w' → Q .normal a' w')
  {tm:List (Nat × PV)} {obS O6:List (Nat × Ob)} (SC:∀ p ∈ tm,get tm p.1 = some p.2)
  (hpv:∀ j (h:j < pre.length),j ∈ lV → ∃ pv s,mE Γ true ⟨tm,obS.filter (fun p=>!(jR.flatMap (sQ tm)).contains p.1)⟩ pre[j].1 = some (pv,s) ∧ ∀ s,pre[j].1.dst = some s → get tm s = some pv)
  (hE:xR Γ false rest ⟨tm,O6⟩ = some σ') :
  ∀ (fuel m:Nat) (l:Array Bool) (DV:List (Nat × PV)) (ob:List (Nat × Ob)) (a:Act) (w:World),l.size = ops.size → m ≤ jR.length → (∀ i,i < ops.size → pre.length ≤ i → (Dn l i ↔ i < pre.length + m)) → (∀ j,j < pre.length → j ∉ lV → Dn l j) → Down ops l → left l ≤ fuel →
   KX Γ tm (jR.drop m) ob = some O6 → (∀ k o,(jR.flatMap (sQ tm)).contains k = false → get obS k = some o → get ob k = some o) → (∀ s,Vis pre l s → get DV s = get tm s) → Ok bG w0 bF N jl ⟨DV,ob⟩ a w → wpAny P .any ops Q fuel l a w:=by
 intro fuel
 have hcg:=jY hc
 have hlen:=hD.len
 have over:∀ (fuel m:Nat) (l:Array Bool) (DV:List (Nat × PV)) (ob:List (Nat × Ob)) (a:Act) (w:World),l.size = ops.size → m = jR.length → (∀ i,i < ops.size → pre.length ≤ i → (Dn l i ↔ i < pre.length + m)) → (∀ j,j < pre.length → Dn l j) → Down ops l → left l ≤ fuel →
   KX Γ tm (jR.drop m) ob = some O6 → (∀ s,Vis pre l s → get DV s = get tm s) → Ok bG w0 bF N jl ⟨DV,ob⟩ a w → wpAny P .any ops Q fuel l a w:=by
  intro fuel m l DV ob a w hl hm hd hall hdn hf hL hv h
  subst hm
  rw [List.drop_of_length_le (Nat.le_refl _)] at hL
  cases hL
  refine UZ hD heq l5 hC hc hQ fuel (pre.length + jR.length) l ⟨tm,O6⟩ a w hl (Nat.le_refl _) (by omega) (fun i hi=>?_) hdn hf (h.less (fun p hp=>?_) (fun _ hp=>hp)) (by rw [Nat.sub_self,List.drop_zero];exact hE)
  ·by_cases hi':i < pre.length
   ·exact ⟨fun _=>by omega,fun _=>hall i hi'⟩
   ·exact hd i hi (by omega)
  ·have:=hv p.1 (fun j hj hnd=>absurd (hall j hj) hnd)
   rw [SC p hp] at this
   exact get_mem this
 induction fuel with
 | zero =>
  intro m l DV ob a w hl hm hd hfl hdn hf hL gu hv h
  have hdone:∀ i,i < ops.size → Dn l i:=by
   intro i hi
   apply Classical.byContradiction
   intro hn
   have:=nR (l:=l) (i:=i) (by omega) hn
   omega
  refine over 0 m l DV ob a w hl ?_ hd (fun j hj=>hdone j (by omega)) hdn hf hL hv h
  apply Classical.byContradiction
  intro hne
  have:=(hd (pre.length + m) (by omega) (by omega)).mp (hdone _ (by omega))
  omega
 | succ fuel ih =>
  intro m l DV ob a w hl hm hd hfl hdn hf hL gu hv h
  by_cases hfin:m = jR.length ∧ ∀ j,j < pre.length → Dn l j
  ·exact over (fuel + 1) m l DV ob a w hl hfin.1 hd hfin.2 hdn hf hL hv h
  ·have hex:∃ i,i < pre.length + jR.length ∧ i < ops.size ∧ ¬ Dn l i:=by
    apply Classical.byContradiction
    intro hno
    have hall:∀ i,i < pre.length + jR.length → i < ops.size → Dn l i:=fun i h1 h2=>Classical.byContradiction fun hn=>hno ⟨i,h1,h2,hn⟩
    refine hfin ⟨?_,fun j hj=>hall j (by omega) (by omega)⟩
    apply Classical.byContradiction
    intro hne
    have:=(hd (pre.length + m) (by omega) (by omega)).mp (hall _ (by omega) (by omega))
    omega
   obtain ⟨i0,hi0,aeL,hn0⟩:=hex
   rw [kX]
   refine ⟨fun hn=>absurd hn (pV hD hl aeL hn0),fun i hi=>?_⟩
   obtain ⟨hi1,hi2,hi3⟩:=(jf hl).mp hi
   have hset:∀ {j},Dn (l.setIfInBounds i true) j ↔ j = i ∨ Dn l j:=fun {j}=>Dn.set (by omega)
   have hleft:=nR (l:=l) (i:=i) (by omega) hi2
   unfold wpOp
   rw [Array.getElem?_eq_getElem hi1]
   have hg:=hcg.2 i (by simpa using hi1) (by simp;omega)
   by_cases U4:i < pre.length
   ·
    have hif:i ∈ lV:=Classical.byContradiction fun hn=>hi2 (hfl i U4 hn)
    rw [List.getElem_append_left (by simpa using U4)] at hg
    simp only [List.getElem_map,Array.getElem_toList] at hg
    obtain ⟨pv,s,h1,h2⟩:=hpv i U4 hif
    have hsame:Same (rd pre[i].1) ⟨tm,obS.filter (fun p=>!(jR.flatMap (sQ tm)).contains p.1)⟩ ⟨DV,ob⟩:=fun s hs=>hv s (fun j hj hnd he=>hnd (hi3 j (hD.data i U4 hi1 s hs j hj he)))
    obtain ⟨e1,e2⟩:=tF (σ2:=⟨DV,ob⟩) (hD.fl i hif U4) hsame (fun k o hk=>by
     obtain ⟨g1,g2⟩:=get_filter (p:=fun k=>!(jR.flatMap (sQ tm)).contains k) hk
     exact gu k o (by simpa using g1) g2) h1
    refine xu heq l5 hC hg h e2 fun a' w' h'=>?_
    refine ih m _ (sP pre[i].1.dst DV pv) ob a' w' (by simp [hl]) hm (fun j hj hj'=>?_) (fun j hj hjf=>hset.mpr (.inr (hfl j hj hjf))) (tH hdn hl hi1 hi3) (by omega) hL gu (fun s hs=>?_) ?_
    ·rw [hset,hd j hj hj']
     omega
    ·rw [pW]
     split
     ·rename_i he
      exact (h2 s he).symm
     ·rename_i he
      refine hv s (fun j hj hnd hjs=>?_)
      by_cases hji:j = i
      ·subst hji;exact he hjs
      ·exact hs j hj (fun hdj=>by rcases hset.mp hdj with h | h;exact hji h;exact hnd h) hjs
    ·cases hdst:pre[i].1.dst with
     | none=>rw [hdst] at h';exact h'
     | some s=>rw [hdst] at h';exact h'
   ·
    have him:i = pre.length + m ∧ m < jR.length:=by
     have hge:pre.length + m ≤ i:=by
      apply Classical.byContradiction
      intro hlt
      exact hi2 ((hd i hi1 (by omega)).mpr (by omega))
     have hlt':i < pre.length + jR.length:=by
      apply Classical.byContradiction
      intro hnl
      rcases hD.tl i (by omega) hi1 i0 (by omega) with hb | ⟨_,_,hb⟩
      ·exact hn0 (hdn.YS hD hb (fun _=>hi3))
      ·omega
     refine ⟨?_,by omega⟩
     apply Classical.byContradiction
     intro hne
     have hnm:¬ Dn l (pre.length + m):=fun hh=>by have:=(hd (pre.length + m) (by omega) (by omega)).mp hh;omega
     rcases hD.tl i (by omega) hi1 (pre.length + m) (by omega) with hb | ⟨hb,_,_⟩
     ·exact hnm (hdn.YS hD hb (fun _=>hi3))
     ·omega
    obtain ⟨rfl,hml⟩:=him
    rw [List.getElem_append_right (by simp),List.getElem_append_left (by simpa using hml)] at hg
    simp only [List.length_map,Array.getElem_toList,Nat.add_sub_cancel_left] at hg
    rw [List.drop_eq_getElem_cons hml] at hL
    have hlg:=hD.lt' _ (List.getElem_mem hml)
    have hld:=hD.ld m hml hi1
    have hkey:∀ k,k ∈ sQ tm jR[m] → (jR.flatMap (sQ tm)).contains k = true:=fun k hk=>by
     rw [List.contains_iff_mem]
     exact List.mem_flatMap.mpr ⟨_,List.getElem_mem hml,hk⟩
    generalize jR[m] = g at hg hL hlg hld hkey
    obtain ⟨gd,gg,gi⟩:=g
    unfold isLt at hlg
    simp only [Bool.and_eq_true] at hlg
    obtain ⟨⟨hl1,hl2⟩,hl3⟩:=hlg
    have hgd:gd = none:=by cases gd <;> simp_all
    have hgg:gg = none:=by cases gg <;> simp_all
    subst hgd
    subst hgg
    cases gi with
    | store n x y =>
     simp only [KX] at hL
     split at hL
     ·rename_i key off hval
      obtain ⟨p,h1,h2⟩:=zbm hL
      obtain ⟨pv,s⟩:=p
      have hsame:Same (nu (.store n x y)) ⟨tm,ob⟩ ⟨DV,ob⟩:=fun s hs=>hv s (fun j hj hnd he=>hnd (hi3 j (hld s (by unfold rd;exact List.mem_append_left _ hs) j hj he)))
      obtain ⟨e1,e2,e3⟩:=U1 (tm2:=DV) hval h1
      have e2':=e2 hsame true 999
      refine xu (q:=true) (pv:=pv) (σ':=⟨DV,s.ob⟩) heq l5 hC hg h (by simp only [mE,zN,Option.bind_some,if_true];exact e2') fun a' w' h'=>?_
      refine ih (m + 1) _ DV s.ob a' w' (by simp [hl]) (by omega) (fun j hj hj'=>?_) (fun j hj hjf=>hset.mpr (.inr (hfl j hj hjf))) (tH hdn hl hi1 hi3) (by omega) h2 (fun k o hk hg'=>?_) (fun s hs=>hv s (fun j hj hnd=>hs j hj (fun hdj=>by rcases hset.mp hdj with h | h;omega;exact hnd h))) h'
      ·rw [hset,hd j hj hj']
       omega
      ·refine e3 k o (fun e=>?_) (gu k o hk hg')
       subst e
       have hv0:val ⟨tm,[]⟩ x = some (.one (.ptr k off)):=(U2 (ob':=ob)).trans hval
       have:=hkey k (by simp only [sQ,hv0,List.mem_singleton])
       rw [this] at hk;cases hk
     ·cases hL
    | _=>simp at hl3
end
end Go.Proofs.Ytfokaoeinpnagaa.Ev
namespace Go.Proofs.Ytfokaoeinpnagaa.Ev
open Go
section
variable {P : Program} {Γ:Env} {bG:Nat → Prop} {w0 w w':World} {bF:List Nat} {N:Fr} {jl:Nat → Value} {σ fH σ':St} {a:Act} {X:Hx} {ops:Array Oper} {pre:List (G × List Nat)} {lV:List Nat} {jR rest:List G} {l:Array Bool} {Q:Exit → Act → World → Prop}
theorem Ce {α:Type} {ks:List Nat} {l:List (Nat × α)} {p:Nat × α} (h:p ∈ pick ks l):get l p.1 = some p.2:=by
 unfold pick at h
 obtain ⟨i,_,h2⟩:=List.mem_filterMap.mp h
 obtain ⟨v,h3,h4⟩:=zmm h2
 subst h4
 exact h3
theorem DW {α:Type} {l:List (Nat × α)} {s:Nat}:∀ {ks:List Nat},get (pick ks l) s = if s ∈ ks then get l s else none
 | []=>rfl
 | k :: ks=>by
  have ih:=DW (l:=l) (s:=s) (ks:=ks)
  unfold pick at ih ⊢
  rw [List.filterMap_cons]
  cases hg:get l k with
  | none =>
   simp only [Option.map_none]
   rw [ih]
   by_cases hk:s = k
   ·subst hk;simp [hg]
   ·simp [hk]
  | some v =>
   simp only [Option.map_some]
   conv=>lhs;unfold get
   by_cases hk:k = s
   ·subst hk;simp [hg]
   ·rw [if_neg hk,ih]
    have:¬ s = k:=fun e=>hk e.symm
    simp [this]
theorem get_none {α:Type} {l:List (Nat × α)} {s:Nat} (h:s ∉ l.map (·.1)):get l s = none:=by
 cases hg:get l s with
 | none=>rfl
 | some v=>exact absurd (List.mem_map.mpr ⟨_,get_mem hg,rfl⟩) h
theorem O7 {α:Type} {l:List (Nat × α)} {s:Nat}:get (pick (l.map (·.1)) l) s = get l s:=by
 rw [DW]
 split
 ·rfl
 ·rename_i h;exact (get_none h).symm
theorem aeM (hD:LD ops pre lV jR rest) (hall:∀ j,j < pre.length → ∃ pv st,Can Γ fH.ob pre fH.tm j pv st) (hfr:∀ i (h:i < pre.length),jc pre[i].1.i = true → fresh fH (dF (pre[i].1.dst.getD 999)) = true)
  {i:Nat} {pv:PV} {st:St} (hc:Can Γ fH.ob pre fH.tm i pv st) (hN:jc (pre[i]'hc.lt).1.i = true):∀ p ∈ st.ob.take 1,p.1 = dF ((pre[i]'hc.lt).1.dst.getD 999):=by
 have hi:=hc.lt
 obtain ⟨c1,c2,c3⟩:=tJ hD hall i (by omega)
 have hgd:pre[i].1.gd = none:=by
  rcases hD.cls i hi with h | h
  ·exact (Cc h hN).elim
  ·exact h.2
 have hfc:fresh ⟨ji Γ fH.ob pre fH.tm i,fH.ob⟩ (dF (pre[i].1.dst.getD 999)) = true:=by
  obtain ⟨f1,f2⟩:=jF.mp (hfr i hi hN)
  refine jF.mpr ⟨f1,fun p hp=>?_⟩
  rcases c3 p hp with h | ⟨j,pv',st',h1,h2,h3⟩
  ·exact f2 p h
  ·rcases hD.nk i j hi h2.lt (by omega) hN with h4 | h4
   ·rw [h3];exact (h2.nk _ h4).1
   ·have:=h4.lt hD;omega
 obtain ⟨o,e1,_⟩:=LC (σ2:=⟨ji Γ fH.ob pre fH.tm i,fH.ob⟩) hN hgd (fun _ _=>rfl) hfc hfc hc.ev
 intro p hp
 rw [e1] at hp
 simp at hp
 rw [hp]
theorem U5 (hD:LD ops pre lV jR rest) (heq:∀ t ∈ X.eqs,lK P t) (l5:iN P Γ) (hC:eD P Γ) (hc:lJ P X ops N.ok ops.toList = some (pre.map (·.1) ++ (jR ++ rest))) (hQ:∀ a' w',Ok bG w0 bF N jl σ' a' w' → Q .normal a' w')
  (hall:∀ j,j < pre.length → ∃ pv st,Can Γ fH.ob pre fH.tm j pv st) (hfr:∀ i (h:i < pre.length),jc pre[i].1.i = true → fresh fH (dF (pre[i].1.dst.getD 999)) = true)
  {tm:List (Nat × PV)} {sob O6 news':List (Nat × Ob)} (SC:tm = pick ((ji Γ fH.ob pre fH.tm pre.length).map (·.1)) (ji Γ fH.ob pre fH.tm pre.length))
  (YU:sob = news' ++ fH.ob) (hnews:∀ p ∈ news',∃ j pv st,∃ (h:Can Γ fH.ob pre fH.tm j pv st),jc (pre[j]'h.lt).1.i = true ∧ p ∈ st.ob.take 1)
  (O8:lV.all (fun j=>(mE Γ true ⟨tm,fH.ob.filter (fun p=>!(jR.flatMap (sQ tm)).contains p.1)⟩ (pre.getD j default).1).isSome) = true)
  (hL:KX Γ tm jR sob = some O6) (hE:xR Γ false rest ⟨tm,O6⟩ = some σ') :
  ∀ (fuel:Nat) (l:Array Bool) (σ:St) (a:Act) (w:World),l.size = ops.size → (∀ i,pre.length ≤ i → ¬ Dn l i) → Down ops l → left l ≤ fuel → Ok bG w0 bF N jl σ a w → LG Γ pre fH l σ → wpAny P .any ops Q fuel l a w:=by
 intro fuel
 have hcg:=jY hc
 have hlen:=hD.len
 obtain ⟨c1,c2,c3⟩:=tJ (Γ:=Γ) hD hall pre.length (Nat.le_refl _)
 have htg:∀ s,get tm s = get (ji Γ fH.ob pre fH.tm pre.length) s:=fun s=>by rw [SC];exact O7
 have aeN:∀ p ∈ tm,get tm p.1 = some p.2:=fun p hp=>by
  rw [htg]
  rw [SC] at hp
  exact Ce hp
 have hpv:∀ j (h:j < pre.length),j ∈ lV → ∃ pv s,mE Γ true ⟨tm,fH.ob.filter (fun p=>!(jR.flatMap (sQ tm)).contains p.1)⟩ pre[j].1 = some (pv,s) ∧ ∀ s,pre[j].1.dst = some s → get tm s = some pv:=by
  intro j h hj
  have h1:=List.all_eq_true.mp O8 j hj
  rw [List.getD_eq_getElem?_getD,List.getElem?_eq_getElem h,Option.getD_some] at h1
  obtain ⟨q,hq⟩:=Option.isSome_iff_exists.mp h1
  obtain ⟨pv',s'⟩:=q
  refine ⟨pv',s',hq,fun s hs=>?_⟩
  obtain ⟨pv,st,hcj⟩:=hall j h
  obtain ⟨d1,d2,d3⟩:=tJ (Γ:=Γ) hD hall j (by omega)
  have hV:=hD.fl j hj h
  obtain ⟨_,g1⟩:=tF (σ:=⟨tm,fH.ob.filter (fun p=>!(jR.flatMap (sQ tm)).contains p.1)⟩) (σ2:=⟨tm,fH.ob⟩) hV (fun _ _=>rfl) (fun k o hk=>(get_filter (p:=fun k=>!(jR.flatMap (sQ tm)).contains k) hk).2) hq
  have hsame:Same (rd pre[j].1) ⟨ji Γ fH.ob pre fH.tm j,fH.ob⟩ ⟨tm,fH.ob⟩:=by
   intro s hs
   show get tm s = get (ji Γ fH.ob pre fH.tm j) s
   rw [htg]
   by_cases hw:∃ i,∃ (hi:i < pre.length),pre[i].1.dst = some s
   ·obtain ⟨i,hi,his⟩:=hw
    have hie:=hD.data j h (by omega) s hs i hi his
    obtain ⟨pv',st',hc'⟩:=hall i hi
    rw [c1 i pv' st' hc' hi s his,d1 i pv' st' hc' (hD.lt j (by omega) i hie) s his]
   ·have hw':∀ i (h:i < pre.length),pre[i].1.dst ≠ some s:=fun i h e=>hw ⟨i,h,e⟩
    rw [c2 s (fun i h _=>hw' i h),d2 s (fun i h _=>hw' i h)]
  obtain ⟨_,g2⟩:=tF (σ2:=⟨tm,fH.ob⟩) hV hsame (fun k o hk=>hk) hcj.ev
  rw [g1] at g2
  simp only [Option.some.injEq,Prod.mk.injEq] at g2
  rw [htg,c1 j pv st hcj h s hs,g2.1]
 have over:∀ (fuel:Nat) (l:Array Bool) (σ:St) (a:Act) (w:World),l.size = ops.size → (∀ i,pre.length ≤ i → ¬ Dn l i) → Down ops l → left l ≤ fuel → Ok bG w0 bF N jl σ a w → LG Γ pre fH l σ → (∀ i,i < pre.length → i ∉ lV → Dn l i) → wpAny P .any ops Q fuel l a w:=by
  intro fuel l σ a w hl hno hdn hf h hI hdone
  refine U3 (tm:=tm) (obS:=fH.ob) (O6:=O6) hD heq l5 hC hc hQ aeN hpv hE fuel 0 l σ.tm sob a w hl (Nat.zero_le _) (fun i hi U4=>⟨fun hd=>absurd hd (hno i U4),fun hd=>by omega⟩) hdone hdn hf (by rw [List.drop_zero];exact hL) (fun k o _ hk=>?_) (fun s hs=>?_) (h.less (fun _ hp=>hp) (fun p hp=>?_))
  ·rw [YU,Ia]
   ·exact hk
   ·intro p hp e
    obtain ⟨j,pv,st,hcj,hN,hpt⟩:=hnews p hp
    have hk':=aeM hD hall hfr hcj hN p hpt
    have:=(jF.mp (hfr j hcj.lt hN)).1 _ (get_mem hk)
    exact this.1 (by show k = _;rw [← e,hk'])
  ·rw [htg]
   by_cases hw:∃ j,∃ (h:j < pre.length),pre[j].1.dst = some s
   ·obtain ⟨j,hj,hjs⟩:=hw
    obtain ⟨pv,st,hcj⟩:=hall j hj
    have hdj:Dn l j:=Classical.byContradiction fun hn=>hs j hj hn hjs
    rw [c1 j pv st hcj hj s hjs]
    exact hI.tg1 j pv st hcj hdj s hjs
   ·have hw':∀ j (h:j < pre.length),pre[j].1.dst ≠ some s:=fun j h e=>hw ⟨j,h,e⟩
    rw [c2 s (fun j h _=>hw' j h)]
    exact hI.tg2 s (fun j h _=>hw' j h)
  ·rw [YU] at hp
   rcases List.mem_append.mp hp with hp | hp
   ·obtain ⟨j,pv,st,hcj,hN,hpt⟩:=hnews p hp
    refine hI.ob2 j pv st hcj (hdone j hcj.lt (fun hj=>?_)) hN p hpt
    exact Cc (hD.fl j hj hcj.lt) hN
   ·obtain ⟨news,ho,_⟩:=hI.ob1
    rw [ho]
    exact List.mem_append_right _ hp
 induction fuel with
 | zero =>
  intro l σ a w hl hno hdn hf h hI
  refine over 0 l σ a w hl hno hdn hf h hI fun i hi _=>?_
  apply Classical.byContradiction
  intro hn
  have:=nR (l:=l) (i:=i) (by omega) hn
  omega
 | succ fuel ih =>
  intro l σ a w hl hno hdn hf h hI
  by_cases hdone:∀ i,i < pre.length → i ∉ lV → Dn l i
  ·exact over (fuel + 1) l σ a w hl hno hdn hf h hI hdone
  ·have:∃ i,i < pre.length ∧ i ∉ lV ∧ ¬ Dn l i:=by
    apply Classical.byContradiction
    intro hc
    exact hdone fun i hi hif=>Classical.byContradiction fun hn=>hc ⟨i,hi,hif,hn⟩
   obtain ⟨i0,hi0,aeO,hn0⟩:=this
   rw [kX]
   refine ⟨fun hn=>absurd hn (pV hD hl (by omega) hn0),fun i hi=>?_⟩
   obtain ⟨hi1,hi2,hi3⟩:=(jf hl).mp hi
   have him:i < pre.length:=by
    apply Classical.byContradiction
    intro hge
    rcases hD.tl i (by omega) hi1 i0 (by omega) with hb | ⟨_,hb,_⟩
    ·exact hn0 (hdn.YS hD hb (fun _=>hi3))
    ·exact aeO hb
   obtain ⟨pv,σ1,h1,h2⟩:=YT hD hall hfr hI hl hdn him hi1 hi2 hi3
   unfold wpOp
   rw [Array.getElem?_eq_getElem hi1]
   have hg:=hcg.2 i (by simpa using hi1) (by simp;omega)
   rw [List.getElem_append_left (by simpa using him)] at hg
   simp only [List.getElem_map,Array.getElem_toList] at hg
   refine xu heq l5 hC hg h h1 fun a' w' h'=>?_
   refine ih _ _ a' w' (by simp [hl]) (fun j hj hd=>?_) (tH hdn hl hi1 hi3) ?_ h' h2
   ·rcases (Dn.set (by omega)).mp hd with rfl | hd
    ·omega
    ·exact hno j hj hd
   ·have:=nR (l:=l) (i:=i) (by omega) hi2
    omega
theorem U6 {id:Nat} (hm:P.follows .mixedOrders = true) (hD:LD ops pre lV jR rest) (heq:∀ t ∈ X.eqs,lK P t) (l5:iN P Γ) (hC:eD P Γ) (hc:lJ P X ops N.ok ops.toList = some (pre.map (·.1) ++ (jR ++ rest))) (h:Ok bG w0 bF N jl σ a w) (hE:Xl Γ pre lV jR rest σ = some σ')
  (hQ:∀ a' w',Ok bG w0 bF N jl σ' a' w' → Q .normal a' w'):(Code.region id ops true).wp P Q a w:=by
 refine wp_region_any hm ?_
 unfold Xl at hE
 split at hE
 ·rename_i hfr
  obtain ⟨s,h1,h2⟩:=zbm hE
  split at h2
  ·rename_i O8
   obtain ⟨ob,h3,h4⟩:=zbm h2
   obtain ⟨e1,e2,news,e3,e4⟩:=DT (Γ:=Γ) (q9:=σ.ob) (pre:=pre) (zS:=σ.tm) pre.length 0 σ.ob s (by omega) (by rw [List.drop_zero];exact h1)
   have hall:∀ j,j < pre.length → ∃ pv st,Can Γ σ.ob pre σ.tm j pv st:=fun j hj=>e1 j (by omega) hj
   have YV:∀ i (h:i < pre.length),jc pre[i].1.i = true → fresh σ (dF (pre[i].1.dst.getD 999)) = true:=by
    intro i hi hN
    have:=List.all_eq_true.mp hfr pre[i] (List.getElem_mem hi)
    rw [hN] at this
    exact this
   have hoff:∀ i,¬ Dn (Array.replicate ops.size false) i:=by
    intro i hd
    unfold Dn at hd
    rw [Array.getD_eq_getD_getElem?,Array.getElem?_replicate] at hd
    split at hd <;> simp at hd
   rw [e2] at O8 h3 h4
   refine U5 (fH:=σ) hD heq l5 hC hc hQ hall YV rfl e3 (fun p hp=>?_) O8 h3 h4 ops.size _ σ a _ (by simp) (fun i _=>hoff i) (fun i hi hd=>absurd hd (hoff i)) ?_ ?_ ⟨fun i pv st h hd=>absurd hd (hoff i),fun s _=>rfl,⟨[],rfl,fun p hp=>by simp at hp⟩,fun i pv st h hd=>absurd hd (hoff i),fun i hi hN _=>YV i hi hN⟩
   ·obtain ⟨j,pv,st,_,_,h5,h6,h7⟩:=e4 p hp
    exact ⟨j,pv,st,h5,h6,h7⟩
   ·unfold left
    exact Nat.le_trans (List.length_filter_le _ _) (by simp)
   ·obtain ⟨Fz,κ,hr,hk⟩:=h
    exact ⟨Fz,κ,hr.grow (w':={ w with drawn:=w.drawn + 1 }) (Nat.le_refl _) (fun _ _=>rfl) ⟨rfl,rfl⟩,hk⟩
  ·cases h2
 ·cases hE
end
end Go.Proofs.Ytfokaoeinpnagaa.Ev
namespace Go.Proofs.Ytfokaoeinpnagaa.Ev
open Go
def kS : List (List Nat) → List (List Nat) → List (List Nat)
 | acc,[]=>acc
 | acc,es :: l=>kS (acc ++ [(List.range acc.length).filter fun x=>es.any fun e=>e == x || (acc.getD e []).contains x]) l
def Cg : List G → Nat
 | []=>0
 | g :: l=>if O4 g.i || (jc g.i && g.gd.isNone) then Cg l + 1 else 0
def Xn {α:Type} (n:Nat) (k:Nat → α):α:=match n with
 | 0=>k 0
 | j + 1=>k (j + 1)
theorem LH {α:Type} {n:Nat} {k:Nat → α}:Xn n k = k n:=by cases n <;> rfl
def YW : Nat → List (List Nat) → Nat
 | i,[]=>i
 | i,es :: l=>Xn (YW (i + 1) l) fun r=>if r == i + 1 && es.length == i then i else r
def YX (C:List (List Nat)) (gs:List G):Nat:=min (Cg gs) (YW 0 C)
def LJ (gs:List G) (C:List (List Nat)) (m j:Nat):List Nat:=((List.range m).filter fun i=>i != j && jc (gs.getD i default).i && !(C.getD j []).contains i).map fun i=>dF ((gs.getD i default).dst.getD 999)
def SE : List G → Nat
 | []=>0
 | g :: l=>if isLt g then SE l + 1 else 0
def YZ (C:List (List Nat)) (m nl:Nat):List Nat:=(List.range m).filter fun j=>(List.range nl).any fun t=>!(C.getD (m + t) []).contains j
def aeP (lV:List Nat) (n:Nat):Nat:=if lV.isEmpty then 0 else n
def U7 (E C:List (List Nat)) (gs:List G) (n m:Nat) (lV:List Nat) (nl:Nat):Bool :=
 (List.range n).all (fun i=>(E.getD i []).all (· < i)) &&
 (List.range m).all (fun i=>(rd (gs.getD i default)).all fun s=>(List.range m).all fun j=>!((gs.getD j default).dst == some s) || (E.getD i []).contains j) &&
 (List.range m).all (fun i=>(List.range m).all fun j=>i == j || (gs.getD i default).dst.isNone || !((gs.getD i default).dst == (gs.getD j default).dst)) &&
 (List.range m).all (fun i=>O4 (gs.getD i default).i || (jc (gs.getD i default).i && (gs.getD i default).gd.isNone)) &&
 (List.range n).all (fun k=>k < m || (List.range k).all fun j=>(C.getD k []).contains j || (j < m && lV.contains j && k < m + nl)) &&
 lV.all (fun j=>O4 (gs.getD j default).i) &&
 ((gs.drop m).take nl).all isLt &&
 (List.range nl).all (fun t=>(rd (gs.getD (m + t) default)).all fun s=>(List.range m).all fun j=>!((gs.getD j default).dst == some s) || (E.getD (m + t) []).contains j)
structure Hi where
 ks:List Nat
 Dm:List Nat
 rws:List (Nat × Nat)
def Y0 (k:Array Bool → Option (List (List Nat))) (l:Array Bool):List Nat → Option (List (List Nat))
 | []=>some []
 | i :: is=>(k (l.setIfInBounds i true)).bind fun a=>(Y0 k l is).map fun b=>a.map (i :: ·) ++ b
def U8 (ops:Array Oper) (i:Nat):Bool:=match ops[i]? with
 | some o=>(match o.op with
  | .move _=>true
  | .assign _=>true
  | .fieldAddr _ _ _=>true
  | .build _ _=>true
  | .extract _ _=>true
  | _=>false)
 | none=>false
def exts (ops:Array Oper):Nat → Array Bool → Option (List (List Nat))
 | 0,l=>if Region.ready .any ops l = [] then some [[]] else none
 | n + 1,l=>match Region.ready .any ops l with
  | []=>some [[]]
  | i :: is=>match (i :: is).find? (fun j=>U8 ops j && Region.free .any ops l j) with
   | some j=>(exts ops n (l.setIfInBounds j true)).map fun a=>a.map (j :: ·)
   | none=>Y0 (exts ops n) l (i :: is)
def Y1 : Nat → List Nat → Nat
 | i,[]=>i
 | i,j :: l=>if i == j then Y1 (i + 1) l else i
def DX (C:List (List Nat)):Nat → Nat → Nat
 | 0,_=>C.length
 | n + 1,k=>Xn (DX C n (k + 1)) fun r=>Xn (Y1 0 (C.getD k [])) fun p=>if p < k then min p r else r
def Ib (E C:List (List Nat)) (n h:Nat):Bool:=(List.range n).all (fun i=>(E.getD i []).all (· < i)) && (List.range n).all fun k=>(C.getD k []).take (min k h) == List.range (min k h)
def mask (h n:Nat):Array Bool:=(List.replicate h true ++ List.replicate (n - h) false).toArray
def LK (ops:Array Oper):Option (List (List Nat)) :=
 let E:=ops.toList.map jG
 let C:=kS [] E
 Xn (DX C ops.size 0) fun h=>if h ≤ ops.size ∧ Ib E C ops.size h = true then (exts ops (ops.size - h) (mask h ops.size)).map fun a=>a.map (List.range h ++ ·) else none
def Y2 (P:Program) (X:Hx) (N:Nat → Bool) (ops:Array Oper) (draw:Bool) (ks Dm:List Nat):Option CC :=
 (lJ P X ops N ops.toList).bind fun gs=>match draw with
  | false=>some (.reg gs ks)
  | true=>match Dm with
   | _ :: _=>if Region.noSelect ops then (LK ops).map fun o=>.any gs o ks Dm else none
   | [] =>
   let E:=ops.toList.map jG
   let C:=kS [] E
   Xn (YX C gs) fun m =>
   let nl0:=SE (gs.drop m)
   let lV:=YZ C m nl0
   let nl:=aeP lV nl0
   if U7 E C gs ops.size m lV nl then some (.sG ((List.range m).map fun j=>(gs.getD j default,LJ gs C m j)) lV ((gs.drop m).take nl) ((gs.drop m).drop nl) ks) else none
def comp (P:Program) (X:Hx) (N:Nat → Bool):Code → List Hi → Option (CC × List Hi)
 | .skip,h=>some (.skip,h)
 | .region _ ops draw,h=>match h with
  | []=>none
  | k :: h=>(Y2 P X N ops draw k.ks k.Dm).map fun c=>(c,h)
 | .seq x y,h=>(comp P X N x h).bind fun p=>(comp P X N y p.2).map fun r=>(.seq p.1 r.1,r.2)
 | .cond c x y,h=>(fM c).bind fun o=>(comp P X N x h).bind fun p=>(comp P X N y p.2).map fun r=>(.cond o p.1 r.1,r.2)
 | .block id c,h=>(comp P X N c h).map fun p=>(.block id p.1,p.2)
 | .loop c,h=>match h with
  | []=>none
  | k :: h=>(comp P X N c h).map fun p=>(.loop k.ks k.Dm k.rws p.1,p.2)
 | .exit id,h=>some (.exit id,h)
 | .ret,h=>some (.ret,h)
 | .scope c,h=>comp P X N c h
 | .label _,h=>some (.skip,h)
 | _,_=>none
section
variable {P : Program} {Γ:Env} {bG:Nat → Prop} {w0 w w':World} {bF:List Nat} {N:Fr} {F:Nat} {jl:Nat → Value} {σ fH σ':St} {a:Act} {X:Hx} {ops:Array Oper} {gs:List G} {Q:Exit → Act → World → Prop}
theorem yH : ∀ (l acc:List (List Nat)),(∀ j,∀ x ∈ acc.getD j [],JE ops x j) → (∀ k,k < l.length → ∃ h:acc.length + k < ops.size,l[k]? = some (jG ops[acc.length + k])) → ∀ j,∀ x ∈ (kS acc l).getD j [],JE ops x j
 | [],acc,h,_=>h
 | es :: l,acc,h,hl=>by
  unfold kS
  obtain ⟨h0,h1⟩:=hl 0 (by simp)
  simp only [List.getElem?_cons_zero,Option.some.injEq,Nat.add_zero] at h1
  refine yH l _ (fun j x hx=>?_) (fun k hk=>?_)
  ·rw [List.getD_eq_getElem?_getD,List.getElem?_append] at hx
   split at hx
   ·rename_i hj
    exact h j x (by rw [List.getD_eq_getElem?_getD];exact hx)
   ·by_cases hj:j - acc.length = 0
    ·have hje:j = acc.length:=by omega
     subst hje
     simp only [Nat.sub_self,List.getElem?_cons_zero,Option.getD_some] at hx
     obtain ⟨_,hx⟩:=List.mem_filter.mp hx
     obtain ⟨e,he,hor⟩:=List.any_eq_true.mp hx
     rw [h1] at he
     rw [Bool.or_eq_true] at hor
     rcases hor with hor | hor
     ·have:e = x:=by simpa using hor
      subst this
      exact .dir h0 he
     ·exact .step h0 he (h e x (by simpa using hor))
    ·rw [List.getElem?_eq_none (by simp;omega)] at hx
     simp at hx
  ·obtain ⟨h2,h3⟩:=hl (k + 1) (by simpa using hk)
   simp only [List.length_append,List.length_cons,List.length_nil]
   refine ⟨by omega,?_⟩
   simp only [List.getElem?_cons_succ] at h3
   rw [h3]
   congr 3
   omega
theorem Av : ∀ (gs:List G),Cg gs ≤ gs.length
 | []=>Nat.le_refl _
 | g :: l=>by
  unfold Cg
  have:=Av l
  split <;> simp <;> omega
theorem O9 (C:List (List Nat)) (gs:List G):YX C gs ≤ gs.length:=by
 exact Nat.le_trans (Nat.min_le_left _ _) (Av gs)
theorem JF {lV:List Nat} {nl m:Nat} (hm:m ≤ gs.length) (h:lJ P X ops N.ok ops.toList = some gs) (hb:U7 (ops.toList.map jG) (kS [] (ops.toList.map jG)) gs ops.size m lV nl = true) :
  LD ops ((List.range m).map fun j=>(gs.getD j default,LJ gs (kS [] (ops.toList.map jG)) m j)) lV ((gs.drop m).take nl) ((gs.drop m).drop nl) ∧
  ((List.range m).map fun j=>(gs.getD j default,LJ gs (kS [] (ops.toList.map jG)) m j)).map (·.1) ++ ((gs.drop m).take nl ++ (gs.drop m).drop nl) = gs:=by
 obtain ⟨hlen,_⟩:=jY h
 rw [Array.length_toList] at hlen
 unfold U7 at hb
 simp only [Bool.and_eq_true] at hb
 obtain ⟨⟨⟨⟨⟨⟨⟨b1,b2⟩,b3⟩,b4⟩,b5⟩,b6⟩,b7⟩,b8⟩:=hb
 have hE:∀ i (hi:i < ops.size),(ops.toList.map jG).getD i [] = jG ops[i]:=by
  intro i hi
  rw [List.getD_eq_getElem?_getD,List.getElem?_map,Array.getElem?_toList,Array.getElem?_eq_getElem hi]
  rfl
 have hC:∀ j,∀ x ∈ (kS [] (ops.toList.map jG)).getD j [],JE ops x j:=yH _ _ (fun j x hx=>by simp at hx) (fun k hk=>by
  have hk':k < ops.size:=by simpa using hk
  refine ⟨by simpa using hk',?_⟩
  rw [List.getElem?_map,Array.getElem?_toList,Array.getElem?_eq_getElem hk']
  simp)
 refine ⟨⟨?_,fun i hi e he=>?_,fun i hi hi' s hs j hj hjs=>?_,fun i j hi hj hne s h1 h2=>?_,fun i hi=>?_,fun i j hi hj hne hN=>?_,fun k h1 h2 j hj=>?_,fun j hj h=>?_,fun g hg=>List.all_eq_true.mp b7 g hg,fun t ht ht' s hs j hj hjs=>?_⟩,?_⟩
 ·simp only [List.length_map,List.length_range,List.length_drop,List.length_take]
  omega
 ·have:=List.all_eq_true.mp b1 i (List.mem_range.mpr hi)
  rw [hE i hi] at this
  have:=List.all_eq_true.mp this e he
  simpa using this
 ·simp only [List.length_map,List.length_range] at hi hj
  simp only [List.getElem_map,List.getElem_range] at hs hjs
  have:=List.all_eq_true.mp b2 i (List.mem_range.mpr hi)
  have:=List.all_eq_true.mp this s hs
  have:=List.all_eq_true.mp this j (List.mem_range.mpr hj)
  rw [hjs,hE i hi'] at this
  simpa using this
 ·simp only [List.length_map,List.length_range] at hi hj
  simp only [List.getElem_map,List.getElem_range] at h1 h2
  have:=List.all_eq_true.mp b3 i (List.mem_range.mpr hi)
  have:=List.all_eq_true.mp this j (List.mem_range.mpr hj)
  rw [h1,h2] at this
  simp [hne] at this
 ·simp only [List.length_map,List.length_range] at hi
  have:=List.all_eq_true.mp b4 i (List.mem_range.mpr hi)
  simp only [List.getElem_map,List.getElem_range]
  rw [Bool.or_eq_true,Bool.and_eq_true] at this
  rcases this with h | h
  ·exact .inl h
  ·exact .inr ⟨h.1,by simpa using h.2⟩
 ·simp only [List.length_map,List.length_range] at hi hj
  simp only [List.getElem_map,List.getElem_range] at hN ⊢
  cases hcc:((kS [] (ops.toList.map jG)).getD j []).contains i with
  | true=>exact .inr (hC j i (by simpa using hcc))
  | false =>
   left
   unfold LJ
   refine List.mem_map.mpr ⟨i,List.mem_filter.mpr ⟨List.mem_range.mpr hi,?_⟩,rfl⟩
   rw [hN,hcc]
   simp [hne]
 ·simp only [List.length_map,List.length_range] at h1 ⊢
  have:=List.all_eq_true.mp b5 k (List.mem_range.mpr h2)
  rw [Bool.or_eq_true] at this
  rcases this with h | h
  ·have:k < m:=by simpa using h
   omega
  ·have:=List.all_eq_true.mp h j (List.mem_range.mpr hj)
   rw [Bool.or_eq_true,Bool.and_eq_true,Bool.and_eq_true] at this
   rcases this with h | ⟨⟨g1,g2⟩,g3⟩
   ·exact .inl (hC k j (by simpa using h))
   ·refine .inr ⟨by simpa using g1,by simpa using g2,?_⟩
    have g3':k < m + nl:=by simpa using g3
    simp only [List.length_take,List.length_drop]
    omega
 ·simp only [List.length_map,List.length_range] at h
  simp only [List.getElem_map,List.getElem_range]
  exact List.all_eq_true.mp b6 j hj
 ·simp only [List.length_map,List.length_range] at hj ht' ⊢
  simp only [List.length_take,List.length_drop] at ht
  simp only [List.getElem_map,List.getElem_range] at hjs
  have h1:=List.all_eq_true.mp b8 t (List.mem_range.mpr (by omega))
  have hgt:((gs.drop m).take nl)[t]'(by simp only [List.length_take,List.length_drop];omega) = gs.getD (m + t) default:=by
   rw [List.getElem_take,List.getElem_drop,List.getD_eq_getElem?_getD,List.getElem?_eq_getElem (by omega)]
   rfl
  rw [hgt] at hs
  have h2:=List.all_eq_true.mp h1 s hs
  have h3:=List.all_eq_true.mp h2 j (List.mem_range.mpr hj)
  rw [hjs,hE _ ht'] at h3
  simpa using h3
 ·rw [List.map_map]
  have:((List.range m).map ((fun x:G × List Nat=>x.1) ∘ fun j=>(gs.getD j default,LJ gs (kS [] (ops.toList.map jG)) m j))) = gs.take m:=by
   refine List.ext_getElem (by simp;omega) fun i h1 h2=>?_
   simp only [List.length_map,List.length_range] at h1
   simp only [List.getElem_map,List.getElem_range,Function.comp,List.getElem_take]
   rw [List.getD_eq_getElem?_getD,List.getElem?_eq_getElem (by omega)]
   rfl
  rw [this,List.take_append_drop,List.take_append_drop]
def F6 : Out → Exit
 | .jd=>.normal
 | .ext id=>.exit id
 | .ret=>.ret
theorem Rel.put' {Fz:Nat → Prop} {κ:Nat → Value} (h:Rel bG w0 bF N Fz κ σ a w) {d:Nat} {pv:PV} (hv:jk Fz κ w pv (a.tmps.getD d undef)):Rel bG w0 bF N Fz κ ⟨Ev.put σ.tm d pv,σ.ob⟩ a w where
 tm:=fun p hp=>by
  rcases iA hp with rfl | ⟨hp,_⟩
  ·exact hv
  ·exact h.tm p hp
 sz:=h.sz
 mg:=h.mg
 fs:=h.fs
 ob:=h.ob
 uT:=h.uT
 pos:=h.pos
 fz:=h.fz
 zH:=h.zH
 big:=h.big
 ext:=h.ext
 kp:=h.kp
theorem Ok.keep (h:Ok bG w0 bF N jl σ a w) (ks:List Nat):Ok bG w0 bF N jl ⟨pick ks σ.tm,σ.ob⟩ a w:=h.less (fun _ hp=>ku hp) (fun _ hp=>hp)
theorem Ok.jd : ∀ (l:List (Nat × Nat)) {σ:St},Ok bG w0 bF N jl σ a w → Ok bG w0 bF N jl (Ev.jd σ l) a w
 | [],σ,h=>h
 | (s,sz) :: l,σ,h=>by
  unfold Ev.jd
  split
  ·rename_i hg
   split
   ·exact Ok.jd l h
   ·rename_i hz
    split
    ·rename_i t hn
     refine Ok.jd l ?_
     obtain ⟨Fz,κ,hr,hk⟩:=h
     have hv:a.tmps.getD s undef = .slice none 0 0:=hr.val hg
     have hnew:=hr.new (w':=w) (v:=.slice none 0 0) hn (Nat.le_refl _) (fun _ _=>rfl) (fun b hb=>by cases hb) ⟨rfl,rfl⟩ ⟨by omega,0,[],none,0,by rw [bQ];rfl,by rw [bQ];exact World.ownsRow_nil w _ _ _,rfl⟩
     refine ⟨Fz,pE κ (dF s) (.slice none 0 0),hnew.put' ⟨?_,none,0,hv⟩,fun k hk'=>?_⟩
     ·rw [bQ];exact hv
     ·rw [eB (fun e=>by unfold dF at e;omega)];exact hk k hk'
    ·exact Ok.jd l h
  ·exact Ok.jd l h
theorem Ok.res (h:Ok bG w0 bF N jl σ a w) (ks os:List Nat) (rws:List (Nat × Nat)):Ok bG w0 bF N jl (Ev.res ks os rws σ) a w :=
 (Ok.jd rws h).less (fun _ hp=>ku hp) (fun _ hp=>ku hp)
theorem tK : ∀ (n:Nat) (l:Array Bool),exts ops n l ≠ some []
 | 0,l,h=>by unfold exts at h;split at h <;> simp at h
 | n + 1,l,h=>by
  unfold exts at h
  split at h
  ·simp at h
  ·split at h
   ·obtain ⟨A,h1,h2⟩:=zmm h
    have:A = []:=by
     cases A with
     | nil=>rfl
     | cons _ _=>simp at h2
    subst this
    exact tK n _ h1
   ·obtain ⟨A,h1,h2⟩:=zbm h
    obtain ⟨B,_,h3⟩:=zmm h2
    have:A = []:=by
     cases A with
     | nil=>rfl
     | cons _ _=>simp at h3
    subst this
    exact tK n _ h1
theorem lX.app {ks pz:List Nat} {r:St}:∀ {A B:List (List Nat)},lX Γ gs ks pz σ r (A ++ B) → lX Γ gs ks pz σ r A ∧ lX Γ gs ks pz σ r B
 | [],_,h=>⟨trivial,h⟩
 | _ :: A,_,h=>⟨⟨h.1,(lX.app (A:=A) h.2).1⟩,(lX.app (A:=A) h.2).2⟩
theorem lX.step {ks pz:List Nat} {r:St} {i:Nat}:∀ {A:List (List Nat)},lX Γ gs ks pz σ r (A.map (i :: ·)) → A ≠ [] → ∃ s,OI Γ false σ (gs.getD i default) = some s ∧ lX Γ gs ks pz s r A
 | [],_,h=>absurd rfl h
 | x :: A,h,_=>by
  obtain ⟨⟨s,h1,h2⟩,h3⟩:=h
  obtain ⟨s1,h4,h5⟩:=zbm h1
  refine ⟨s1,h4,⟨s,h5,h2⟩,?_⟩
  by_cases hA:A = []
  ·subst hA;trivial
  ·obtain ⟨s2,g1,g2⟩:=lX.step h3 hA
   rw [h4] at g1;cases g1
   exact g2
theorem JG {Fz:Nat → Prop} {κ:Nat → Value} (h:Rel bG w0 bF N Fz κ σ a w) {t:TypeId} {ps:Array (Nat × Operand)} {z:List PL} {l:List (Nat × Nat × dZ)} {d:Nat} {p:PV × St} (hz:Fy P t = some z) (hp:(∃ fs,P.underlying t = some (.struct fs) ∧ fs.toList.all (fun (f:Field)=>(lY P f.type).isSome) = true ∧ parts P fs ps.toList = some l) ∨ ∃ n e sz,P.underlying t = some (.array n e) ∧ lY P e = some sz ∧ pI sz ps.toList = some l) (hE:cO Γ false σ d (.build z l) = some p) :
  p.2 = σ ∧ ∃ v,(∀ w',(Instr.build t (ps.map fun (i,x)=>(i,a.eval x))).run P w' = .ok v w') ∧ jk Fz κ w p.1 v:=by
 obtain ⟨vs,h1,h2⟩:=zbm hE
 obtain ⟨z',h3,h4⟩:=zmm h2
 cases h4
 obtain ⟨i,zv,e1,e2,e3⟩:=uV (Fz:=Fz) (κ:=κ) (w:=w) hz
 refine ⟨rfl,?_⟩
 rcases hp with ⟨fs,hu,hall,hp⟩ | ⟨n,e,sz,hu,hn,hp⟩
 ·have hpl:∃ places:List (Nat × Nat),fs.toList.mapM (fun (f:Field)=>(P.info? f.type).map fun i=>(f.offset,i.size)) = some places ∧ ∀ i:Nat,places.toArray[i]? = (fs[i]?.bind fun (f:Field)=>(lY P f.type).map fun n=>(f.offset,n)):=by
   have key:∀ (l:List Field),l.all (fun (f:Field)=>(lY P f.type).isSome) = true → ∃ places:List (Nat × Nat),l.mapM (fun (f:Field)=>(P.info? f.type).map fun i=>(f.offset,i.size)) = some places ∧ ∀ i:Nat,places[i]? = (l[i]?.bind fun (f:Field)=>(lY P f.type).map fun n=>(f.offset,n)):=by
    intro l
    induction l with
    | nil=>intro _;exact ⟨[],rfl,fun i=>by simp⟩
    | cons f l ih =>
     intro ha
     simp only [List.all_cons,Bool.and_eq_true] at ha
     obtain ⟨pl,e1,e2⟩:=ih ha.2
     obtain ⟨n,hn⟩:=Option.isSome_iff_exists.mp ha.1
     obtain ⟨inf,hi,hs⟩:=zmm hn
     refine ⟨(f.offset,n) :: pl,by simp [List.mapM_cons,hi,hs,e1],fun i=>?_⟩
     cases i with
     | zero=>simp [hn]
     | succ i=>simpa using e2 i
   obtain ⟨pl,e1,e2⟩:=key fs.toList hall
   exact ⟨pl,e1,fun i=>by have:=e2 i;simpa using this⟩
  obtain ⟨places,e4,e5⟩:=hpl
  obtain ⟨cs',e6,e7,_⟩:=lZ h (place:=(places.toArray[·]?)) (ps:=ps.toList) (cs:=zv.cells) (fun _=>trivial) (by
   refine (yu hp).imp fun {p r} hpr=>⟨?_,hpr.2⟩
   rw [e5];exact hpr.1) h1 h3 e3
  refine ⟨.agg cs',fun w'=>run_build w' t _ cs' ?_,cs',rfl,e7⟩
  unfold Program.built
  rw [e1,hu]
  simp only [e2,e4]
  rw [Array.toList_map]
  exact e6
 ·obtain ⟨ie,g1,g2⟩:=zmm hn
  obtain ⟨cs',e6,e7,_⟩:=lZ h (place:=fun i=>some (i * sz,sz)) (ps:=ps.toList) (cs:=zv.cells) (fun _=>trivial) (qA hp) h1 h3 e3
  refine ⟨.agg cs',fun w'=>run_build w' t _ cs' ?_,cs',rfl,e7⟩
  unfold Program.built
  rw [e1,hu]
  simp only [e2,g1]
  rw [Array.toList_map,g2]
  exact e6
theorem Pb {Fz:Nat → Prop} {κ:Nat → Value} (h:Rel bG w0 bF N Fz κ σ a w) {x:Operand} {x':dZ} {i d:Nat} {p:PV × St} (hx:fM x = some x') (hE:cO Γ false σ d (.ext x' i) = some p) :
  p.2 = σ ∧ ∃ v,(∀ w',(Instr.extract (a.eval x) i).run P w' = .ok v w') ∧ jk Fz κ w p.1 v:=by
 simp only [cO] at hE
 split at hE
 ·rename_i l hl
  obtain ⟨v,h1,h2⟩:=zmm hE
  cases h2
  obtain ⟨vs,e1,e2⟩:=h.Hf hx hl
  have key:∀ (l:List CV) (us:List Value) (i:Nat) (v:CV),dL Fz κ w l us → l[i]? = some v → ∃ u,us[i]? = some u ∧ fZ Fz κ w v u:=by
   intro l
   induction l with
   | nil=>intro us i v _ h;simp at h
   | cons x l ih =>
    intro us i v h h2
    cases us with
    | nil=>exact h.elim
    | cons u us =>
     cases i with
     | zero=>simp at h2;subst h2;exact ⟨u,rfl,h.1⟩
     | succ i=>simp at h2;exact ih us i v h.2 h2
  obtain ⟨u,h3,h4⟩:=key _ _ _ _ e2 h1
  refine ⟨rfl,u,fun w'=>?_,h4⟩
  rw [e1]
  rw [Array.getElem?_toList] at h3
  simp [Instr.extract,h3]
 ·cases hE
theorem Pf {i:Nat} {o:Oper} {g:G} (ho:ops[i]? = some o) (hp:U8 ops i = true) (hg:yc P X ops N.ok o = some g) (h:Ok bG w0 bF N jl σ a w) (hE:OI Γ false σ g = some σ'):∃ v,Yields P ops o v a ∧ Ok bG w0 bF N jl σ' (a.put o.dst v) w:=by
 obtain ⟨Fz,κ,hr,hk⟩:=h
 obtain ⟨p,h1,rfl⟩:=zmm hE
 obtain ⟨i',hi,h2⟩:=zbm hg
 split at h2
 ·rename_i hd
  cases h2
  have hput:∀ {pv v},jk Fz κ w pv v → Ok bG w0 bF N jl (sO σ o.dst pv) (a.put o.dst v) w:=by
   intro pv v hv
   refine ⟨Fz,κ,?_,hk⟩
   cases hdst:o.dst with
   | none=>exact hr.Sy v
   | some d =>
    rw [hdst] at hd
    exact hr.put (by simpa using hd) hv
  obtain ⟨t,h3,h4⟩:=zbm h1
  cases t with
  | false =>
   rw [if_neg (by decide)] at h4
   cases h4
   exact ⟨undef,.inr ⟨Lx hr h3,rfl⟩,hput rfl⟩
  | true =>
   rw [if_pos rfl] at h4
   have hw:=Lx hr h3
   unfold U8 at hp
   rw [ho] at hp
   simp only at hp
   have mv:∀ x,(o.op = .move x ∨ o.op = .assign x) → ∃ v,Yields P ops o v a ∧ Ok bG w0 bF N jl (sO p.2 o.dst p.1) (a.put o.dst v) w:=by
    intro x hx
    have hi2:(fM x).map I.mv = some i':=by
     unfold xZ xY nJ at hi
     rcases hx with hx | hx <;> simp only [hx] at hi <;> (split at hi <;> first | (split at hi <;> first | (cases hi;assumption) | cases hi) | cases hi)
    obtain ⟨y,h5,rfl⟩:=zmm hi2
    obtain ⟨v,h6,h7⟩:=zmm h4
    cases h7
    refine ⟨a.eval x,.inl ⟨hw,fun w'=>?_⟩,hput (hr.Hf h5 h6)⟩
    unfold execOp
    rcases hx with hx | hx <;> simp only [hx] <;> rfl
   split at hp
   ·rename_i x hx;exact mv x (.inl hx)
   ·rename_i x hx;exact mv x (.inr hx)
   ·rename_i s x f hx
    have hi2:nJ P X o = some i':=by
     unfold xZ xY at hi
     simp only [hx] at hi
     split at hi
     ·split at hi
      ·cases hi
      ·cases hi;assumption
     ·cases hi
    unfold nJ at hi2
    simp only [hx] at hi2
    obtain ⟨fl,h5,hi2⟩:=zbm hi2
    obtain ⟨n,h6,hi2⟩:=zbm hi2
    split at hi2
    ·cases hi2
    ·rename_i h0
     obtain ⟨y,h7,rfl⟩:=zmm hi2
     obtain ⟨v,h8,h9⟩:=zbm h4
     have hv:=hr.eval h7 h8
     obtain ⟨fs,hu,hfi⟩:=BJ h5
     have run:∀ b o' (w':World),a.eval x = .pointer (some ⟨b,o',none⟩) → (execOp a.eval o).run P w' = .ok (.value (.pointer (some ⟨b,o' + fl.offset,none⟩))) w':=by
      intro b o' w' he
      unfold execOp
      simp only [hx,he]
      unfold Instr.fieldAt
      simp only [Sem.run_bind,run_underlying hu,Result.andThen_ok,hfi]
      simp only [Instr.sureAddr,Sem.run_bind,Sem.run_pure,Result.andThen_ok,pK h6 h0]
     split at h9
     ·cases h9;obtain ⟨b,e1,e2⟩:=hv;exact ⟨_,.inl ⟨hw,fun w'=>run _ _ w' e2⟩,hput ⟨b,e1,rfl⟩⟩
     ·cases h9;obtain ⟨b,o',e1,e2,e3⟩:=hv;exact ⟨_,.inl ⟨hw,fun w'=>run _ _ w' e1⟩,hput ⟨b,_,rfl,e2,e3.drop _⟩⟩
     ·cases h9;obtain ⟨b,n',c,e1,e2⟩:=hv;exact ⟨_,.inl ⟨hw,fun w'=>run _ _ w' e2⟩,hput ⟨b,n',c,e1,by rw [Nat.add_assoc]⟩⟩
     ·cases h9
   ·rename_i s t ps hx
    have hi2:nJ P X o = some i':=by
     unfold xZ xY at hi
     simp only [hx] at hi
     split at hi
     ·split at hi
      ·cases hi
      ·cases hi;assumption
     ·cases hi
    unfold nJ at hi2
    simp only [hx] at hi2
    have hb:∃ z l,Fy P t = some z ∧ i' = .build z l ∧ ((∃ fs,P.underlying t = some (.struct fs) ∧ fs.toList.all (fun (f:Field)=>(lY P f.type).isSome) = true ∧ parts P fs ps.toList = some l) ∨ ∃ n e sz,P.underlying t = some (.array n e) ∧ lY P e = some sz ∧ pI sz ps.toList = some l):=by
     split at hi2
     ·rename_i fs hu
      split at hi2
      ·rename_i hall
       obtain ⟨z,g1,g2⟩:=zbm hi2
       obtain ⟨l,g3,rfl⟩:=zmm g2
       exact ⟨z,l,g1,rfl,.inl ⟨fs,hu,hall,g3⟩⟩
      ·cases hi2
     ·rename_i n e hu
      obtain ⟨sz,g0,g00⟩:=zbm hi2
      obtain ⟨z,g1,g2⟩:=zbm g00
      obtain ⟨l,g3,rfl⟩:=zmm g2
      exact ⟨z,l,g1,rfl,.inr ⟨n,e,sz,hu,g0,g3⟩⟩
     ·cases hi2
    obtain ⟨z,l,g1,rfl,g2⟩:=hb
    obtain ⟨g3,v,g4,g5⟩:=JG hr g1 g2 h4
    refine ⟨v,.inl ⟨hw,fun w'=>?_⟩,by rw [g3];exact hput g5⟩
    unfold execOp
    simp only [hx,Sem.run_bind,g4,Result.andThen_ok,Sem.run_pure]
   ·rename_i s x n hx
    have hi2:nJ P X o = some i':=by
     unfold xZ xY at hi
     simp only [hx] at hi
     split at hi
     ·split at hi
      ·cases hi
      ·cases hi;assumption
     ·cases hi
    unfold nJ at hi2
    simp only [hx] at hi2
    obtain ⟨y,g1,rfl⟩:=zmm hi2
    obtain ⟨g3,v,g4,g5⟩:=Pb (P:=P) hr g1 h4
    refine ⟨v,.inl ⟨hw,fun w'=>?_⟩,by rw [g3];exact hput g5⟩
    unfold execOp
    simp only [hx,Sem.run_bind,g4,Result.andThen_ok,Sem.run_pure]
   ·cases hp
 ·cases h2
theorem F7 (heq:∀ t ∈ X.eqs,lK P t) (l5:iN P Γ) (hC:eD P Γ) {ks pz:List Nat} {r:St} {Q:Exit → Act → World → Prop} (hns:Region.noSelect ops = true) (hg:lJ P X ops N.ok ops.toList = some gs) (hQp:∀ c a w,¬ Q (.panic c) a w) (hQ:∀ a' w',Ok bG w0 bF N jl r a' w' → Q .normal a' w'):∀ (n:Nat) (l:Array Bool) (os:List (List Nat)) {σ:St} {a:Act} {w:World},l.size = ops.size → exts ops n l = some os → lX Γ gs ks pz σ r os → Ok bG w0 bF N jl σ a w → wpAny P .any ops Q n l a w
 | 0,l,os,σ,a,w,hl,he,hA,hO=>by
  unfold exts at he
  split at he
  ·rename_i hn
   cases he
   obtain ⟨⟨s,h1,h2⟩,_⟩:=hA
   cases h1
   exact ⟨hn,hQ a w (h2 ▸ hO.less (fun _ hp=>ku hp) (fun _ hp=>ku hp))⟩
  ·cases he
 | n + 1,l,os,σ,a,w,hl,he,hA,hO=>by
  unfold exts at he
  obtain ⟨e1,e2⟩:=jY hg
  have hgd:∀ i (hi1:i < ops.size),yc P X ops N.ok ops[i] = some (gs.getD i default):=by
   intro i hi1
   have hgi:=e2 i (by simpa using hi1) (by rw [← e1];simpa using hi1)
   rw [List.getD_eq_getElem?_getD,List.getElem?_eq_getElem (by rw [← e1];simpa using hi1)]
   simpa using hgi
  split at he
  ·rename_i hn
   cases he
   obtain ⟨⟨s,h1,h2⟩,_⟩:=hA
   cases h1
   rw [kX]
   exact ⟨fun _=>hQ a w (h2 ▸ hO.less (fun _ hp=>ku hp) (fun _ hp=>ku hp)),fun i hi=>by rw [hn] at hi;simp at hi⟩
  ·rename_i i0 is0 hn
   split at he
   ·rename_i j hf
    obtain ⟨A,h1,rfl⟩:=zmm he
    have hj:=List.find?_some hf
    rw [Bool.and_eq_true] at hj
    have hjr:j ∈ Region.ready .any ops l:=by rw [hn];exact List.mem_of_find?_eq_some hf
    obtain ⟨hj1,hj2,hj3⟩:=(jf hl).mp hjr
    obtain ⟨s,g1,g2⟩:=hA.step (fun e=>tK n _ (e ▸ h1))
    obtain ⟨v,hy,DY⟩:=Pf (Array.getElem?_eq_getElem hj1) hj.1 (hgd j hj1) hO g1
    exact wpAny_take (Array.getElem?_eq_getElem hj1) hns hj.2 (by simpa using hjr) (fun c a w h=>absurd h (hQp c _ w)) hy (F7 heq l5 hC hns hg hQp hQ n _ A (by simp [hl]) h1 g2 DY)
   ·rw [kX]
    refine ⟨fun h=>(by rw [hn] at h;cases h),?_⟩
    rw [hn]
    have hall:∀ i ∈ i0 :: is0,i ∈ Region.ready .any ops l:=fun i hi=>by rw [hn];exact hi
    rename_i hfn
    clear hfn
    generalize i0 :: is0 = is at he hall
    clear hn
    induction is generalizing os with
    | nil=>intro i hi;simp at hi
    | cons j is ih =>
     obtain ⟨A,h1,h2⟩:=zbm he
     obtain ⟨B,h3,rfl⟩:=zmm h2
     obtain ⟨hA1,hA2⟩:=hA.app
     intro i hi
     rcases List.mem_cons.mp hi with rfl | hi
     ·obtain ⟨hi1,hi2,hi3⟩:=(jf hl).mp (hall i (by simp))
      obtain ⟨s,g1,g2⟩:=hA1.step (fun e=>tK n _ (e ▸ h1))
      unfold wpOp
      rw [Array.getElem?_eq_getElem hi1]
      exact Cb heq l5 hC (hgd i hi1) hO g1 fun a' w' h'=>F7 heq l5 hC hns hg hQp hQ n _ A (by simp [hl]) h1 g2 h'
     ·exact ih B hA2 h3 (fun i hi=>hall i (List.mem_cons_of_mem _ hi)) i hi
theorem lX.pre {ks pz:List Nat} {r:St}:∀ {p:List Nat} {A:List (List Nat)} {σ:St},lX Γ gs ks pz σ r (A.map (p ++ ·)) → A ≠ [] → ∃ s,xR Γ false (p.map fun i=>gs.getD i default) σ = some s ∧ lX Γ gs ks pz s r A
 | [],A,σ,h,_=>⟨σ,rfl,by simpa using h⟩
 | i :: p,A,σ,h,hA=>by
  have e:A.map (i :: p ++ ·) = (A.map (p ++ ·)).map (i :: ·):=by rw [List.map_map];rfl
  rw [e] at h
  obtain ⟨s,h1,h2⟩:=h.step (by simpa using hA)
  obtain ⟨s',h3,h4⟩:=lX.pre h2 hA
  refine ⟨s',?_,h4⟩
  show (OI Γ false σ _).bind _ = _
  rw [h1]
  exact h3
theorem LM (ops:Array Oper):∀ j,∀ x ∈ (kS [] (ops.toList.map jG)).getD j [],JE ops x j:=yH _ _ (fun j x hx=>by simp at hx) (fun k hk=>by
 have hk':k < ops.size:=by simpa using hk
 refine ⟨by simpa using hk',?_⟩
 rw [List.getElem?_map,Array.getElem?_toList,Array.getElem?_eq_getElem hk']
 simp)
theorem U9 {l:Array Bool} (hd:Down ops l) {i j:Nat} (hb:JE ops j i):(∀ (h:i < ops.size),∀ e ∈ jG ops[i],Dn l e) → Dn l j:=by
 induction hb with
 | dir h he=>intro hr;exact hr h _ he
 | step h he hj ih=>intro hr;exact ih (fun h'=>hd _ h' (hr h _ he))
theorem Pg {h n i:Nat} (hh:h ≤ n):Dn (mask h n) i ↔ i < h:=by
 unfold Dn mask
 rw [Array.getD_eq_getD_getElem?,List.getElem?_toArray,List.getElem?_append,List.length_replicate]
 split
 ·rename_i h1;simp [List.getElem?_replicate,h1]
 ·rename_i h1
  rw [List.getElem?_replicate]
  split <;> simp [h1]
theorem LP {h n:Nat} (hh:h < n):(mask h n).setIfInBounds h true = mask (h + 1) n:=by
 unfold mask
 refine Array.ext' ?_
 rw [Array.toList_setIfInBounds]
 refine List.ext_getElem? fun i=>?_
 rw [List.getElem?_set]
 simp only [List.getElem?_append,List.length_replicate,List.getElem?_replicate,List.length_append]
 by_cases h1:h = i
 ·subst h1
  rw [if_pos rfl,if_pos (by simp;omega),if_pos (by omega),if_pos (by omega)]
 ·rw [if_neg h1]
  by_cases h2:i < h
  ·rw [if_pos h2,if_pos h2,if_pos (by omega),if_pos (by omega)]
  ·have h4:¬ i < h + 1:=by omega
   simp only [h2,h4,if_false]
   by_cases h3:i < n
   ·rw [if_pos (by omega),if_pos (by omega)]
   ·rw [if_neg (by omega),if_neg (by omega)]
theorem Ic (heq:∀ t ∈ X.eqs,lK P t) (l5:iN P Γ) (hC:eD P Γ) {Q:Exit → Act → World → Prop} (hg:lJ P X ops N.ok ops.toList = some gs) {h:Nat} (hh:h ≤ ops.size) (hB:Ib (ops.toList.map jG) (kS [] (ops.toList.map jG)) ops.size h = true) {σh:St}
  (hK:∀ a' w',Ok bG w0 bF N jl σh a' w' → wpAny P .any ops Q (ops.size - h) (mask h ops.size) a' w'):∀ (m i:Nat) {σ:St} {a:Act} {w:World},m + i = h → xR Γ false ((List.range' i m).map fun i=>gs.getD i default) σ = some σh → Ok bG w0 bF N jl σ a w → wpAny P .any ops Q (ops.size - i) (mask i ops.size) a w
 | 0,i,σ,a,w,hm,hE,hO=>by
  have:i = h:=by omega
  subst this
  cases hE
  exact hK a w hO
 | m + 1,i,σ,a,w,hm,hE,hO=>by
  obtain ⟨e1,e2⟩:=jY hg
  have hi:i < ops.size:=by omega
  have hgd:yc P X ops N.ok ops[i] = some (gs.getD i default):=by
   have hgi:=e2 i (by simpa using hi) (by rw [← e1];simpa using hi)
   rw [List.getD_eq_getElem?_getD,List.getElem?_eq_getElem (by rw [← e1];simpa using hi)]
   simpa using hgi
  unfold Ib at hB
  rw [Bool.and_eq_true] at hB
  have hEd:∀ k (hk:k < ops.size),∀ e ∈ jG ops[k],e < k:=fun k hk e he=>by
   have h1:=List.all_eq_true.mp hB.1 k (List.mem_range.mpr hk)
   rw [List.getD_eq_getElem?_getD,List.getElem?_map,Array.getElem?_toList,Array.getElem?_eq_getElem hk] at h1
   simpa using List.all_eq_true.mp h1 e he
  have hsz:(mask i ops.size).size = ops.size:=by simp [mask];omega
  have hdn:∀ j,Dn (mask i ops.size) j ↔ j < i:=fun j=>Pg (by omega)
  have Y3:Down ops (mask i ops.size):=fun j hj hd e he=>(hdn e).mpr (by have:=(hdn j).mp hd;have:=hEd j hj e he;omega)
  have hri:i ∈ Region.ready .any ops (mask i ops.size):=(jf hsz).mpr ⟨hi,fun hd=>by have:=(hdn i).mp hd;omega,fun e he=>(hdn e).mpr (hEd i hi e he)⟩
  rw [show ops.size - i = (ops.size - (i + 1)) + 1 from by omega,kX]
  refine ⟨fun hn=>by rw [hn] at hri;simp at hri,fun j hj=>?_⟩
  obtain ⟨hj1,hj2,hj3⟩:=(jf hsz).mp hj
  have hij:j = i:=by
   apply Classical.byContradiction
   intro hne
   have hlt:i < j:=by
    have:¬ j < i:=fun hx=>hj2 ((hdn j).mpr hx)
    omega
   have h1:=List.all_eq_true.mp hB.2 j (List.mem_range.mpr hj1)
   have h2:(List.getD (kS [] (ops.toList.map jG)) j []).take (min j h) = List.range (min j h):=by simpa using h1
   have h3:i ∈ (kS [] (ops.toList.map jG)).getD j []:=List.mem_of_mem_take (by rw [h2];exact List.mem_range.mpr (by omega))
   have:=(hdn i).mp (U9 Y3 (LM ops j i h3) (fun _=>hj3))
   omega
  subst hij
  rw [List.range'_succ,List.map_cons] at hE
  obtain ⟨s,g1,g2⟩:=zbm hE
  unfold wpOp
  rw [Array.getElem?_eq_getElem hi]
  refine Cb heq l5 hC hgd hO g1 fun a' w' h'=>?_
  rw [LP hi]
  exact Ic heq l5 hC hg hh (by unfold Ib;rw [Bool.and_eq_true];exact hB) hK m (j + 1) (by omega) g2 h'
theorem Va (hm:P.follows .mixedOrders = true) (heq:∀ t ∈ X.eqs,lK P t) (l5:iN P Γ) (hC:eD P Γ) {ks pz:List Nat} {os:List (List Nat)} {o:Out} {id:Nat} (hns:Region.noSelect ops = true) (hg:lJ P X ops N.ok ops.toList = some gs) (he:LK ops = some os) (hO:Ok bG w0 bF N jl σ a w) (hE:evO Γ gs ks pz σ os = some (o,σ')) (hQ:∀ a' w',Ok bG w0 bF N jl σ' a' w' → Q (F6 o) a' w'):(Code.region id ops true).wp P Q a w:=by
 refine wp_mono (Q:=fun e a w=>e = .normal ∧ Q e a w) ?_ (fun _ _ _ h=>h.2)
 refine wp_region_any hm ?_
 replace hO:Ok bG w0 bF N jl σ a { w with drawn:=w.drawn + 1 }:=by
  obtain ⟨Fz,κ,hr,hk⟩:=hO
  exact ⟨Fz,κ,hr.grow (w':={ w with drawn:=w.drawn + 1 }) (Nat.le_refl _) (fun _ _=>rfl) ⟨rfl,rfl⟩,hk⟩
 cases os with
 | nil=>cases hE
 | cons o1 os =>
  obtain ⟨s,h1,h2⟩:=zbm hE
  split at h2
  ·rename_i hA
   cases h2
   unfold LK at he
   simp only [LH] at he
   split at he
   ·rename_i hcond
    obtain ⟨A,h5,h6⟩:=zmm he
    have hA':lX Γ gs ks pz σ _ (A.map (List.range (DX (kS [] (ops.toList.map jG)) ops.size 0) ++ ·)):=h6 ▸ (show lX Γ gs ks pz σ ⟨pick ks s.tm,pick pz s.ob⟩ (o1 :: os) from ⟨⟨s,h1,rfl⟩,hA⟩)
    obtain ⟨sh,h7,h8⟩:=hA'.pre (fun e=>tK _ _ (e ▸ h5))
    have hm0:Array.replicate ops.size false = mask 0 ops.size:=by
     unfold mask
     refine Array.ext' ?_
     simp
    rw [hm0]
    refine Ic (i:=0) (h:=DX (kS [] (ops.toList.map jG)) ops.size 0) heq l5 hC hg hcond.1 hcond.2 (fun a' w' h'=>?_) (DX (kS [] (ops.toList.map jG)) ops.size 0) (by omega) (by rw [← List.range_eq_range'];exact h7) hO
    exact F7 heq l5 hC hns hg (fun c a w h=>by cases h.1) (fun a' w' h=>⟨rfl,hQ a' w' h⟩) _ _ A (by simp [mask];omega) h5 h8 h'
   ·cases he
  ·cases h2
theorem DZ (hm:P.follows .mixedOrders = true) (heq:∀ t ∈ X.eqs,lK P t) (l5:iN P Γ) (hC:eD P Γ):∀ (c:Code) {h h':List Hi} {cc:CC} {σ σ':St} {o:Out} {a:Act} {w:World} {Q:Exit → Act → World → Prop},comp P X N.ok c h = some (cc,h') → Ok bG w0 bF N jl σ a w → ev Γ F cc σ = some (o,σ') →
  (∀ a' w',Ok bG w0 bF N jl σ' a' w' → Q (F6 o) a' w') → c.wp P Q a w:=by
 intro c
 induction c with
 | skip =>
  intro h h' cc σ σ' o a w Q hc hO hE hQ
  cases hc
  cases hE
  exact wp_skip (hQ a w hO)
 | region id ops draw =>
  intro h h' cc σ σ' o a w Q hc hO hE hQ
  cases h with
  | nil=>cases hc
  | cons k h =>
  obtain ⟨cr,h1,h2⟩:=zmm hc
  cases h2
  obtain ⟨gs,h3,h4⟩:=zbm h1
  cases draw with
  | false =>
   cases h4
   obtain ⟨s,h5,h6⟩:=zmm hE
   cases h6
   exact wp_region_list (LA heq l5 hC h3 hO h5 fun a' w' h=>hQ a' w' (h.keep _))
  | true =>
   simp only [LH] at h4
   split at h4
   ·split at h4
    ·rename_i hns
     obtain ⟨os,h5,h6⟩:=zmm h4
     cases h6
     exact Va hm heq l5 hC hns h3 h5 hO hE hQ
    ·cases h4
   split at h4
   ·rename_i hb
    cases h4
    obtain ⟨s,h5,h6⟩:=zmm hE
    cases h6
    obtain ⟨g1,g2⟩:=JF (O9 _ _) h3 hb
    exact U6 hm g1 heq l5 hC (by rw [g2];exact h3) hO h5 fun a' w' h=>hQ a' w' (h.keep _)
   ·cases h4
 | seq x y ihx ihy =>
  intro h h' cc σ σ' o a w Q hc hO hE hQ
  obtain ⟨p,h1,h2⟩:=zbm hc
  obtain ⟨r,h3,h4⟩:=zmm h2
  cases h4
  obtain ⟨s,h5,h6⟩:=zbm hE
  refine wp_seq (ihx h1 hO h5 fun a' w' DY=>?_)
  cases hs:s.1 with
  | jd=>rw [hs] at h6;exact ihy h3 DY h6 hQ
  | ext id=>rw [hs] at h6;cases h6;exact hQ a' w' DY
  | ret=>rw [hs] at h6;cases h6;exact hQ a' w' DY
 | cond c x y ihx ihy =>
  intro h h' cc σ σ' o a w Q hc hO hE hQ
  obtain ⟨co,h0,hc⟩:=zbm hc
  obtain ⟨p,h1,h2⟩:=zbm hc
  obtain ⟨r,h3,h4⟩:=zmm h2
  cases h4
  obtain ⟨v,h5,h6⟩:=zbm hE
  obtain ⟨t,h7,h8⟩:=zbm h6
  have hv:a.eval c = .bool t:=by
   obtain ⟨Fz,κ,hr,_⟩:=hO
   exact BH h7 (hr.eval h0 h5)
  refine wp_cond hv ?_
  cases t with
  | true=>exact ihx h1 hO h8 hQ
  | false=>exact ihy h3 hO h8 hQ
 | block id c ih =>
  intro h h' cc σ σ' o a w Q hc hO hE hQ
  obtain ⟨p,h1,h2⟩:=zmm hc
  cases h2
  obtain ⟨s,h3,h4⟩:=zmm hE
  refine wp_block (ih h1 hO h3 fun a' w' DY=>?_)
  cases hs:s.1 with
  | jd=>rw [hs] at h4;cases h4;exact hQ a' w' DY
  | ret=>rw [hs] at h4;cases h4;exact hQ a' w' DY
  | ext i =>
   rw [hs] at h4
   simp only [F6,Exit.inBlock]
   by_cases hi:i = id
   ·simp only [if_pos hi] at h4
    cases h4;rw [if_pos hi];exact hQ a' w' DY
   ·simp only [if_neg hi] at h4
    cases h4;rw [if_neg hi];exact hQ a' w' DY
 | loop c ih =>
  intro h h' cc σ σ' o a w Q hc hO hE hQ
  cases h with
  | nil=>cases hc
  | cons k h =>
   obtain ⟨p,h1,h2⟩:=zmm hc
   cases h2
   have key:∀ (n:Nat) (σ:St) (a:Act) (w:World),Ok bG w0 bF N jl σ a w → iter (ev Γ F p.1) (Ev.res k.ks k.Dm k.rws) n σ = some (o,σ') → Code.rounds P c Q n a w:=by
    intro n
    induction n with
    | zero=>intro σ a w _ hE;cases hE
    | succ n ihn =>
     intro σ a w hO hE
     obtain ⟨s,h3,h4⟩:=zbm hE
     rw [rounds_succ]
     refine ih h1 (hO.res k.ks k.Dm k.rws) h3 fun a' w' DY=>?_
     cases hs:s.1 with
     | jd=>rw [hs] at h4;exact ihn s.2 a' w' DY h4
     | ext id=>rw [hs] at h4;cases h4;exact hQ a' w' DY
     | ret=>rw [hs] at h4;cases h4;exact hQ a' w' DY
   exact wp_loop_rounds F (key F σ a w hO hE)
 | exit id =>
  intro h h' cc σ σ' o a w Q hc hO hE hQ
  cases hc
  cases hE
  exact wp_exit (hQ a w hO)
 | ret =>
  intro h h' cc σ σ' o a w Q hc hO hE hQ
  cases hc
  cases hE
  exact wp_ret (hQ a w hO)
 | scope c ih =>
  intro h h' cc σ σ' o a w Q hc hO hE hQ
  refine wp_scope_straight (ih hc hO hE fun a' w' h'=>?_)
  have:=hQ a' w' h'
  cases o <;> exact this
 | label l =>
  intro h h' cc σ σ' o a w Q hc hO hE hQ
  cases hc
  cases hE
  exact wp_label (hQ a w hO)
 | _=>intro h h' cc σ σ' o a w Q hc;cases hc
end
end Go.Proofs.Ytfokaoeinpnagaa.Ev
namespace Go.Proofs.Ytfokaoeinpnagaa.Ev
open Go
section
variable {P : Program} {Γ:Env} {bG Fz bJ:Nat → Prop} {w0 w w':World} {bF bs:List Nat} {N:Fr} {F:Nat} {κ jl:Nat → Value} {σ fH σ':St} {a:Act} {X:Hx}
theorem D5 {bo:List Nat}:∀ {fK:List AV} {vals:List Value} {bx bs:List Nat} {i:Nat} {pend:List PL} {jK:List Value} {mY:List CV} {κ:Nat → Value} {σ σ':St},bT bG w0 bF N (bx ++ bs) Fz κ σ a w → fP Fz w fK vals bx → (∀ j v,vals[j]? = some v → a.tmps.getD (i + j) undef = v) → bA Fz κ w pend jK → enter bo i pend σ fK = some (mY,σ') →
  ∃ fu,bT bG w0 bF N bs Fz fu σ' a w ∧ dL Fz fu w mY vals ∧ bA Fz fu w pend jK
 | [],[],bx,bs,i,pend,jK,mY,κ,σ,σ',h,hx,ht,hp,hs=>by cases hs;cases hx;exact ⟨κ,h,trivial,hp⟩
 | [],_ :: _,_,_,_,_,_,_,_,_,_,_,hx,_,_,_=>hx.elim
 | _ :: _,[],_,_,_,_,_,_,_,_,_,_,hx,_,_,_=>hx.elim
 | x :: fK,v :: vals,bx,bs,i,pend,jK,mY,κ,σ,σ',h,hx,ht,hp,hs=>by
  obtain ⟨b1,b2,h1,h2,rfl⟩:=hx
  obtain ⟨p,h3,h4⟩:=zbm hs
  obtain ⟨r,h5,h6⟩:=zmm h4
  cases h6
  obtain ⟨zR,e1,e2,e3,_⟩:=Lm (Kp:=fun _=>True) (fun _ _=>trivial) (fun _ _ _=>trivial) trivial (bs:=b2 ++ bs) (by rw [← List.append_assoc];exact h) h1 hp h3
  have hv:a.tmps.getD i undef = v:=by have:=ht 0 v rfl;rwa [Nat.add_zero] at this
  have hrel:bT bG w0 bF N (b2 ++ bs) Fz zR ⟨Ev.put p.2.tm i (.c p.1),p.2.ob⟩ a w:=⟨e1.rel.put' (by rw [hv];exact e2),e1.mg,e1.ap⟩
  obtain ⟨FU,g1,g2,g3⟩:=D5 hrel h2 (fun j u hj=>by have:=ht (j + 1) u (by simpa using hj);rwa [show i + 1 + j = i + (j + 1) from by omega]) (show bA Fz zR w (Ev.cells p.1 ++ pend) (Ev.DK p.1 v ++ jK) from e2.DK.app e3) h5
  obtain ⟨g5,g6⟩:=g3.BZ (by have:=e2.DK.length;omega)
  exact ⟨FU,g1,⟨fZ.Lp (fun xs hx=>by rw [hx] at e2;obtain ⟨cs,h,_⟩:=e2;exact ⟨cs,h⟩) g5,g2⟩,g6⟩
theorem xw (h:bT bG w0 bF N bs Fz κ σ a w) {x:PL} {y:TV} {v:Value} (hx:d9 Fz κ w x v) (hs:outT σ x = some (y,σ')):∃ bJ bx,bT bG w0 bF N (bx ++ bs) bJ κ σ' a w ∧ (∀ b,Fz b → bJ b) ∧ nQ bJ w y v bx:=by
 cases x with
 | f x=>cases hs;exact ⟨Fz,[],h,fun _ h=>h,hx,rfl⟩
 | dN=>cases hs;exact ⟨Fz,[],h,fun _ h=>h,by simp only [fB];exact ⟨none,0,hx,Nat.le_refl _,by simp,.inl trivial⟩,rfl⟩
 | iw=>cases hs;exact ⟨Fz,[],h,fun _ h=>h,hx,rfl⟩
 | fC=>cases hs;exact ⟨Fz,[],h,fun _ h=>h,hx,rfl⟩
 | fp cs=>cases hs;exact ⟨Fz,[],h,fun _ h=>h,d9.mono (κ:=κ) (fu:=fun _=>undef) (fun _ h=>h) (fun _ _=>rfl) (fun k hk=>by cases hk) hx,rfl⟩
 | fn f cs=>cases hs;exact ⟨Fz,[],h,fun _ h=>h,d9.mono (κ:=κ) (fu:=fun _=>undef) (fun _ h=>h) (fun _ _=>rfl) (fun k hk=>by cases hk) hx,rfl⟩
 | own key n =>
  obtain ⟨p,h1,h2⟩:=zmm hs
  cases h2
  obtain ⟨bJ,g1,g2,g3⟩:=h.xK hx h1
  exact ⟨bJ,[],g1,g2,g3,rfl⟩
 | mp key =>
  simp only [outT] at hs
  split at hs
  ·rename_i sh ents gu
   cases hs
   obtain ⟨b,h1,h2⟩:=h.rel.obj gu
   exact ⟨Fz,[b],h.take gu (by rw [h1];rfl),fun _ h=>h,b,by rw [hx.1,h1],h2,rfl⟩
  ·cases hs
 | ptr key off =>
  cases off with
  | succ n=>cases hs
  | zero =>
   simp only [outT] at hs
   split at hs
   ·rename_i xs gu
    obtain ⟨p,h1,h2⟩:=zmm hs
    cases h2
    obtain ⟨b,cs,e,g1,g2,g3⟩:=h.rel.obj gu
    obtain ⟨b',g4,g5⟩:=hx
    rw [g1] at g4
    cases g4
    obtain ⟨F1,bx,e1,e2,e3⟩:=BR (h.take gu (by rw [g1];rfl)) g3 h1
    exact ⟨F1,b :: bx,e1.perm List.perm_middle,e2,b,cs,e,bx,g5,g2,e3,rfl⟩
   ·cases hs
 | _=>cases hs
theorem D6 : ∀ {xs:List PL} {ys:List TV} {vs:List Value} {bs:List Nat} {Fz:Nat → Prop} {σ σ':St},bT bG w0 bF N bs Fz κ σ a w → bA Fz κ w xs vs → vU σ xs = some (ys,σ') → ∃ bJ bx,bT bG w0 bF N (bx ++ bs) bJ κ σ' a w ∧ (∀ b,Fz b → bJ b) ∧ lT bJ w ys vs bx
 | [],ys,[],bs,Fz,σ,σ',h,_,hs=>by cases hs;exact ⟨Fz,[],h,fun _ h=>h,rfl⟩
 | x :: xs,ys,v :: vs,bs,Fz,σ,σ',h,hx,hs=>by
  obtain ⟨p,h1,h2⟩:=zbm hs
  obtain ⟨r,h3,h4⟩:=zmm h2
  cases h4
  obtain ⟨F1,b1,e1,e2,e3⟩:=xw h hx.1 h1
  obtain ⟨F2,b2,e4,e5,e6⟩:=D6 e1 (bA.mono e2 (fun _ _=>rfl) xs (fun _ _=>rfl) vs hx.2) h3
  refine ⟨F2,b1 ++ b2,e4.perm ?_,fun b hb=>e5 b (e2 b hb),b1,b2,e3.mono e5 (fun _ _=>rfl) (fun _ _=>rfl),e6,rfl⟩
  rw [← List.append_assoc]
  exact List.perm_append_comm.append_right bs
 | [],_,_ :: _,_,_,_,_,_,h,_=>h.elim
 | _ :: _,_,[],_,_,_,_,_,h,_=>h.elim
theorem Ph (h:bT bG w0 bF N bs Fz κ σ a w) {x:CV} {y:AV} {v:Value} (hx:fZ Fz κ w x v) (hs:OL σ x = some (y,σ')):∃ bJ bx,bT bG w0 bF N (bx ++ bs) bJ κ σ' a w ∧ (∀ b,Fz b → bJ b) ∧ pR bJ w y v bx:=by
 cases x with
 | one x =>
  obtain ⟨p,h1,h2⟩:=zmm hs
  cases h2
  exact xw h hx h1
 | agg xs =>
  obtain ⟨p,h1,h2⟩:=zmm hs
  cases h2
  obtain ⟨cs,rfl,hx⟩:=hx
  obtain ⟨F1,b1,e1,e2,e3⟩:=D6 h hx h1
  exact ⟨F1,b1,e1,e2,cs,rfl,e3⟩
theorem Pj (h:bT bG w0 bF N bs Fz κ σ a w) {sz:Nat} {x:PL} {y:TV} {v:Value} (hx:d9 Fz κ w x v) (hs:Bz sz σ x = some (y,σ')):∃ bx,bT bG w0 bF N (bx ++ bs) Fz κ σ' a w ∧ nQ Fz w y v bx:=by
 cases x with
 | own key n =>
  simp only [Bz] at hs
  split at hs
  ·rename_i z rows gu
   split at hs
   ·rename_i hz
    subst hz
    cases hs
    obtain ⟨g1,g2⟩:=h.Hq gu
    exact ⟨_,g1,by rw [hx.1];exact g2⟩
   ·cases hs
  ·cases hs
 | dN =>
  simp only [Bz] at hs
  split at hs
  ·cases hs
  ·rename_i hz
   cases hs
   have hv:v = .slice none 0 0:=hx
   subst hv
   exact ⟨[],h,by omega,0,[],none,0,rfl,World.ownsRow_nil w _ _ _,rfl,rfl⟩
 | _=>cases hs
theorem Pk (h:bT bG w0 bF N bs Fz κ σ a w) {fl:Option Nat} {x:CV} {y:AV} {v:Value} (hx:fZ Fz κ w x v) (hs:BA fl σ x = some (y,σ')):∃ bJ bx,bT bG w0 bF N (bx ++ bs) bJ κ σ' a w ∧ (∀ b,Fz b → bJ b) ∧ pR bJ w y v bx:=by
 cases fl with
 | none=>exact Ph h hx (by cases x <;> exact hs)
 | some sz =>
  cases x with
  | one x =>
   obtain ⟨p,h1,h2⟩:=zmm hs
   cases h2
   obtain ⟨bx,e1,e2⟩:=Pj h hx h1
   exact ⟨Fz,bx,e1,fun _ h=>h,e2⟩
  | agg xs=>cases hs
theorem D7 : ∀ {xs:List CV} {ys:List AV} {vs:List Value} {fl:List (Option Nat)} {bs:List Nat} {Fz:Nat → Prop} {σ σ':St},bT bG w0 bF N bs Fz κ σ a w → dL Fz κ w xs vs → mF fl σ xs = some (ys,σ') → ∃ bJ bx,bT bG w0 bF N (bx ++ bs) bJ κ σ' a w ∧ (∀ b,Fz b → bJ b) ∧ fP bJ w ys vs bx
 | [],ys,[],fl,bs,Fz,σ,σ',h,_,hs=>by cases hs;exact ⟨Fz,[],h,fun _ h=>h,rfl⟩
 | x :: xs,ys,v :: vs,fl,bs,Fz,σ,σ',h,hx,hs=>by
  obtain ⟨p,h1,h2⟩:=zbm hs
  obtain ⟨r,h3,h4⟩:=zmm h2
  cases h4
  obtain ⟨F1,b1,e1,e2,e3⟩:=Pk h hx.1 h1
  obtain ⟨F2,b2,e4,e5,e6⟩:=D7 e1 (dL.mono e2 (fun _ _=>rfl) xs (fun _ _=>rfl) vs hx.2) h3
  refine ⟨F2,b1 ++ b2,e4.perm ?_,fun b hb=>e5 b (e2 b hb),b1,b2,e3.mono e5 (fun _ _=>rfl) (fun _ _=>rfl),e6,rfl⟩
  rw [← List.append_assoc]
  exact List.perm_append_comm.append_right bs
 | [],_,_ :: _,_,_,_,_,_,_,h,_=>h.elim
 | _ :: _,_,[],_,_,_,_,_,_,h,_=>h.elim
theorem D8 {x:PL} {y z:TV} {v:Value} {FD:List Nat} {F0:Nat → Prop} {u0:World} (h:bT bG w0 bF N bs Fz κ σ a w) {LQ:Nat → Value} (hx:d9 F0 LQ u0 x v) (KM:∀ k,k % 2 = 1 → κ k = LQ k) (hy:nQ F0 u0 y v FD) (hf:∀ b,F0 b → Fz b) (hw:∀ b,F0 b → w.heap[b]? = u0.heap[b]?) (hs:jS σ x y = some (z,σ')) :
  ∃ bJ bx,bT bG w0 bF N (bx ++ bs) bJ κ σ' a w ∧ (∀ b,Fz b → bJ b) ∧ nQ bJ w z v bx:=by
 have plain:FD = [] → some (y,σ) = some (z,σ') → ∃ bJ bx,bT bG w0 bF N (bx ++ bs) bJ κ σ' a w ∧ (∀ b,Fz b → bJ b) ∧ nQ bJ w z v bx:=by
  intro hb hs
  cases hs
  subst hb
  exact ⟨Fz,[],h,fun _ h=>h,hy.mono hf hw (fun b hb=>by simp at hb)⟩
 cases y with
 | ptr cs =>
  cases x with
  | ptr key off =>
   cases off with
   | succ n=>cases hs
   | zero =>
    simp only [jS] at hs
    split at hs
    ·rename_i hk
     exact xw h (show d9 Fz κ w (.ptr key 0) v by obtain ⟨b,h1,h2⟩:=hx;exact ⟨b,(KM key hk).trans h1,h2⟩) hs
    ·cases hs
  | _=>cases hs
 | mp sh ents =>
  cases x with
  | mp key =>
   simp only [jS] at hs
   split at hs
   ·rename_i hk
    exact xw h (show d9 Fz κ w (.mp key) v by obtain ⟨h1,h2⟩:=hx;exact ⟨h1.trans (KM key hk).symm,h2⟩) hs
   ·cases hs
  | ptr key off=>cases off <;> cases hs
  | _=>cases hs
 | own sz rows =>
  have g:z = .any → σ' = σ → ∃ bJ bx,bT bG w0 bF N (bx ++ bs) bJ κ σ' a w ∧ (∀ b,Fz b → bJ b) ∧ nQ bJ w z v bx:=by
   rintro rfl rfl
   exact ⟨Fz,[],h,fun _ h=>h,rfl⟩
  cases x with
  | ptr key off=>cases off <;> (cases hs;exact g rfl rfl)
  | own key n =>
   simp only [jS] at hs
   split at hs
   ·rename_i hk
    split at hs
    ·rename_i z' rows' gu
     cases hs
     obtain ⟨g1,g2⟩:=h.Hq gu
     refine ⟨Fz,_,g1,fun _ h=>h,?_⟩
     rw [hx.1,← KM key hk]
     exact g2
    ·cases hs
   ·cases hs;exact g rfl rfl
  | _=>cases hs;exact g rfl rfl
 | fp cs =>
  cases x with
  | ptr key off=>cases off <;> exact plain hy.2 hs
  | _=>exact plain hy.2 hs
 | fn f cs =>
  cases x with
  | ptr key off=>cases off <;> exact plain hy.2 hs
  | _=>exact plain hy.2 hs
 | any =>
  cases x with
  | ptr key off=>cases off <;> exact plain hy hs
  | _=>exact plain hy hs
 | f y =>
  cases x with
  | ptr key off=>cases off <;> exact plain hy.2 hs
  | _=>exact plain hy.2 hs
 | iw =>
  cases x with
  | ptr key off=>cases off <;> exact plain hy.2 hs
  | _=>exact plain hy.2 hs
 | fC =>
  cases x with
  | ptr key off=>cases off <;> exact plain hy.2 hs
  | _=>exact plain hy.2 hs
theorem Aw {F0:Nat → Prop} {u0:World} {LQ:Nat → Value} (KM:∀ k,k % 2 = 1 → κ k = LQ k):∀ {xs:List PL} {ys zs:List TV} {vs:List Value} {bs FD:List Nat} {Fz:Nat → Prop} {σ σ':St},bT bG w0 bF N bs Fz κ σ a w → bA F0 LQ u0 xs vs → lT F0 u0 ys vs FD → (∀ b,F0 b → Fz b) → (∀ b,F0 b → w.heap[b]? = u0.heap[b]?) → oF σ xs ys = some (zs,σ') →
  ∃ bJ bx,bT bG w0 bF N (bx ++ bs) bJ κ σ' a w ∧ (∀ b,Fz b → bJ b) ∧ lT bJ w zs vs bx
 | [],[],zs,[],bs,FD,Fz,σ,σ',h,hx,hy,hf,hw,hs=>by cases hs;exact ⟨Fz,[],h,fun _ h=>h,rfl⟩
 | x :: xs,y :: ys,zs,v :: vs,bs,FD,Fz,σ,σ',h,hx,hy,hf,hw,hs=>by
  obtain ⟨y1,y2,h1,h2,_⟩:=hy
  obtain ⟨p,h3,h4⟩:=zbm hs
  obtain ⟨r,h5,h6⟩:=zmm h4
  cases h6
  obtain ⟨F1,b1,e1,e2,e3⟩:=D8 h hx.1 KM h1 hf hw h3
  obtain ⟨F2,b2,e4,e5,e6⟩:=Aw KM e1 hx.2 h2 (fun b hb=>e2 b (hf b hb)) hw h5
  refine ⟨F2,b1 ++ b2,e4.perm ?_,fun b hb=>e5 b (e2 b hb),b1,b2,e3.mono e5 (fun _ _=>rfl) (fun _ _=>rfl),e6,rfl⟩
  rw [← List.append_assoc]
  exact List.perm_append_comm.append_right bs
 | [],[],_,_ :: _,_,_,_,_,_,_,hx,_,_,_,_=>hx.elim
 | _ :: _,_ :: _,_,[],_,_,_,_,_,_,hx,_,_,_,_=>hx.elim
 | [],_ :: _,_,_,_,_,_,_,_,_,_,_,_,_,hs=>by cases hs
 | _ :: _,[],_,_,_,_,_,_,_,_,_,_,_,_,hs=>by cases hs
theorem LU {F0:Nat → Prop} {u0:World} {LQ:Nat → Value} (KM:∀ k,k % 2 = 1 → κ k = LQ k) {x:CV} {y z:AV} {v:Value} {FD:List Nat} (h:bT bG w0 bF N bs Fz κ σ a w) (hx:fZ F0 LQ u0 x v) (hy:pR F0 u0 y v FD) (hf:∀ b,F0 b → Fz b) (hw:∀ b,F0 b → w.heap[b]? = u0.heap[b]?) (hs:xS σ x y = some (z,σ')) :
  ∃ bJ bx,bT bG w0 bF N (bx ++ bs) bJ κ σ' a w ∧ (∀ b,Fz b → bJ b) ∧ pR bJ w z v bx:=by
 cases x with
 | one x =>
  cases y with
  | one y =>
   obtain ⟨p,h1,h2⟩:=zmm hs
   cases h2
   exact D8 h hx KM hy hf hw h1
  | agg ys=>cases hs
 | agg xs =>
  cases y with
  | one y=>cases hs
  | agg ys =>
   obtain ⟨p,h1,h2⟩:=zmm hs
   cases h2
   obtain ⟨cs,rfl,hx⟩:=hx
   obtain ⟨cs',hcs,hy⟩:=hy
   cases hcs
   obtain ⟨F1,b1,e1,e2,e3⟩:=Aw KM h hx hy hf hw h1
   exact ⟨F1,b1,e1,e2,cs,rfl,e3⟩
theorem Ay {F0:Nat → Prop} {u0:World} {LQ:Nat → Value} (KM:∀ k,k % 2 = 1 → κ k = LQ k):∀ {xs:List CV} {ys zs:List AV} {vs:List Value} {bs FD:List Nat} {Fz:Nat → Prop} {σ σ':St},bT bG w0 bF N bs Fz κ σ a w → dL F0 LQ u0 xs vs → fP F0 u0 ys vs FD → (∀ b,F0 b → Fz b) → (∀ b,F0 b → w.heap[b]? = u0.heap[b]?) → jX σ xs ys = some (zs,σ') →
  ∃ bJ bx,bT bG w0 bF N (bx ++ bs) bJ κ σ' a w ∧ (∀ b,Fz b → bJ b) ∧ fP bJ w zs vs bx
 | [],[],zs,[],bs,FD,Fz,σ,σ',h,hx,hy,hf,hw,hs=>by cases hs;exact ⟨Fz,[],h,fun _ h=>h,rfl⟩
 | x :: xs,y :: ys,zs,v :: vs,bs,FD,Fz,σ,σ',h,hx,hy,hf,hw,hs=>by
  obtain ⟨y1,y2,h1,h2,_⟩:=hy
  obtain ⟨p,h3,h4⟩:=zbm hs
  obtain ⟨r,h5,h6⟩:=zmm h4
  cases h6
  obtain ⟨F1,b1,e1,e2,e3⟩:=LU KM h hx.1 h1 hf hw h3
  obtain ⟨F2,b2,e4,e5,e6⟩:=Ay KM e1 hx.2 h2 (fun b hb=>e2 b (hf b hb)) hw h5
  refine ⟨F2,b1 ++ b2,e4.perm ?_,fun b hb=>e5 b (e2 b hb),b1,b2,e3.mono e5 (fun _ _=>rfl) (fun _ _=>rfl),e6,rfl⟩
  rw [← List.append_assoc]
  exact List.perm_append_comm.append_right bs
 | [],[],_,_ :: _,_,_,_,_,_,_,hx,_,_,_,_=>hx.elim
 | _ :: _,_ :: _,_,[],_,_,_,_,_,_,hx,_,_,_,_=>hx.elim
 | [],_ :: _,_,_,_,_,_,_,_,_,_,_,_,_,hs=>by cases hs
 | _ :: _,[],_,_,_,_,_,_,_,_,_,_,_,_,hs=>by cases hs
end
end Go.Proofs.Ytfokaoeinpnagaa.Ev
namespace Go.Proofs.Ytfokaoeinpnagaa.Ev
open Go
def ny (P:Program):List ResultVar → Option (List Rs)
 | []=>some []
 | .tmp t :: l=>(ny P l).map fun r=>.t t :: r
 | .cell a t :: l=>(xW P t).bind fun g=>(lY P t).bind fun n=>(ny P l).map fun r=>.cell a (if g then n else 1) g :: r
section
variable {P : Program} {Γ:Env} {bG Fz bJ:Nat → Prop} {w0 w w':World} {bF bs:List Nat} {N:Fr} {F:Nat} {κ jl:Nat → Value} {σ fH σ':St} {a:Act} {X:Hx}
def Az (tmps:Array Value) (r:ResultVar):Sem Value:=match r with
 | .tmp t=>pure (tmps.getD t undef)
 | .cell a t=>do loadVar t (← asAddr (tmps.getD a undef))
theorem yI (h:Rel bG w0 bF N Fz κ σ a w):∀ {rv:List ResultVar} {rs:List Rs} {mY:List CV},ny P rv = some rs → slots σ rs = some mY → ∃ vs,(rv.mapM (Az a.tmps)).run P w = .ok vs w ∧ dL Fz κ w mY vs
 | [],rs,mY,hc,hs=>by cases hc;cases hs;exact ⟨[],by simp,trivial⟩
 | .tmp t :: l,rs,mY,hc,hs=>by
  obtain ⟨r,h1,rfl⟩:=zmm hc
  obtain ⟨x,h2,hs⟩:=zbm hs
  obtain ⟨m,h3,rfl⟩:=zmm hs
  obtain ⟨vs,e1,e2⟩:=yI h h1 h3
  have hv:=h.eval (x:=.tmp t) (y:=.t t) rfl h2
  refine ⟨a.tmps.getD t undef :: vs,?_,hv,e2⟩
  rw [List.mapM_cons]
  simp [Az,e1]
 | .cell ad t :: l,rs,mY,hc,hs=>by
  obtain ⟨g,hg,hc⟩:=zbm hc
  obtain ⟨n,hn,hc⟩:=zbm hc
  obtain ⟨r,h1,rfl⟩:=zmm hc
  obtain ⟨x,h2,hs⟩:=zbm hs
  obtain ⟨m,h3,rfl⟩:=zmm hs
  obtain ⟨vs,e1,e2⟩:=yI h h1 h3
  simp only [slot] at h2
  split at h2
  ·rename_i key off hk
   split at h2
   ·rename_i xs gu
    obtain ⟨sg,h5,h6⟩:=zbm h2
    have hv:jk Fz κ w (.c (.one (.ptr key off))) (a.tmps.getD ad undef):=h.val hk
    obtain ⟨b,g1,g2⟩:=hv
    obtain ⟨b',cs,e,g3,g4,g5⟩:=h.obj gu
    rw [g1] at g3
    cases g3
    obtain ⟨e6,e7,e8⟩:=g5.seg h5
    obtain ⟨v,e9,e10⟩:=ni (P:=P) (b:=b) (o:=off) hg hn e6 (fun j v hj=>by
     have:=qz (w:=w) (b:=b) (o:=0) (off:=off) (vs:=cs.toList) (n:=if g then n else 1) (fun j v hj=>by
      rw [Nat.zero_add]
      simp only [World.cell?,g4]
      simpa using hj) j v hj
     rwa [Nat.zero_add] at this) e7 h6
    refine ⟨v :: vs,?_,e10,e2⟩
    have ha:(asAddr (a.tmps.getD ad undef)).run P w = .ok ⟨b,off,none⟩ w:=by rw [g2];rfl
    have hro:(Az a.tmps (.cell ad t)).run P w = .ok v w:=by
     simp only [Az,Sem.run_bind,ha,Result.andThen_ok]
     exact e9
    rw [List.mapM_cons]
    simp only [Sem.run_bind,hro,e1,Result.andThen_ok,Sem.run_pure]
   ·cases h2
  ·cases h2
theorem F8 (h:Rel bG w0 bF N Fz κ σ a w) {fn:Func} {rs:List Rs} {mY:List CV} (hc:ny P fn.results.toList = some rs) (hs:slots σ rs = some mY):∃ vs,(results fn a.tmps).run P w = .ok (ret vs) w ∧ dL Fz κ w mY vs:=by
 obtain ⟨vs,h1,h2⟩:=yI h hc hs
 refine ⟨vs,?_,h2⟩
 have he:results fn a.tmps = (do let vs ← fn.results.mapM (Az a.tmps);pure (if h:vs.size = 1 then vs[0] else .tuple vs)):=by
  unfold results Az
  congr 1
 rw [he,Array.mapM_eq_mapM_toList]
 simp only [Sem.run_bind,Sem.run_map,h1,Result.andThen_ok,Sem.run_pure]
 match vs with
 | []=>rfl
 | [x]=>rfl
 | x :: y :: l=>simp [ret]
theorem LV {fn:Func} {cf:CF} {fK rs rY:List AV} {vals:List Value} {mY:List CV} {N:Fr} (hr:ny P fn.results.toList = some cf.res) (ha:fP Fz w fK vals bs) (hap:∀ b ∈ bs,¬ Fz b ∧ b < w.heap.size) (hfz:∀ b,Fz b → b < w.heap.size) (g2:dL Fz jl w mY vals) :
  ∀ a' w',Ok Fz w bs N jl σ a' w' → ((jX σ mY fK).bind fun b=>(slots b.2 cf.res).bind fun l=>(mF cf.ro b.2 l).map fun r=>(r.1,b.1)) = some (rs,rY) →
    a'.defers = N.ds ∧ ∃ v,(results fn a'.tmps).run P w' = .ok v w' ∧ ∃ bJ uX b1 b2,Ending.returned v = .returned (ret uX) ∧ Post Fz w vals bs rs rY bJ w' uX b1 b2:=by
 rintro a' w' ⟨F1,κ,hr1,hk⟩ hE
 obtain ⟨b,h3,hE⟩:=zbm hE
 obtain ⟨l,h4,hE⟩:=zbm hE
 obtain ⟨r,h5,h6⟩:=zmm hE
 cases h6
 have hmv:∀ b,Fz b → w'.heap[b]? = w.heap[b]?:=fun b hb=>hr1.ext b (hfz b hb) (fun hm=>(hap b hm).1 hb)
 obtain ⟨F2,b1,e1,e2,e3⟩:=Ay hk hr1.x g2 ha (fun b hb=>hr1.zH b hb) hmv h3
 rw [List.append_nil] at e1
 obtain ⟨uX,e4,e5⟩:=F8 e1.rel hr h4
 obtain ⟨F3,b2,e6,e7,e8⟩:=D7 e1 e5 h5
 have hpm:=e6.perm List.perm_append_comm
 refine ⟨hr1.mg,ret uX,e4,F3,uX,b1,b2,rfl,fun b hb=>e7 b (e2 b (hr1.zH b hb)),fun b hb=>e6.rel.fz b hb,hr1.big,hr1.ext,hr1.kp,e3.mono e7 (fun _ _=>rfl) (fun _ _=>rfl),e8,hpm.mg,fun b hb=>?_⟩
 have:=hpm.ap b hb
 exact ⟨this.1,this.2.1,this.2.2.1⟩
theorem fP.len : ∀ {xs:List AV} {vs:List Value} {b:List Nat},fP Fz w xs vs b → vs.length = xs.length
 | [],[],_,_=>rfl
 | [],_ :: _,_,h=>h.elim
 | _ :: _,[],_,h=>h.elim
 | x :: xs,v :: vs,_,⟨_,_,_,h2,_⟩=>by simp [fP.len h2]
theorem entered {bo:List Nat} {n:Nat} {fK:List AV} {vals:List Value} {mY:List CV} (ha:fP Fz w fK vals bs) (hnd:bs.Nodup) (hap:∀ b ∈ bs,¬ Fz b ∧ b < w.heap.size) (hfz:∀ b,Fz b → b < w.heap.size)
  (hsz:(vals.toArray ++ Array.replicate (n - vals.toArray.size) undef).size = n) (h1:enter bo 0 [] ⟨[],[]⟩ fK = some (mY,σ)) :
  ∃ jl,Ok Fz w bs (Fr.of n) jl σ { tmps:=vals.toArray ++ Array.replicate (n - vals.toArray.size) undef,defers:=[] } w ∧ dL Fz jl w mY vals:=by
 have Y4:bT Fz w bs (Fr.of n) (bs ++ []) Fz (fun _=>undef) ⟨[],[]⟩ { tmps:=vals.toArray ++ Array.replicate (n - vals.toArray.size) undef,defers:=[] } w :=
  ⟨⟨fun p hp=>by simp at hp,hsz,rfl,fun d hd=>by
   rw [Array.getD_eq_getD_getElem?,Array.getElem?_eq_none (by rw [hsz];simpa [Fr.of,Uw] using hd)];rfl,fun p hp=>by simp at hp,fun p hp=>by simp at hp,fun p hp=>by simp at hp,fun b hb=>⟨hfz b hb,.inl hb⟩,fun _ h=>h,Nat.le_refl _,fun _ _ _=>rfl,rfl,rfl⟩,by rw [List.append_nil];exact hnd,fun b hb=>by
   rw [List.append_nil] at hb
   exact ⟨(hap b hb).1,(hap b hb).2,.inl hb,fun p hp=>by simp at hp⟩⟩
 obtain ⟨jl,g1,g2,_⟩:=D5 Y4 ha (fun j v hj=>by
  rw [Nat.zero_add,Array.getD_eq_getD_getElem?,Array.getElem?_append_left (by
   have:=(List.getElem?_eq_some_iff.mp hj).1
   simpa using this)]
  simp [hj]) (show bA Fz (fun _=>undef) w [] [] from trivial) h1
 exact ⟨jl,⟨Fz,jl,g1.rel,fun _ _=>rfl⟩,g2⟩
theorem AA (hm:P.follows .mixedOrders = true) (heq:∀ t ∈ X.eqs,lK P t) (l5:iN P Γ) (hC:eD P Γ) {f:FuncId} {fn:Func} {c:Code} (hf:P.funcs[f]? = some fn) (hb:fn.body = some c) {cf:CF} {hints rest:List Hi}
  (hc:comp P X (Uw fn.ntmps) c hints = some (cf.body,rest)) (hr:ny P fn.results.toList = some cf.res) (hnp:cf.np ≤ fn.ntmps) (F:Nat):Sat P f (KL Γ F cf):=by
 intro fK rs rY hE Fz w vals bs ha hnd hap hfz
 unfold KL at hE
 split at hE
 ·cases hE
 ·rename_i hlen
  have hlen':fK.length = cf.np:=Decidable.not_not.mp hlen
  have hvl:vals.length = fK.length:=ha.len
  obtain ⟨e,h1,hE⟩:=zbm hE
  obtain ⟨p,h2,hE⟩:=zbm hE
  refine calls_of_wp hf hb ?_
  have hsz:(vals.toArray ++ Array.replicate (fn.ntmps - vals.toArray.size) undef).size = fn.ntmps:=by simp;omega
  obtain ⟨jl,hok,g2⟩:=entered ha hnd hap hfz hsz h1
  have fin:=fun a' w'=>LV (σ:=p.2) (N:=Fr.of fn.ntmps) (rs:=rs) (rY:=rY) (cf:=cf) hr ha hap hfz g2 a' w'
  refine DZ hm heq l5 hC c hc hok h2 fun a' w' hO=>?_
  cases hp:p.1 with
  | jd=>rw [hp] at hE;exact fin a' w' hO hE
  | ret=>rw [hp] at hE;exact fin a' w' hO hE
  | ext id=>rw [hp] at hE;cases hE
end
end Go.Proofs.Ytfokaoeinpnagaa.Ev
namespace Go.Proofs.Ytfokaoeinpnagaa.Ev
open Go
structure Tok {α:Type} (k:α → Prop):Type where
def W {α:Type} (k:α → Prop) (_:Tok k) (x:Option α):Prop:=∃ a,x = some a ∧ k a
section
variable {α β:Type} {k:α → Prop} {u:Tok k}
theorem gN {a:α}:W k u (some a) ↔ k a:=by simp [W]
theorem uY : W k u none ↔ False:=by simp [W]
theorem F9 {x:Option β} {f:β → Option α}:W k u (x.bind f) ↔ W (fun a=>W k ⟨⟩ (f a)) ⟨⟩ x:=by
 cases x <;> simp [W]
theorem LW {x:Option β} {f:β → α}:W k u (x.map f) ↔ W (fun a=>k (f a)) ⟨⟩ x:=by
 cases x <;> simp [W]
theorem Y5 {c:Prop} [Decidable c] {a b:Option α}:W k u (if c then a else b) ↔ (c → W k u a) ∧ (¬ c → W k u b):=by
 by_cases h:c <;> simp [h]
theorem Ga {c:Prop} [Decidable c] {a:Option α}:W k u (if c then a else none) ↔ c ∧ W k u a:=by
 by_cases h:c <;> simp [h,uY]
theorem Gb {c:Prop} [Decidable c] {a:Option α}:W k u (if c then none else a) ↔ ¬ c ∧ W k u a:=by
 by_cases h:c <;> simp [h,uY]
theorem uZ {j:α → Prop} {x:Option α} (h:W j ⟨⟩ x) (hi:∀ a,j a → k a):W k u x:=by
 obtain ⟨a,h1,h2⟩:=h;exact ⟨a,h1,hi a h2⟩
end
def V {α:Type} (k:α → Prop) (x:Option α):Prop:=∃ a,x = some a ∧ k a
section
variable {α β:Type} {k:α → Prop} {u:Tok k}
theorem dO {x:Option α}:W k u x ↔ V k x:=Iff.rfl
theorem bH {a:α}:V k (some a) ↔ k a:=by simp [V]
theorem jv : V k none ↔ False:=by simp [V]
theorem bq {x:Option β} {f:β → Option α}:V k (x.bind f) ↔ V (fun a=>V k (f a)) x:=by
 cases x <;> simp [V]
theorem bX {x:Option β} {f:β → α}:V k (x.map f) ↔ V (fun a=>k (f a)) x:=by
 cases x <;> simp [V]
theorem bN {c:Prop} [Decidable c] {a:Option α}:V k (if c then a else none) ↔ c ∧ V k a:=by
 by_cases h:c <;> simp [h,jv]
theorem dw {c:Prop} [Decidable c] {a:Option α}:V k (if c then none else a) ↔ ¬ c ∧ V k a:=by
 by_cases h:c <;> simp [h,jv]
theorem bY {j:β → Prop}:V k none ↔ V j none:=jv.trans jv.symm
theorem lN {j:β → Prop} {a:α} {b:β} (h:k a ↔ j b):V k (some a) ↔ V j (some b):=bH.trans (h.trans bH.symm)
theorem cK {x:Option α} {j:α → Prop} (h:∀ a,j a ↔ k a):V j x ↔ V k x:=by
 have:j = k:=funext fun a=>propext (h a)
 rw [this]
end
structure Y6 (A B:Unit → Prop):Type where
def Br (b:Bool) (A B:Unit → Prop) (_:Y6 A B):Prop:=(b = true → A ()) ∧ (b = false → B ())
theorem Pm {A B:Unit → Prop} {u:Y6 A B}:Br true A B u ↔ A ():=by simp [Br]
theorem LX {A B:Unit → Prop} {u:Y6 A B}:Br false A B u ↔ B ():=by simp [Br]
theorem Vb {b:Bool} {A B:Unit → Prop} {u:Y6 A B}:Br (!b) A B u ↔ Br b B A ⟨⟩:=by cases b <;> simp [Br]
theorem dY {b:Bool} {A B:Unit → Prop} {u:Y6 A B} (h1:b = true → A ()) (h2:b = false → B ()):Br b A B u:=⟨h1,h2⟩
theorem LY {α:Type} {x:Option α} {a:α} (h:W (fun b=>b = a) ⟨⟩ x):x = some a:=by
 obtain ⟨b,h1,rfl⟩:=h;exact h1
theorem Ci {body:St → Option (Out × St)} {rs:St → St} {k:Out × St → Prop} {u:Tok k} (I:Nat → St → Prop)
  (hstep:∀ m σ,I m σ → W (fun p=>match p.1 with
   | .jd=>∃ j,j < m ∧ I j p.2
   | o=>k (o,p.2)) ⟨⟩ (body (rs σ))):∀ (F m:Nat) (σ:St),m < F → I m σ → W k u (iter body rs F σ)
 | 0,m,σ,h,_=>by omega
 | F + 1,m,σ,h,hI=>by
  obtain ⟨p,h1,h2⟩:=hstep m σ hI
  unfold iter
  rw [h1,Option.bind_some]
  obtain ⟨o,s⟩:=p
  cases o with
  | jd =>
   obtain ⟨j,hj,hI'⟩:=h2
   exact Ci I hstep F j s (by omega) hI'
  | ext i=>exact gN.mpr h2
  | ret=>exact gN.mpr h2
theorem SF {body:St → Option (Out × St)} {rs:St → St} {k:Out × St → Prop} {u:Tok k} {F:Nat} (N:Nat) (S:Nat → St) (P:Nat → Prop) (hF:N < F) (h0:P 0)
  (step:∀ i,i < N → P i → W (fun p=>match p.1 with
   | .jd=>p.2 = S (i + 1) ∧ P (i + 1)
   | o=>k (o,p.2)) ⟨⟩ (body (rs (S i))))
  (last:P N → W (fun p=>match p.1 with
   | .jd=>False
   | o=>k (o,p.2)) ⟨⟩ (body (rs (S N)))):W k u (iter body rs F (S 0)):=by
 refine Ci (fun m σ=>∃ i,i ≤ N ∧ m = N - i ∧ σ = S i ∧ P i) ?_ F N (S 0) hF ⟨0,Nat.zero_le _,rfl,rfl,h0⟩
 rintro m σ ⟨i,hi,rfl,rfl,hP⟩
 by_cases hlt:i < N
 ·refine uZ (step i hlt hP) fun p hp=>?_
  obtain ⟨o,s⟩:=p
  cases o with
  | jd=>exact ⟨N - (i + 1),by omega,i + 1,by omega,rfl,hp.1,hp.2⟩
  | ext j=>exact hp
  | ret=>exact hp
 ·have:i = N:=by omega
  subst this
  refine uZ (last hP) fun p hp=>?_
  obtain ⟨o,s⟩:=p
  cases o with
  | jd=>exact hp.elim
  | ext j=>exact hp
  | ret=>exact hp
def look : List (FuncId × CF) → FuncId → Option CF
 | [],_=>none
 | (k,c) :: l,f=>if k = f then some c else look l f
noncomputable def Gm (yJ:List (FuncId × CF)) (ext:Env) (F:Nat):Nat → Env
 | 0=>fun _ _=>none
 | n + 1=>fun f fK=>match look yJ f with
  | some cf=>KL (Gm yJ ext F n) F cf fK
  | none=>ext f fK
structure kT (P:Program) (f:FuncId) (cf:CF):Prop where
 ok:∃ fn c X hints rest,P.funcs[f]? = some fn ∧ (fn.name == "runtime.NumGoroutine") = false ∧ fn.body = some c ∧ (∀ t ∈ X.eqs,lK P t) ∧ comp P X (Uw fn.ntmps) c hints = some (cf.body,rest) ∧ ny P fn.results.toList = some cf.res ∧ cf.np ≤ fn.ntmps
theorem yK : ∀ {l:List (FuncId × CF)} {f:FuncId} {c:CF},look l f = some c → (f,c) ∈ l
 | [],_,_,h=>by cases h
 | (k,d) :: l,f,c,h=>by
  unfold look at h
  split at h
  ·rename_i e;subst e;cases h;simp
  ·exact List.mem_cons_of_mem _ (yK h)
theorem LZ {P:Program} {yJ:List (FuncId × CF)} {ext:Env} {F:Nat} (hm:P.follows .mixedOrders = true) (ht:∀ p ∈ yJ,kT P p.1 p.2) (he:iN P ext) (hec:eD P ext):∀ n,iN P (Gm yJ ext F n) ∧ eD P (Gm yJ ext F n)
 | 0=>⟨fun f fK rs rY h=>by simp [Gm] at h,fun f fK r h=>by simp [Gm] at h⟩
 | n + 1=>by
  obtain ⟨h1,h2⟩:=LZ hm ht he hec n
  constructor
  ·intro f
   cases hl:look yJ f with
   | none =>
    have:Gm yJ ext F (n + 1) f = ext f:=by funext fK;simp only [Gm,hl]
    rw [this];exact he f
   | some cf =>
    have:Gm yJ ext F (n + 1) f = KL (Gm yJ ext F n) F cf:=by funext fK;simp only [Gm,hl]
    rw [this]
    obtain ⟨fn,c,X,hints,rest,e1,_,e2,e3,e4,e5,e6⟩:=(ht _ (yK hl)).ok
    exact AA hm e3 h1 h2 e1 e2 e4 e5 e6 F
  ·intro f fK r h
   cases hl:look yJ f with
   | none=>exact hec f fK r (by simpa only [Gm,hl] using h)
   | some cf =>
    obtain ⟨fn,c,X,hints,rest,e1,e0,e2,_⟩:=(ht _ (yK hl)).ok
    exact ⟨fn,e1,e0,by rw [e2];rfl⟩
theorem eF {yJ:List (FuncId × CF)} {ext:Env} {F n:Nat} {f:FuncId} {cf:CF} {fK:List AV} {r:List AV × List AV} (hl:look yJ f = some cf) (h:W (fun z=>z = r) ⟨⟩ (KL (Gm yJ ext F n) F cf fK)):Gm yJ ext F (n + 1) f fK = some r:=by
 simp only [Gm,hl]
 exact LY h
theorem mH {yJ:List (FuncId × CF)} {ext:Env} {F n:Nat} {f:FuncId} (hl:look yJ f = none):Gm yJ ext F (n + 1) f = ext f:=by
 funext fK;simp only [Gm,hl]
end Go.Proofs.Ytfokaoeinpnagaa.Ev
namespace Go.Proofs.Ytfokaoeinpnagaa.Ev
open Go
attribute [go_sem ↓] F9 LW uY Ga Gb
attribute [go_sem] gN
attribute [go_sem ↓] Pm LX Vb
section
variable {α β:Type} {k:α → Prop} {u:Tok k}
@[go_sem ↓] theorem aeQ {c:Prop} [Decidable c] {a b:Option α}:W k u (if c then a else b) ↔ (c → W k u a) ∧ (¬ c → W k u b):=Y5
end
def JH : CV → Option (Nat × Nat)
 | .one (.ptr k o)=>some (k,o)
 | _=>none
def qR : CV → Option ByteArray
 | .one (.f (.str s))=>some s
 | _=>none
def L6 : CV → Option (List PL)
 | .agg l=>some l
 | _=>none
def Vd : PV → Option (List CV)
 | .uQ l=>some l
 | _=>none
@[go_sem] theorem Y7 {l:List CV}:Vd (.uQ l) = some l:=rfl
def fav (off:Nat):CV → Option CV
 | .one (.ptr key o)=>some (.one (.ptr key (o + off)))
 | .one (.fp cs)=>some (.one (.fp (cs.drop off)))
 | .one (.rp key z i o)=>some (.one (.rp key z i (o + off)))
 | _=>none
@[go_sem] theorem ab0 {off k o:Nat}:fav off (.one (.ptr k o)) = some (.one (.ptr k (o + off))):=rfl
@[go_sem] theorem aeR {off:Nat} {cs:List FV}:fav off (.one (.fp cs)) = some (.one (.fp (cs.drop off))):=rfl
@[go_sem] theorem aeS {off k z i o:Nat}:fav off (.one (.rp k z i o)) = some (.one (.rp k z i (o + off))):=rfl
def Ve : CV → Option Bool
 | .one .dN=>some true
 | .one (.f (.sl (_ :: _)))=>some false
 | _=>none
@[go_sem] theorem aeT : Ve (.one .dN) = some true:=rfl
@[go_sem] theorem aeU {r:List FV} {l:List (List FV)}:Ve (.one (.f (.sl (r :: l)))) = some false:=rfl
section
variable {α : Type}
@[go_sem] theorem get_nil {i:Nat}:get ([]:List (Nat × α)) i = none:=rfl
@[go_sem] theorem Y8 {k:Nat} {v:α} {l:List (Nat × α)} {i:Nat}:get ((k,v) :: l) i = if k = i then some v else get l i:=rfl
@[go_sem] theorem ab1 {i:Nat}:rem ([]:List (Nat × α)) i = []:=rfl
@[go_sem] theorem Y9 {k:Nat} {v:α} {l:List (Nat × α)} {i:Nat}:rem ((k,v) :: l) i = if k = i then rem l i else (k,v) :: rem l i:=rfl
@[go_sem] theorem ab2 {i:Nat} {v:α}:put ([]:List (Nat × α)) i v = [(i,v)]:=rfl
@[go_sem] theorem Za {k:Nat} {w:α} {l:List (Nat × α)} {i:Nat} {v:α}:put ((k,w) :: l) i v = if k = i then (i,v) :: rem l i else (k,w) :: put l i v:=rfl
def L8 (k:Nat) (r:List (Nat × α)):Option α → List (Nat × α)
 | some v=>(k,v) :: r
 | none=>r
@[go_sem] theorem Vf {k:Nat} {v:α} {r:List (Nat × α)}:L8 k r (some v) = (k,v) :: r:=rfl
@[go_sem] theorem Vg {k:Nat} {r:List (Nat × α)}:L8 k r none = r:=rfl
@[go_sem] theorem Zb {l:List (Nat × α)}:pick [] l = []:=rfl
@[go_sem] theorem Xo {k:Nat} {ks:List Nat} {l:List (Nat × α)}:pick (k :: ks) l = L8 k (pick ks l) (get l k):=by
 unfold pick
 rw [List.filterMap_cons]
 cases get l k <;> rfl
end
section
variable {Γ : Env} {F d:Nat} {q:Bool} {σ:St}
section
variable {k : Out × St → Prop} {u:Tok k}
@[go_sem ↓] theorem aeV : W k u (ev Γ F .skip σ) ↔ k (.jd,σ):=by simp only [ev];exact gN
@[go_sem ↓] theorem agd {is:List G} {ks:List Nat}:W k u (ev Γ F (.reg is ks) σ) ↔ W (fun s=>W k ⟨⟩ (some (.jd,⟨pick ks s.tm,s.ob⟩))) ⟨⟩ (xR Γ false is σ):=by simp only [ev,dO,bX,bH]
@[go_sem ↓] theorem agf {pre:List (G × List Nat)} {lV:List Nat} {jR rest:List G} {ks:List Nat}:W k u (ev Γ F (.sG pre lV jR rest ks) σ) ↔ W (fun s=>W k ⟨⟩ (some (.jd,⟨pick ks s.tm,s.ob⟩))) ⟨⟩ (Xl Γ pre lV jR rest σ):=by simp only [ev,dO,bX,bH]
@[go_sem ↓] theorem Zc {gs:List G} {ks pz:List Nat} {r:St}:lX Γ gs ks pz σ r [] ↔ True:=Iff.rfl
@[go_sem ↓] theorem Xp {gs:List G} {ks pz:List Nat} {r:St} {o:List Nat} {os:List (List Nat)}:lX Γ gs ks pz σ r (o :: os) ↔ W (fun s=>W (fun t=>t = r) ⟨⟩ (some (⟨pick ks s.tm,pick pz s.ob⟩:St))) ⟨⟩ (xR Γ false (o.map fun i=>gs.getD i default) σ) ∧ lX Γ gs ks pz σ r os:=by
 conv=>lhs;unfold lX
 simp only [dO,V,Option.some.injEq,exists_eq_left']
@[go_sem ↓] theorem agh {gs:List G} {o:List Nat} {os:List (List Nat)} {ks pz:List Nat}:W k u (ev Γ F (.any gs (o :: os) ks pz) σ) ↔ W (fun s=>W (fun r=>lX Γ gs ks pz σ r os ∧ W k ⟨⟩ (some (.jd,r))) ⟨⟩ (some (⟨pick ks s.tm,pick pz s.ob⟩:St))) ⟨⟩ (xR Γ false (o.map fun i=>gs.getD i default) σ):=by
 simp only [ev,evO,dO,bq,bN,bH]
@[go_sem ↓] theorem agi {a b:CC}:W k u (ev Γ F (.seq a b) σ) ↔ W (fun p=>match p.1 with
  | .jd=>W k ⟨⟩ (ev Γ F b p.2)
  | o=>k (o,p.2)) ⟨⟩ (ev Γ F a σ):=by
 simp only [ev,dO,bq]
 refine cK fun p=>?_
 obtain ⟨o,s⟩:=p
 cases o <;> first | rfl | exact bH
@[go_sem ↓] theorem aeW {c:dZ} {a b:CC}:W k u (ev Γ F (.cond c a b) σ) ↔ W (fun v=>W (fun t=>Br t (fun _=>W k ⟨⟩ (ev Γ F a σ)) (fun _=>W k ⟨⟩ (ev Γ F b σ)) ⟨⟩) ⟨⟩ (bool? v)) ⟨⟩ (val σ c):=by
 simp only [ev,dO,bq]
 refine cK fun v=>cK fun t=>?_
 cases t <;> simp [Br,dO]
@[go_sem ↓] theorem ab3 {id:Nat} {c:CC}:W k u (ev Γ F (.block id c) σ) ↔ W (fun p=>match p.1 with
  | .ext i=>if i = id then k (.jd,p.2) else k (.ext i,p.2)
  | o=>k (o,p.2)) ⟨⟩ (ev Γ F c σ):=by
 simp only [ev,dO,bX]
 refine cK fun p=>?_
 obtain ⟨o,s⟩:=p
 cases o with
 | ext i=>by_cases hi:i = id <;> simp [hi]
 | _=>exact Iff.rfl
@[go_sem ↓] theorem jZ {keep Dm:List Nat} {rws:List (Nat × Nat)} {c:CC}:W k u (ev Γ F (.loop keep Dm rws c) σ) ↔ W k u (iter (ev Γ F c) (res keep Dm rws) F σ):=by simp only [ev]
@[go_sem ↓] theorem aeX {id:Nat}:W k u (ev Γ F (.exit id) σ) ↔ k (.ext id,σ):=by simp only [ev];exact gN
@[go_sem ↓] theorem agj : W k u (ev Γ F .ret σ) ↔ k (.ret,σ):=by simp only [ev];exact gN
end
section
variable {k : St → Prop} {u:Tok k}
@[go_sem ↓] theorem Xq : W k u (xR Γ q [] σ) ↔ k σ:=gN
@[go_sem ↓] theorem Vh {g:G} {l:List G}:W k u (xR Γ q (g :: l) σ) ↔ W (fun s=>W k ⟨⟩ (xR Γ q l s)) ⟨⟩ (OI Γ q σ g):=by
 show W k u ((OI Γ q σ g).bind (xR Γ q l)) ↔ _
 rw [F9]
@[go_sem ↓] theorem agk {g:G}:W k u (OI Γ q σ g) ↔ W (fun p=>W k ⟨⟩ (some (sO p.2 g.dst p.1))) ⟨⟩ (mE Γ q σ g):=by simp only [OI,dO,bX,bH]
def Vi (f:Nat → Option (PV × St)):List Nat → Prop
 | []=>True
 | j :: l=>W (fun _=>True) ⟨⟩ (f j) ∧ Vi f l
theorem Ie {f:Nat → Option (PV × St)}:∀ {l:List Nat},l.all (fun j=>(f j).isSome) = true ↔ Vi f l
 | []=>by simp [Vi]
 | j :: l=>by
  rw [List.all_cons,Bool.and_eq_true,Ie (l:=l)]
  refine and_congr_left fun _=>?_
  cases h:f j with
  | none=>simp [uY]
  | some y=>simp [gN]
@[go_sem ↓] theorem ab4 {f:Nat → Option (PV × St)}:Vi f [] ↔ True:=Iff.rfl
@[go_sem ↓] theorem Zd {f:Nat → Option (PV × St)} {j:Nat} {l:List Nat}:Vi f (j :: l) ↔ W (fun _=>True) ⟨⟩ (f j) ∧ Vi f l:=Iff.rfl
def wkv : Option CV → List Nat
 | some (.one (.ptr k _))=>[k]
 | _=>[]
@[go_sem] theorem ab5 {k o:Nat}:wkv (some (.one (.ptr k o))) = [k]:=rfl
@[go_sem] theorem ab6 {tm:List (Nat × PV)} {dst:Option Nat} {gd:Option (Option Nat × Bool)} {n:Nat} {x y:dZ}:sQ tm ⟨dst,gd,.store n x y⟩ = wkv (val ⟨tm,[]⟩ x):=by
 show (match val ⟨tm,[]⟩ x with | some (.one (.ptr k _))=>[k] | _=>[]) = _
 cases val ⟨tm,[]⟩ x with
 | none=>rfl
 | some v=>cases v with
  | one y=>cases y <;> rfl
  | agg _=>rfl
@[go_sem ↓] theorem agl {pre:List (G × List Nat)} {lV:List Nat} {jR rest:List G}:W k u (Xl Γ pre lV jR rest σ) ↔ pre.all (fun g=>!jc g.1.i || fresh σ (dF (g.1.dst.getD 999))) = true ∧ W (fun s=>W (fun tm=>Vi (fun j=>mE Γ true ⟨tm,σ.ob.filter (fun p=>!(jR.flatMap (sQ tm)).contains p.1)⟩ (pre.getD j default).1) lV ∧ W (fun ob=>W (fun s=>W k ⟨⟩ (xR Γ false rest s)) ⟨⟩ (some ⟨tm,ob⟩)) ⟨⟩ (KX Γ tm jR s.ob)) ⟨⟩ (some (pick (s.tm.map (·.1)) s.tm))) ⟨⟩ (OJ Γ σ.ob pre σ):=by
 simp only [Xl,dO,bq,bN,bH,← Ie]
@[go_sem ↓] theorem Xr {q9:List (Nat × Ob)}:W k u (OJ Γ q9 [] σ) ↔ k σ:=gN
@[go_sem ↓] theorem Vj {q9:List (Nat × Ob)} {g:G} {nk:List Nat} {l:List (G × List Nat)}:W k u (OJ Γ q9 ((g,nk) :: l) σ) ↔ W (fun p=>nk.any (fun k=>q8 k p.1 || (jc g.i && (p.2.ob.take 1).any (fun r=>r.1 == k || mD k r.2))) = false ∧ W (fun s=>W k ⟨⟩ (OJ Γ q9 l s)) ⟨⟩ (some ⟨sP g.dst σ.tm p.1,if jc g.i then p.2.ob.take 1 ++ σ.ob else σ.ob⟩)) ⟨⟩ (mE Γ true ⟨σ.tm,q9⟩ g):=by
 conv=>lhs;unfold OJ
 simp only [dO,bq,dw,bH,Bool.not_eq_true]
end
section
variable {k : List (Nat × Ob) → Prop} {u:Tok k} {tm:List (Nat × PV)} {ob:List (Nat × Ob)}
@[go_sem ↓] theorem Xt : W k u (KX Γ tm [] ob) ↔ k ob:=gN
@[go_sem ↓] theorem Vk {n:Nat} {x y:dZ} {dst:Option Nat} {gd:Option (Option Nat × Bool)} {l:List G}:W k u (KX Γ tm (⟨dst,gd,.store n x y⟩ :: l) ob) ↔ W (fun v=>W (fun _=>W (fun p=>W k ⟨⟩ (KX Γ tm l p.2.ob)) ⟨⟩ (cO Γ true ⟨tm,ob⟩ 999 (.store n x y))) ⟨⟩ (JH v)) ⟨⟩ (val ⟨tm,ob⟩ x):=by
 conv=>lhs;unfold KX
 simp only
 cases hv:val ⟨tm,ob⟩ x with
 | none=>simp only [uY]
 | some v =>
  rw [gN]
  cases v with
  | one y=>cases y <;> simp only [JH,dO,jv,bH,bq]
  | agg xs=>simp only [JH,uY]
end
section
variable {i : Nat}
def vl : Option PV → Option CV
 | some (.c x)=>some x
 | _=>none
@[go_sem] theorem ab7 {x:CV}:vl (some (.c x)) = some x:=rfl
@[go_sem] theorem Ze : val σ (.t i) = vl (get σ.tm i):=by simp only [val];cases get σ.tm i with | none=>rfl | some v=>cases v <;> rfl
@[go_sem] theorem agm {x:CV}:val σ (.k x) = some x:=rfl
@[go_sem] theorem aeY : sN σ (.t i) = get σ.tm i:=rfl
@[go_sem] theorem aeZ {x:CV}:sN σ (.k x) = some (.c x):=rfl
@[go_sem] theorem Zf {k:IntKind} {n:Int}:int? (.one (.f (.int k n))) = some (k,n):=rfl
@[go_sem] theorem Vl {b:Bool}:bool? (.one (.f (.bool b))) = some b:=rfl
@[go_sem] theorem Zg {k o:Nat}:JH (.one (.ptr k o)) = some (k,o):=rfl
@[go_sem] theorem Zh {s:ByteArray}:qR (.one (.f (.str s))) = some s:=rfl
@[go_sem] theorem Zi {l:List PL}:L6 (.agg l) = some l:=rfl
@[go_sem] theorem cells_one {x:PL}:cells (.one x) = [x]:=rfl
@[go_sem] theorem Xu {xs:List PL}:cells (.agg xs) = xs:=rfl
def oc : Option Ob → Option (List PL)
 | some (.iV xs)=>some xs
 | _=>none
def L9 : Option Ob → Option (Nat × List (List FV))
 | some (.row sz rows)=>some (sz,rows)
 | _=>none
def om : Option Ob → Option (KS × List (KV × FC))
 | some (.map sh ents)=>some (sh,ents)
 | _=>none
@[go_sem] theorem ae0 {xs:List PL}:oc (some (.iV xs)) = some xs:=rfl
@[go_sem] theorem ab8 {sz:Nat} {rows:List (List FV)}:L9 (some (.row sz rows)) = some (sz,rows):=rfl
@[go_sem] theorem ae1 {sh:KS} {ents:List (KV × FC)}:om (some (.map sh ents)) = some (sh,ents):=rfl
def gb (want:Bool):Option PV → Option Bool
 | some (.c (.one (.f (.bool b))))=>some (b == want)
 | some (.c (.one .und))=>some false
 | _=>none
@[go_sem] theorem ab9 {b:Bool}:gb true (some (.c (.one (.f (.bool b))))) = some b:=by cases b <;> rfl
@[go_sem] theorem Zj {b:Bool}:gb false (some (.c (.one (.f (.bool b))))) = some (!b):=by cases b <;> rfl
@[go_sem] theorem ae2 {w:Bool}:gb w (some (.c (.one .und))) = some false:=rfl
@[go_sem] theorem Xv {v:PV}:sO σ (some i) v = ⟨put σ.tm i v,σ.ob⟩:=rfl
@[go_sem] theorem Xw {v:PV}:sO σ none v = σ:=rfl
@[go_sem] theorem Xx {tm:List (Nat × PV)} {v:PV}:sP (some i) tm v = put tm i v:=rfl
@[go_sem] theorem Xy {tm:List (Nat × PV)} {v:PV}:sP none tm v = tm:=rfl
end
section
variable {α : Type} {n off:Nat} {x:α} {xs ys:List α}
@[go_sem] theorem Zk : seg 0 0 xs = some []:=by simp [seg]
@[go_sem] theorem Zl : seg (n + 1) 0 (x :: xs) = (seg n 0 xs).map (x :: ·):=by
 unfold seg
 simp only [Nat.zero_add,List.length_cons,Nat.add_le_add_iff_right,List.drop_zero,List.take_succ_cons]
 split <;> rfl
@[go_sem] theorem Zm : seg n (off + 1) (x :: xs) = seg n off xs:=by
 unfold seg
 simp only [List.length_cons,List.drop_succ_cons]
 by_cases h:off + n ≤ xs.length
 ·rw [if_pos h,if_pos (by omega)]
 ·rw [if_neg h,if_neg (by omega)]
@[go_sem] theorem acd : lay 0 ([]:List α) xs = some xs:=by simp [lay]
@[go_sem] theorem ace {y:α}:lay 0 (y :: ys) (x :: xs) = (lay 0 ys xs).map (y :: ·):=by
 unfold lay
 simp only [Nat.zero_add,List.length_cons,Nat.add_le_add_iff_right,List.take_zero,List.drop_succ_cons,List.nil_append,List.cons_append]
 split <;> rfl
@[go_sem] theorem Zn : lay (off + 1) ys (x :: xs) = (lay off ys xs).map (x :: ·):=by
 unfold lay
 simp only [List.length_cons,List.take_succ_cons]
 rw [show off + 1 + ys.length = off + ys.length + 1 from by omega]
 by_cases h:off + ys.length ≤ xs.length
 ·rw [if_pos h,if_pos (by omega)];rfl
 ·rw [if_neg h,if_neg (by omega)];rfl
end
@[go_sem] theorem ae3 {xs:List PL}:mk true xs = some (.agg xs):=rfl
@[go_sem] theorem mk_one {x:PL}:mk false [x] = some (.one x):=rfl
def oZ (σ:St) (key:Nat):Option (List PL):=oc (get σ.ob key)
def iF (σ:St) (key:Nat):Option (Nat × List (List FV)):=L9 (get σ.ob key)
def oH (σ:St) (key:Nat):Option (KS × List (KV × FC)):=om (get σ.ob key)
attribute [go_sem] oZ iF oH Option.map_some Option.map_none Option.bind_some Option.bind_none
def kD (σ:St) (n:Nat):CV → Option (List PL)
 | .one (.ptr key off)=>(oZ σ key).bind (seg n off)
 | .one (.fp cs)=>(seg n 0 cs).map (·.map .f)
 | .one (.rp key z i off)=>(iF σ key).bind fun p=>if p.1 ≠ z then none else p.2[i]?.bind fun r=>(seg n off r).map (·.map .f)
 | _=>none
@[go_sem ↓] theorem SG {n key off:Nat}:kD σ n (.one (.ptr key off)) = (oZ σ key).bind (seg n off):=rfl
@[go_sem] theorem Vm {n:Nat} {cs:List FV}:kD σ n (.one (.fp cs)) = (seg n 0 cs).map (·.map .f):=rfl
section
variable {k : List PL → Prop} {u:Tok k}
@[go_sem ↓] theorem SH {n key off:Nat}:W k u (kD σ n (.one (.ptr key off))) ↔ W (fun xs=>W k ⟨⟩ (seg n off xs)) ⟨⟩ (oZ σ key):=F9
@[go_sem ↓] theorem Vn {n:Nat} {cs:List FV}:W k u (kD σ n (.one (.fp cs))) ↔ W (fun l=>k (l.map .f)) ⟨⟩ (seg n 0 cs):=LW
@[go_sem ↓] theorem Vo {n key z i off:Nat}:W k u (kD σ n (.one (.rp key z i off))) ↔ W (fun p=>p.1 = z ∧ W (fun r=>W (fun l=>k (l.map .f)) ⟨⟩ (seg n off r)) ⟨⟩ (p.2[i]?)) ⟨⟩ (iF σ key):=by
 simp only [kD,dO,bq,bX,dw,ne_eq,Decidable.not_not]
end
section
variable {k : PV × St → Prop} {u:Tok k} {x y c:dZ}
@[go_sem ↓] theorem ae4 {dst:Option Nat} {i:I}:W k u (mE Γ q σ ⟨dst,none,i⟩) ↔ W k u (cO Γ q σ (dst.getD 999) i):=Iff.rfl
@[go_sem ↓] theorem Xz {dst:Option Nat} {s:Nat} {want:Bool} {i:I}:W k u (mE Γ q σ ⟨dst,some (some s,want),i⟩) ↔ W (fun w=>Br w (fun _=>W k ⟨⟩ (cO Γ q σ (dst.getD 999) i)) (fun _=>k (.c (.one .und),σ)) ⟨⟩) ⟨⟩ (gb want (get σ.tm s)):=by
 have h:zN σ (some (some s,want)) = gb want (get σ.tm s):=by
  simp only [zN]
  cases get σ.tm s with
  | none=>rfl
  | some v =>
   cases v with
   | uQ l=>rfl
   | c x =>
    cases x with
    | agg l=>rfl
    | one p =>
     cases p with
     | f z=>cases z <;> rfl
     | _=>rfl
 simp only [mE,dO,bq,h]
 refine cK fun t=>?_
 cases t <;> simp [bH,Br,dO]
@[go_sem ↓] theorem aic : W k u (cO Γ q σ d (.mv x)) ↔ W (fun v=>k (v,σ)) ⟨⟩ (sN σ x):=by simp only [cO];exact LW
@[go_sem ↓] theorem ae5 : W k u (cO Γ q σ d (.pick c x y)) ↔ W (fun v=>W (fun t=>Br t (fun _=>W (fun z=>k (.c z,σ)) ⟨⟩ (val σ x)) (fun _=>W (fun z=>k (.c z,σ)) ⟨⟩ (val σ y)) ⟨⟩) ⟨⟩ (bool? v)) ⟨⟩ (val σ c):=by
 simp only [cO,dO,bq,bX]
 refine cK fun v=>cK fun t=>?_
 cases t <;> simp [Br,dO]
@[go_sem ↓] theorem acf {e:TypeId} {z:List PL}:W k u (cO Γ q σ d (.alloc e z)) ↔ z.any (dV (dF d)) = false ∧ W (fun s=>k (.c (.one (.ptr (dF d) 0)),s)) ⟨⟩ (new σ (dF d) (.iV z)):=by
 simp only [cO,dO,dw,iy,bX,Bool.not_eq_true]
@[go_sem ↓] theorem agn {e:TypeId}:W k u (cO Γ q σ d (.box e x)) ↔ W (fun v=>((cells v).any pG || (cells v).any (dV (dF d))) = false ∧ W (fun s=>k (.c (.one (.ptr (dF d) 0)),s)) ⟨⟩ (new σ (dF d) (.iV (cells v)))) ⟨⟩ (val σ x):=by
 simp only [cO,dO,bq,dw,iy,bX,Bool.not_eq_true]
@[go_sem ↓] theorem acg {z:List PL} {ps:List (Nat × Nat × dZ)}:W k u (cO Γ q σ d (.build z ps)) ↔ W (fun l=>W (fun z=>k (.c (.agg z),σ)) ⟨⟩ (fill z l)) ⟨⟩ (vals σ ps):=by
 simp only [cO,dO,bq,bX]
@[go_sem ↓] theorem agp {e:TypeId} {sz len:Nat} {z:List PL} {ps:List (Nat × Nat × dZ)}:W k u (cO Γ q σ d (.xk e sz len z ps)) ↔ W (fun l=>W (fun z=>(q && z.any gF) = false ∧ W (fun p=>W (fun s=>k (.c (.one (.own (dF d) len)),s)) ⟨⟩ (new p.2 (dF d) (.row sz (rowsOf sz len p.1)))) ⟨⟩ (kV σ z)) ⟨⟩ (fill z l)) ⟨⟩ (vals σ ps):=by
 simp only [cO,dO,bq,dw,iy,bX,Bool.not_eq_true]
@[go_sem ↓] theorem ae6 {n:Nat} {agg:Bool}:W k u (cO Γ q σ d (.load n agg x)) ↔ W (fun v=>W (fun l=>W (fun z=>k (.c z,σ)) ⟨⟩ (mk agg l)) ⟨⟩ (kD σ n v)) ⟨⟩ (val σ x):=by
 have h:cO Γ q σ d (.load n agg x) = (val σ x).bind fun v=>(kD σ n v).bind fun l=>(mk agg l).map fun z=>(.c z,σ):=by
  simp only [cO]
  congr 1
  funext v
  cases v with
  | agg l=>rfl
  | one p =>
   cases p with
   | ptr key off=>simp only [kD,oZ];cases get σ.ob key with | none=>rfl | some o=>cases o <;> rfl
   | fp cs=>simp only [kD];cases seg n 0 cs <;> rfl
   | rp key z i off =>
    simp only [kD,iF]
    cases get σ.ob key with
    | none=>rfl
    | some o =>
     cases o with
     | row sz rows =>
      simp only [L9,Option.bind_some]
      split
      ·rfl
      ·cases rows[i]? with
       | none=>rfl
       | some r=>simp only [Option.bind_some];cases seg n off r <;> rfl
     | _=>rfl
   | _=>rfl
 rw [h]
 simp only [dO,bq,bX]
def D9 (q:Bool) (σ:St) (ys:List PL):CV → Option St
 | .one (.ptr key off)=>(oZ σ key).bind fun xs=>(lay off ys xs).map fun l=>jm σ key (.iV l)
 | .one (.rp key z i off)=>if q && ys.any gF then none else (kV σ ys).bind fun p=>(iF p.2 key).bind fun o=>if o.1 ≠ z then none else o.2[i]?.bind fun r=>(lay off p.1 r).map fun l=>jm p.2 key (.row o.1 (o.2.set i l))
 | _=>none
@[go_sem ↓] theorem ach {n:Nat}:W k u (cO Γ q σ d (.store n x y)) ↔ W (fun v=>W (fun z=>((cells z).length = n ∧ (cells z).any pG = false) ∧ W (fun s=>k (.c (.one .und),s)) ⟨⟩ (D9 q σ (cells z) v)) ⟨⟩ (val σ y)) ⟨⟩ (val σ x):=by
 have h:cO Γ q σ d (.store n x y) = (val σ x).bind fun v=>(val σ y).bind fun z=>if (cells z).length = n ∧ (cells z).any pG = false then (D9 q σ (cells z) v).map fun s=>(.c (.one .und),s) else none:=by
  simp only [cO]
  congr 1
  funext v
  congr 1
  funext z
  split
  ·cases v with
   | agg l=>rfl
   | one p =>
    cases p with
    | ptr key off =>
     simp only [D9,oZ]
     cases get σ.ob key with
     | none=>rfl
     | some o=>cases o <;> first | rfl | (simp only [oc,Option.bind_some,Option.map_map];rfl)
    | rp key zz i off =>
     simp only [D9,iF]
     split
     ·rfl
     ·cases kV σ (cells z) with
      | none=>rfl
      | some p =>
       simp only [Option.bind_some]
       cases get p.2.ob key with
       | none=>rfl
       | some o =>
        cases o with
        | row sz rows =>
         simp only [L9,Option.bind_some]
         split
         ·rfl
         ·cases rows[i]? with
          | none=>rfl
          | some r=>simp only [Option.bind_some,Option.map_map];rfl
        | _=>rfl
    | _=>rfl
  ·rfl
 rw [h]
 simp only [dO,bq,bN,bX]
end
section
variable {k : St → Prop} {u:Tok k}
@[go_sem ↓] theorem Vp {ys:List PL} {key off:Nat}:W k u (D9 q σ ys (.one (.ptr key off))) ↔ W (fun xs=>W (fun l=>k (jm σ key (.iV l))) ⟨⟩ (lay off ys xs)) ⟨⟩ (oZ σ key):=by
 simp only [D9,dO,bq,bX]
@[go_sem ↓] theorem XA {ys:List PL} {key z i off:Nat}:W k u (D9 q σ ys (.one (.rp key z i off))) ↔ (q && ys.any gF) = false ∧ W (fun p=>W (fun o=>o.1 = z ∧ W (fun r=>W (fun l=>k (jm p.2 key (.row o.1 (o.2.set i l)))) ⟨⟩ (lay off p.1 r)) ⟨⟩ (o.2[i]?)) ⟨⟩ (iF p.2 key)) ⟨⟩ (kV σ ys):=by
 simp only [D9,dO,dw,bq,bX,ne_eq,Decidable.not_not,Bool.not_eq_true]
end
end
end Go.Proofs.Ytfokaoeinpnagaa.Ev
namespace Go.Proofs.Ytfokaoeinpnagaa.Ev
open Go
section
variable {Γ : Env} {F d:Nat} {q:Bool} {σ:St} {k:PV × St → Prop} {u:Tok k} {x y z:dZ}
def Pn : CV → Option CV
 | .one (.ptr k o)=>some (.one (.ptr k o))
 | .one (.fp cs)=>some (.one (.fp cs))
 | .one (.rp k z i o)=>some (.one (.rp k z i o))
 | _=>none
@[go_sem] theorem Zo {k o:Nat}:Pn (.one (.ptr k o)) = some (.one (.ptr k o)):=rfl
@[go_sem] theorem aci {cs:List FV}:Pn (.one (.fp cs)) = some (.one (.fp cs)):=rfl
@[go_sem] theorem acj {k z i o:Nat}:Pn (.one (.rp k z i o)) = some (.one (.rp k z i o)):=rfl
@[go_sem ↓] theorem ae7 : W k u (cO Γ q σ d (.mq x)) ↔ W (fun v=>W (fun w=>k (.c w,σ)) ⟨⟩ (Pn v)) ⟨⟩ (val σ x):=by
 simp only [cO,dO,bq]
 refine cK fun v=>?_
 cases v with
 | agg l=>exact bY
 | one p=>cases p <;> first | exact bY | exact lN Iff.rfl
def Zp : CV → Option Bool
 | .one .iw=>some true
 | .one (.ptr _ _)=>some false
 | .one (.fp _)=>some false
 | .one (.rp _ _ _ _)=>some false
 | _=>none
@[go_sem] theorem acn : Zp (.one .iw) = some true:=rfl
@[go_sem] theorem aco {k o:Nat}:Zp (.one (.ptr k o)) = some false:=rfl
@[go_sem] theorem ae8 {cs:List FV}:Zp (.one (.fp cs)) = some false:=rfl
@[go_sem] theorem ae9 {k z i o:Nat}:Zp (.one (.rp k z i o)) = some false:=rfl
@[go_sem ↓] theorem afa {neg:Bool}:W k u (cO Γ q σ d (.sH neg x)) ↔ W (fun v=>W (fun b=>k (.c (.one (.f (.bool (if neg then !b else b)))),σ)) ⟨⟩ (Zp v)) ⟨⟩ (val σ x):=by
 simp only [cO,dO,bq]
 refine cK fun v=>?_
 cases v with
 | agg l=>exact bY
 | one p=>cases p <;> first | exact bY | (cases neg <;> exact lN Iff.rfl)
@[go_sem ↓] theorem aie {off:Nat}:W k u (cO Γ q σ d (.fa off x)) ↔ W (fun v=>W (fun w=>k (.c w,σ)) ⟨⟩ (fav off v)) ⟨⟩ (val σ x):=by
 simp only [cO,dO,bq]
 refine cK fun v=>?_
 cases v with
 | agg l=>exact bY
 | one p=>cases p <;> first | exact bY | exact lN Iff.rfl
@[go_sem ↓] theorem aif {o:Ar}:W k u (cO Γ q σ d (.ar o x y)) ↔ W (fun a=>W (fun b=>W (fun a=>W (fun b=>a.1 = b.1 ∧ W (fun n=>k (.c (.one (.f (.int a.1 n))),σ)) ⟨⟩ (KH o a.1 a.2 b.2)) ⟨⟩ (int? b)) ⟨⟩ (int? a)) ⟨⟩ (val σ y)) ⟨⟩ (val σ x):=by
 simp only [cO,dO,bq,bN,one,bH]
@[go_sem ↓] theorem agq {o:Xg}:W k u (cO Γ q σ d (.cmp o x y)) ↔ W (fun a=>W (fun b=>W (fun a=>W (fun b=>a.1 = b.1 ∧ k (.c (.one (.f (.bool (xM o a.2 b.2)))),σ)) ⟨⟩ (int? b)) ⟨⟩ (int? a)) ⟨⟩ (val σ y)) ⟨⟩ (val σ x):=by
 simp only [cO,dO,bq,bN,one,bH]
@[go_sem] theorem acp {k:IntKind} {a b:Int}:KH .add k a b = some (k.wrap (a + b)):=rfl
@[go_sem] theorem acr {k:IntKind} {a b:Int}:KH .sub k a b = some (k.wrap (a - b)):=rfl
@[go_sem] theorem acs {k:IntKind} {a b:Int}:KH .mul k a b = some (k.wrap (a * b)):=rfl
section
variable {k : Int → Prop} {u:Tok k} {kk:IntKind} {a b:Int}
@[go_sem ↓] theorem agr : W k u (KH .quo kk a b) ↔ ¬ b = 0 ∧ k (kk.wrap (a.tdiv b)):=by simp only [KH,dO,dw,bH]
@[go_sem ↓] theorem ags : W k u (KH .rem kk a b) ↔ ¬ b = 0 ∧ k (a.tmod b):=by simp only [KH,dO,dw,bH]
end
section
variable {a b:Int}
@[go_sem] theorem acu : xM .eq a b = decide (a = b):=rfl
@[go_sem] theorem acv : xM .ne a b = !decide (a = b):=rfl
@[go_sem] theorem acw : xM .lt a b = decide (a < b):=rfl
@[go_sem] theorem acy : xM .le a b = decide (a ≤ b):=rfl
@[go_sem] theorem acz : xM .gt a b = decide (b < a):=rfl
@[go_sem] theorem acA : xM .ge a b = decide (b ≤ a):=rfl
end
@[go_sem ↓] theorem agt {sh:KS} {neg:Bool}:W k u (cO Γ q σ d (.qo sh neg x y)) ↔ W (fun a=>W (fun b=>W (fun a=>W (fun b=>(a.ks = sh ∧ b.ks = sh) ∧ k (.c (.one (.f (.bool (if neg then !decide (a = b) else decide (a = b))))),σ)) ⟨⟩ (keyOf b)) ⟨⟩ (keyOf a)) ⟨⟩ (val σ y)) ⟨⟩ (val σ x):=by
 simp only [cO,dO,bq,bN,one,bH]
@[go_sem ↓] theorem agu : W k u (cO Γ q σ d (.cat x y)) ↔ W (fun a=>W (fun b=>W (fun a=>W (fun b=>a.size + b.size ≤ 9223372036854775807 ∧ k (.c (.one (.f (.str (a ++ b)))),σ)) ⟨⟩ (qR b)) ⟨⟩ (qR a)) ⟨⟩ (val σ y)) ⟨⟩ (val σ x):=by
 simp only [cO,dO,bq]
 refine cK fun v=>cK fun w=>?_
 have no:V k none ↔ False:=jv
 have nb:∀ {g:ByteArray → Prop},V g none ↔ False:=jv
 have nn:∀ {x:Option ByteArray},V (fun _:ByteArray=>False) x ↔ False:=by intro x;cases x <;> simp [V]
 cases v with
 | agg l=>simp only [qR,no,nb]
 | one p =>
  cases p with
  | f a =>
   cases a with
   | str s =>
    cases w with
    | agg l=>simp only [qR,no,nb,bH]
    | one p =>
     cases p with
     | f b =>
      cases b with
      | str t=>simp only [qR,bH,bN,one]
      | _=>simp only [qR,no,nb,bH]
     | _=>simp only [qR,no,nb,bH]
   | _=>simp only [qR,no,nb]
  | _=>simp only [qR,no,nb]
@[go_sem ↓] theorem aii : W k u (cO Γ q σ d (.no x)) ↔ W (fun v=>W (fun b=>k (.c (.one (.f (.bool (!b)))),σ)) ⟨⟩ (bool? v)) ⟨⟩ (val σ x):=by
 simp only [cO,dO,bq,one,bH]
@[go_sem ↓] theorem aij {kk:IntKind}:W k u (cO Γ q σ d (.ci kk x)) ↔ W (fun v=>W (fun a=>k (.c (.one (.f (.int kk (kk.wrap a.2)))),σ)) ⟨⟩ (int? v)) ⟨⟩ (val σ x):=by
 simp only [cO,dO,bq,one,bH]
@[go_sem ↓] theorem agv : W k u (cO Γ q σ d (.mY x)) ↔ W (fun v=>W (fun s=>k (.c (.one (.f (.str s))),σ)) ⟨⟩ (qR v)) ⟨⟩ (val σ x):=by
 simp only [cO,dO,bq]
 refine cK fun v=>?_
 cases v with
 | agg l=>exact bY
 | one p=>cases p with
  | f a=>cases a <;> first | exact bY | exact lN Iff.rfl
  | _=>exact bY
@[go_sem ↓] theorem acB {sh:KS}:W k u (cO Γ q σ d (.pF sh)) ↔ W (fun s=>k (.c (.one (.mp (dF d))),s)) ⟨⟩ (new σ (dF d) (.map sh [])):=by
 simp only [cO,iy,dO,bX]
@[go_sem ↓] theorem aik : W k u (cO Γ q σ d (.mn x y)) ↔ W (fun a=>W (fun b=>W (fun a=>W (fun b=>a.1 = b.1 ∧ k (.c (.one (.f (.int a.1 (if b.2 < a.2 then b.2 else a.2)))),σ)) ⟨⟩ (int? b)) ⟨⟩ (int? a)) ⟨⟩ (val σ y)) ⟨⟩ (val σ x):=by
 simp only [cO,dO,bq,bN,one,bH]
@[go_sem ↓] theorem ail : W k u (cO Γ q σ d (.mx x y)) ↔ W (fun a=>W (fun b=>W (fun a=>W (fun b=>a.1 = b.1 ∧ k (.c (.one (.f (.int a.1 (if a.2 < b.2 then b.2 else a.2)))),σ)) ⟨⟩ (int? b)) ⟨⟩ (int? a)) ⟨⟩ (val σ y)) ⟨⟩ (val σ x):=by
 simp only [cO,dO,bq,bN,one,bH]
@[go_sem ↓] theorem agw {o:BinOp}:W k u (cO Γ q σ d (.bit o x y)) ↔ W (fun a=>W (fun b=>W (fun a=>W (fun b=>a.1 = b.1 ∧ k (.c (.one (.f (.int a.1 (Go.bits o a.1 a.2 b.2)))),σ)) ⟨⟩ (int? b)) ⟨⟩ (int? a)) ⟨⟩ (val σ y)) ⟨⟩ (val σ x):=by
 simp only [cO,dO,bq,bN,one,bH]
@[go_sem ↓] theorem agx {l:Bool}:W k u (cO Γ q σ d (.Un l x y)) ↔ W (fun a=>W (fun b=>W (fun a=>W (fun b=>0 ≤ b.2 ∧ k (.c (.one (.f (.int a.1 (if l then a.1.wrap (a.2 * 2 ^ (min b.2.toNat a.1.bits)) else a.2.fdiv (2 ^ (min b.2.toNat a.1.bits)))))),σ)) ⟨⟩ (int? b)) ⟨⟩ (int? a)) ⟨⟩ (val σ y)) ⟨⟩ (val σ x):=by
 simp only [cO,dO,bq,bN,one,bH]
@[go_sem ↓] theorem afb {lo hi:Option dZ}:W k u (cO Γ q σ d (.Jq x lo hi)) ↔ W (fun v=>W (fun s=>W (fun p=>k (.c (.one (.f (.str (s.extract p.1 p.2)))),σ)) ⟨⟩ (rng s.size σ lo hi)) ⟨⟩ (qR v)) ⟨⟩ (val σ x):=by
 simp only [cO,dO,bq]
 refine cK fun v=>?_
 cases v with
 | agg l=>exact bY
 | one p=>cases p with
  | f a =>
   cases a with
   | str s=>simp only [qR,bH,bq,one]
   | _=>exact bY
  | _=>exact bY
section
variable {k : Nat × Nat → Prop} {u:Tok k} {len:Nat} {lo hi:Option dZ}
@[go_sem ↓] theorem agy : W k u (rng len σ lo hi) ↔ W (fun h=>W (fun l=>k (l,h)) ⟨⟩ (bnd σ h lo 0)) ⟨⟩ (bnd σ len hi len):=by
 simp only [rng,dO,bq,bX]
end
section
variable {k : Nat → Prop} {u:Tok k} {len dd:Nat}
@[go_sem ↓] theorem Vq : W k u (bnd σ len none dd) ↔ k dd:=gN
@[go_sem ↓] theorem Vr : W k u (bnd σ len (some x) dd) ↔ W (fun v=>W (fun p=>(0 ≤ p.2 ∧ p.2 ≤ (len:Int)) ∧ k p.2.toNat) ⟨⟩ (int? v)) ⟨⟩ (val σ x):=by
 simp only [bnd,dO,bq,bN,bH]
end
def Ea (q:Bool) (σ:St) (sz:Nat) (lo hi:Option dZ):CV → Option (PV × St)
 | .one (.f (.sl rows))=>if rows.all (fun r=>r.length == sz) = false then none else (rng rows.length σ lo hi).bind fun p=>one (.sl ((rows.drop p.1).take (p.2 - p.1))) σ
 | .one .dN=>(rng 0 σ lo hi).bind fun p=>one (.sl []) σ
 | .one (.own key _)=>(iF σ key).bind fun o=>if o.1 ≠ sz then none else (rng o.2.length σ lo hi).bind fun p=>if q then none else (zG σ key).bind fun s=>one (.sl ((o.2.drop p.1).take (p.2 - p.1))) s
 | _=>none
@[go_sem ↓] theorem agz {sz:Nat} {lo hi:Option dZ}:W k u (cO Γ q σ d (.cut sz x lo hi)) ↔ W (fun v=>W k ⟨⟩ (Ea q σ sz lo hi v)) ⟨⟩ (val σ x):=by
 simp only [cO,dO,bq]
 refine cK fun v=>?_
 cases v with
 | agg l=>exact Iff.rfl
 | one p=>cases p with
  | f a=>cases a <;> exact Iff.rfl
  | own key n=>simp only [Ea,iF];cases get σ.ob key with | none=>exact Iff.rfl | some o=>cases o <;> exact Iff.rfl
  | _=>exact Iff.rfl
@[go_sem ↓] theorem Zq {sz:Nat} {lo hi:Option dZ} {rows:List (List FV)}:W k u (Ea q σ sz lo hi (.one (.f (.sl rows)))) ↔ rows.all (fun r=>r.length == sz) = true ∧ W (fun p=>k (.c (.one (.f (.sl ((rows.drop p.1).take (p.2 - p.1))))),σ)) ⟨⟩ (rng rows.length σ lo hi):=by
 simp only [Ea,dO,bq,dw,one,bH,Bool.not_eq_false]
@[go_sem ↓] theorem Zr {sz:Nat} {lo hi:Option dZ}:W k u (Ea q σ sz lo hi (.one .dN)) ↔ W (fun p=>k (.c (.one (.f (.sl []))),σ)) ⟨⟩ (rng 0 σ lo hi):=by
 simp only [Ea,dO,bq,one,bH]
@[go_sem ↓] theorem Zt {sz key n:Nat} {lo hi:Option dZ}:W k u (Ea q σ sz lo hi (.one (.own key n))) ↔ W (fun o=>o.1 = sz ∧ W (fun p=>q = false ∧ W (fun s=>k (.c (.one (.f (.sl ((o.2.drop p.1).take (p.2 - p.1))))),s)) ⟨⟩ (zG σ key)) ⟨⟩ (rng o.2.length σ lo hi)) ⟨⟩ (iF σ key):=by
 simp only [Ea,dO,bq,dw,one,bH,ne_eq,Decidable.not_not,Bool.not_eq_true]
@[go_sem ↓] theorem agA {off n:Nat} {agg:Bool}:W k u (cO Γ q σ d (.Um off n agg x)) ↔ W (fun v=>W (fun l=>W (fun l=>W (fun z=>k (.c z,σ)) ⟨⟩ (mk agg l)) ⟨⟩ (seg n off l)) ⟨⟩ (L6 v)) ⟨⟩ (val σ x):=by
 simp only [cO,dO,bq]
 refine cK fun v=>?_
 cases v with
 | agg l=>simp only [L6,bH,bq,bX]
 | one p=>exact bY
def Vs (σ:St) (sz:Nat) (i:Int):CV → Option PL
 | .one (.f (.sl rows))=>rows[i.toNat]?.bind fun r=>if r.length = sz then some (.fp r) else none
 | .one (.own key n)=>(iF σ key).bind fun o=>if o.1 = sz ∧ i < n ∧ n = o.2.length then some (.rp key sz i.toNat 0) else none
 | _=>none
@[go_sem ↓] theorem ain {sz:Nat}:W k u (cO Γ q σ d (.ia sz x y)) ↔ W (fun v=>W (fun j=>W (fun p=>0 ≤ p.2 ∧ W (fun l=>k (.c (.one l),σ)) ⟨⟩ (Vs σ sz p.2 v)) ⟨⟩ (int? j)) ⟨⟩ (val σ y)) ⟨⟩ (val σ x):=by
 simp only [cO,dO,bq,bN]
 refine cK fun v=>cK fun j=>cK fun p=>and_congr Iff.rfl ?_
 cases v with
 | agg l=>exact bY
 | one a =>
  cases a with
  | f a =>
   cases a with
   | sl rows=>simp only [Vs,bq,bN,bH]
   | _=>exact bY
  | own key n =>
   simp only [Vs,iF]
   cases get σ.ob key with
   | none=>exact bY
   | some o =>
    cases o with
    | row sz' rows=>simp only [L9,Option.bind_some,bN,bH]
    | _=>exact bY
  | _=>exact bY
section
variable {k : PL → Prop} {u:Tok k} {sz:Nat} {i:Int}
@[go_sem ↓] theorem acC {rows:List (List FV)}:W k u (Vs σ sz i (.one (.f (.sl rows)))) ↔ W (fun r=>r.length = sz ∧ k (.fp r)) ⟨⟩ (rows[i.toNat]?):=by
 simp only [Vs,dO,bq,bN,bH]
@[go_sem ↓] theorem acD {key n:Nat}:W k u (Vs σ sz i (.one (.own key n))) ↔ W (fun o=>(o.1 = sz ∧ i < n ∧ n = o.2.length) ∧ k (.rp key sz i.toNat 0)) ⟨⟩ (iF σ key):=by
 simp only [Vs,dO,bq,bN,bH]
end
@[go_sem ↓] theorem agB {sz len:Nat} {agg:Bool}:W k u (cO Γ q σ d (.idx sz len agg x y)) ↔ W (fun v=>W (fun j=>W (fun p=>(0 ≤ p.2 ∧ p.2 < (len:Int)) ∧ W (fun l=>W (fun l=>W (fun z=>k (.c z,σ)) ⟨⟩ (mk agg l)) ⟨⟩ (seg sz (p.2.toNat * sz) l)) ⟨⟩ (L6 v)) ⟨⟩ (int? j)) ⟨⟩ (val σ y)) ⟨⟩ (val σ x):=by
 simp only [cO,dO,bq,bN]
 refine cK fun v=>cK fun j=>cK fun p=>and_congr Iff.rfl ?_
 cases v with
 | agg l=>simp only [L6,bH,bq,bX]
 | one p=>exact bY
@[go_sem ↓] theorem agC : W k u (cO Γ q σ d (.chr x y)) ↔ W (fun v=>W (fun j=>W (fun p=>W (fun s=>0 ≤ p.2 ∧ W (fun b=>k (.c (.one (.f (.int .u8 b.toNat))),σ)) ⟨⟩ (s.data[p.2.toNat]?)) ⟨⟩ (qR v)) ⟨⟩ (int? j)) ⟨⟩ (val σ y)) ⟨⟩ (val σ x):=by
 simp only [cO,dO,bq]
 refine cK fun v=>cK fun j=>cK fun p=>?_
 cases v with
 | agg l=>exact bY
 | one p=>cases p with
  | f a =>
   cases a with
   | str s=>simp only [qR,bH,bN,bq,one]
   | _=>exact bY
  | _=>exact bY
@[go_sem ↓] theorem agD {i:Nat}:W k u (cO Γ q σ d (.ext x i)) ↔ W (fun v=>W (fun l=>W (fun w=>k (.c w,σ)) ⟨⟩ (l[i]?)) ⟨⟩ (Vd v)) ⟨⟩ (sN σ x):=by
 simp only [cO,dO]
 cases sN σ x with
 | none=>exact bY
 | some v =>
  rw [bH]
  cases v with
  | c y=>exact bY
  | uQ l=>simp only [Vd,bH,bX]
@[go_sem ↓] theorem afc : W k u (cO Γ q σ d (.uR x)) ↔ W (fun v=>W (fun s=>k (.c (.one (.f (.int .i64 s.size))),σ)) ⟨⟩ (qR v)) ⟨⟩ (val σ x):=by
 simp only [cO,dO,bq]
 refine cK fun v=>?_
 cases v with
 | agg l=>exact bY
 | one p=>cases p with
  | f a=>cases a <;> first | exact bY | exact lN Iff.rfl
  | _=>exact bY
def Po (σ:St):CV → Option Nat
 | .one .fC=>some 0
 | .one (.mp key)=>(oH σ key).map fun o=>o.2.length
 | _=>none
@[go_sem] theorem Zu : Po σ (.one .fC) = some 0:=rfl
@[go_sem] theorem acE {key:Nat}:Po σ (.one (.mp key)) = (oH σ key).map fun o=>o.2.length:=rfl
def Pp : CV → Option Nat
 | .one (.f (.sl rows))=>some rows.length
 | .one .dN=>some 0
 | .one (.own _ n)=>some n
 | _=>none
@[go_sem] theorem afd {rows:List (List FV)}:Pp (.one (.f (.sl rows))) = some rows.length:=rfl
@[go_sem] theorem afe : Pp (.one .dN) = some 0:=rfl
@[go_sem] theorem aff {k n:Nat}:Pp (.one (.own k n)) = some n:=rfl
@[go_sem ↓] theorem afg : W k u (cO Γ q σ d (.fV x)) ↔ W (fun v=>W (fun n:Nat=>k (.c (.one (.f (.int .i64 (n:Int)))),σ)) ⟨⟩ (Pp v)) ⟨⟩ (val σ x):=by
 simp only [cO,dO,bq]
 refine cK fun v=>?_
 cases v with
 | agg l=>exact bY
 | one p=>cases p with
  | f a=>cases a <;> first | exact bY | exact lN Iff.rfl
  | _=>first | exact bY | exact lN Iff.rfl
@[go_sem ↓] theorem afh {neg:Bool}:W k u (cO Γ q σ d (.Bu neg x)) ↔ W (fun v=>W (fun b=>k (.c (.one (.f (.bool (if neg then !b else b)))),σ)) ⟨⟩ (Ve v)) ⟨⟩ (val σ x):=by
 simp only [cO,dO,bq]
 refine cK fun v=>?_
 cases v with
 | agg l=>exact bY
 | one p=>cases p with
  | f a =>
   cases a with
   | sl rows=>cases rows <;> first | exact bY | (cases neg <;> exact lN Iff.rfl)
   | _=>exact bY
  | dN=>cases neg <;> exact lN Iff.rfl
  | _=>exact bY
end
end Go.Proofs.Ytfokaoeinpnagaa.Ev

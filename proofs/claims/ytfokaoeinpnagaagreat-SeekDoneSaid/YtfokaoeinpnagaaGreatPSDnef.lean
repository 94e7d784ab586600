/- A part of the proof of SeekDone: cut, joined and given short names by a program of this session (wip/tools/pack.py); Lean checks it. No condition. -/
import Derived.Test.YtfokaoeinpnagaaGreatPSDnee
import Derived.Orders
import Derived.OrdersHeld
import Derived.Scope
import Derived.Test.YtfokaoeinpnagaaGreatPSDned
import Derived.Laws.StructEq
import Derived.Below
import Derived.Defers
set_option linter.unusedSectionVars false
set_option linter.unusedSimpArgs false
set_option linter.unusedVariables false
set_option maxHeartbeats 16000000
set_option maxRecDepth 100000
namespace Go.Proofs.YtfokaoeinpnagaaGreat.Ev
section
open Go
section
variable {Γ : Env} {d:Nat} {σ σ2 σ':St} {pv:PV}
theorem FH {l:List CV}:∀ {caps:List (List FV)} {τ:St},lN true σ l = some (caps,τ) → τ = σ ∧ lN true σ2 l = some (caps,σ2):=by
 induction l with
 | nil=>intro caps τ h;simp only [lN] at h;cases h;exact ⟨rfl,by simp only [lN]⟩
 | cons y l ih =>
  intro caps τ h
  have one:∀ cs,y = .one (.fp cs) → τ = σ ∧ lN true σ2 (y :: l) = some (caps,σ2):=by
   intro cs hy
   subst hy
   simp only [lN] at h ⊢
   obtain ⟨r,g1,g2⟩:=zmm h
   cases g2
   obtain ⟨e1,e2⟩:=ih g1
   exact ⟨e1,by rw [e2];rfl⟩
  cases y with
  | one x =>
   cases x with
   | fp cs=>exact one cs rfl
   | ptr k o=>cases o <;> simp [lN] at h
   | _=>simp [lN] at h
  | agg xs=>simp [lN] at h
theorem Pw {i:I} (hi:Pv i = true) (hs:Same (mY i) σ σ2) (ho:∀ k o,get σ.ob k = some o → get σ2.ob k = some o) (hE:bV Γ true σ d i = some (pv,σ')):σ' = σ ∧ bV Γ true σ2 d i = some (pv,σ2):=by
 cases i with
 | alloc e z=>cases hi
 | box e x=>cases hi
 | wK e sz len z ps=>cases hi
 | OP e sz len z ps=>cases hi
 | zl f xs=>cases hi
 | store n x v=>cases hi
 | oQ sh=>cases hi
 | wM sh x k v=>cases hi
 | del sh x k=>cases hi
 | app e sz b x y=>cases hi
 | mv x =>
  simp only [mY] at hs
  simp only [bV] at hE ⊢
  rw [hs.rZ]
  obtain ⟨v,h1,h2⟩:=zmm hE
  cases h2
  rw [h1];simp only [Option.map_some];exact ⟨trivial,trivial⟩
 | pick c x y =>
  simp only [mY] at hs
  simp only [bV] at hE ⊢
  obtain ⟨v,h1,h2⟩:=zbm hE
  obtain ⟨t,h3,h4⟩:=zbm h2
  obtain ⟨u,h5,h6⟩:=zmm h4
  cases h6
  rw [hs.l.l.val,h1]
  simp only [Option.bind_some,h3]
  have:Ev.val σ2 (if t then x else y) = Ev.val σ (if t then x else y):=by
   cases t
   ·exact hs.r.val
   ·exact hs.l.r.val
  rw [this,h5];exact ⟨trivial,rfl⟩
 | build z ps =>
  simp only [mY] at hs
  simp only [bV] at hE ⊢
  obtain ⟨v,h1,h2⟩:=zbm hE
  obtain ⟨u,h3,h4⟩:=zmm h2
  cases h4
  rw [hs.vals,h1]
  simp only [Option.bind_some,h3,Option.map_some]
  exact ⟨trivial,trivial⟩
 | load n g x =>
  simp only [mY] at hs
  simp only [bV] at hE ⊢
  obtain ⟨v,h1,h2⟩:=zbm hE
  rw [hs.val,h1]
  simp only [Option.bind_some]
  split at h2
  ·split at h2
   ·rename_i fQ
    obtain ⟨l,h3,h4⟩:=zbm h2
    obtain ⟨u,h5,h6⟩:=zmm h4
    cases h6
    simp only [ho _ _ fQ,h3,Option.bind_some,h5,Option.map_some]
    exact ⟨trivial,trivial⟩
   ·cases h2
  ·obtain ⟨l,h3,h4⟩:=zbm h2
   obtain ⟨u,h5,h6⟩:=zmm h4
   cases h6
   simp only [h3,Option.bind_some,h5,Option.map_some]
   exact ⟨trivial,trivial⟩
  ·split at h2
   ·rename_i fQ
    split at h2
    ·cases h2
    ·rename_i hz
     obtain ⟨r,h7,h8⟩:=zbm h2
     obtain ⟨l,h3,h4⟩:=zbm h8
     obtain ⟨u,h5,h6⟩:=zmm h4
     cases h6
     simp only [ho _ _ fQ,ain hz,h7,h3,Option.bind_some,h5,Option.map_some]
     exact ⟨trivial,trivial⟩
   ·cases h2
  ·cases h2
 | gP x =>
  simp only [mY] at hs
  simp only [bV] at hE ⊢
  obtain ⟨v,h1,h2⟩:=zbm hE
  rw [hs.val,h1]
  simp only [Option.bind_some]
  split at h2 <;> cases h2 <;> exact ⟨rfl,rfl⟩
 | wL neg x =>
  simp only [mY] at hs
  simp only [bV] at hE ⊢
  obtain ⟨v,h1,h2⟩:=zbm hE
  rw [hs.val,h1]
  simp only [Option.bind_some]
  split at h2 <;> cases h2 <;> exact ⟨rfl,rfl⟩
 | ar o x y =>
  simp only [mY] at hs
  simp only [bV] at hE ⊢
  obtain ⟨u,h1,hE⟩:=zbm hE
  obtain ⟨v,h2,hE⟩:=zbm hE
  obtain ⟨m,h3,hE⟩:=zbm hE
  obtain ⟨n,h4,hE⟩:=zbm hE
  split at hE
  ·rename_i hk
   obtain ⟨r,h5,hE⟩:=zbm hE
   cases hE
   rw [hs.l.val,hs.r.val]
   simp only [h1,h2,h3,h4,h5,Option.bind_some,ail hk,one]
   exact ⟨trivial,trivial⟩
  ·cases hE
 | cmp o x y =>
  simp only [mY] at hs
  simp only [bV] at hE ⊢
  obtain ⟨u,h1,hE⟩:=zbm hE
  obtain ⟨v,h2,hE⟩:=zbm hE
  obtain ⟨m,h3,hE⟩:=zbm hE
  obtain ⟨n,h4,hE⟩:=zbm hE
  split at hE
  ·rename_i hk
   cases hE
   rw [hs.l.val,hs.r.val]
   simp only [h1,h2,h3,h4,Option.bind_some,ail hk,one]
   exact ⟨trivial,trivial⟩
  ·cases hE
 | q9 sh neg x y =>
  simp only [mY] at hs
  simp only [bV] at hE ⊢
  obtain ⟨u,h1,hE⟩:=zbm hE
  obtain ⟨v,h2,hE⟩:=zbm hE
  obtain ⟨m,h3,hE⟩:=zbm hE
  obtain ⟨n,h4,hE⟩:=zbm hE
  split at hE
  ·rename_i hk
   cases hE
   rw [hs.l.val,hs.r.val]
   simp only [h1,h2,h3,h4,Option.bind_some,ail hk,one]
   exact ⟨trivial,trivial⟩
  ·cases hE
 | cat x y =>
  simp only [mY] at hs
  simp only [bV] at hE ⊢
  obtain ⟨u,h1,hE⟩:=zbm hE
  obtain ⟨v,h2,hE⟩:=zbm hE
  rw [hs.l.val,hs.r.val]
  simp only [h1,h2,Option.bind_some]
  split at hE
  ·split at hE
   ·rename_i hk;cases hE;simp only [ail hk,one];exact ⟨trivial,trivial⟩
   ·cases hE
  ·cases hE
 | no x =>
  simp only [mY] at hs
  simp only [bV] at hE ⊢
  obtain ⟨u,h1,hE⟩:=zbm hE
  obtain ⟨v,h2,hE⟩:=zbm hE
  cases hE
  rw [hs.val]
  simp only [h1,h2,Option.bind_some,one]
  exact ⟨trivial,trivial⟩
 | ci k x =>
  simp only [mY] at hs
  simp only [bV] at hE ⊢
  obtain ⟨u,h1,hE⟩:=zbm hE
  obtain ⟨v,h2,hE⟩:=zbm hE
  cases hE
  rw [hs.val]
  simp only [h1,h2,Option.bind_some,one]
  exact ⟨trivial,trivial⟩
 | mP x =>
  simp only [mY] at hs
  simp only [bV] at hE ⊢
  obtain ⟨u,h1,hE⟩:=zbm hE
  rw [hs.val,h1]
  simp only [Option.bind_some]
  split at hE
  ·cases hE;exact ⟨rfl,rfl⟩
  ·cases hE
 | Jg x lo hi =>
  simp only [mY] at hs
  simp only [bV] at hE ⊢
  obtain ⟨u,h1,hE⟩:=zbm hE
  rw [hs.l.l.val,h1]
  simp only [Option.bind_some]
  split at hE
  ·obtain ⟨p,h2,hE⟩:=zbm hE
   cases hE
   rw [Same.rng hs.l.r hs.r,h2]
   exact ⟨rfl,rfl⟩
  ·cases hE
 | cut sz x lo hi =>
  simp only [mY] at hs
  simp only [bV] at hE ⊢
  obtain ⟨u,h1,hE⟩:=zbm hE
  rw [hs.l.l.val,h1]
  simp only [Option.bind_some]
  split at hE
  ·split at hE
   ·cases hE
   ·rename_i hz
    obtain ⟨p,h2,hE⟩:=zbm hE
    cases hE
    rw [ain hz,Same.rng hs.l.r hs.r,h2]
    exact ⟨rfl,rfl⟩
  ·obtain ⟨p,h2,hE⟩:=zbm hE
   cases hE
   rw [Same.rng hs.l.r hs.r,h2]
   exact ⟨rfl,rfl⟩
  ·split at hE
   ·split at hE
    ·cases hE
    ·obtain ⟨p,h2,hE⟩:=zbm hE
     rw [ail trivial] at hE
     cases hE
   ·cases hE
  ·cases hE
 | fa off x =>
  simp only [mY] at hs
  simp only [bV] at hE ⊢
  obtain ⟨v,h1,h2⟩:=zbm hE
  rw [hs.val,h1]
  simp only [Option.bind_some]
  split at h2 <;> cases h2 <;> exact ⟨rfl,rfl⟩
 | Xl off n g x =>
  simp only [mY] at hs
  simp only [bV] at hE ⊢
  obtain ⟨v,h1,h2⟩:=zbm hE
  rw [hs.val,h1]
  simp only [Option.bind_some]
  split at h2
  ·obtain ⟨l,h3,h4⟩:=zbm h2
   obtain ⟨u,h5,h6⟩:=zmm h4
   cases h6
   simp only [h3,Option.bind_some,h5,Option.map_some]
   exact ⟨trivial,trivial⟩
  ·cases h2
 | ia sz x i =>
  simp only [mY] at hs
  simp only [bV] at hE ⊢
  obtain ⟨v,h1,hE⟩:=zbm hE
  obtain ⟨j,h2,hE⟩:=zbm hE
  obtain ⟨p,h3,hE⟩:=zbm hE
  rw [hs.l.val,hs.r.val]
  simp only [h1,h2,h3,Option.bind_some]
  split at hE
  ·rename_i h0
   rw [ail h0]
   split at hE
   ·obtain ⟨r,h4,hE⟩:=zbm hE
    split at hE
    ·rename_i hk;cases hE;simp only [h4,Option.bind_some,ail hk];exact ⟨trivial,trivial⟩
    ·cases hE
   ·split at hE
    ·rename_i fQ
     split at hE
     ·rename_i hk;cases hE;simp only [ho _ _ fQ,ail hk];exact ⟨trivial,trivial⟩
     ·cases hE
    ·cases hE
   ·cases hE
  ·cases hE
 | idx sz len g x i =>
  simp only [mY] at hs
  simp only [bV] at hE ⊢
  obtain ⟨v,h1,hE⟩:=zbm hE
  obtain ⟨j,h2,hE⟩:=zbm hE
  obtain ⟨p,h3,hE⟩:=zbm hE
  rw [hs.l.val,hs.r.val]
  simp only [h1,h2,h3,Option.bind_some]
  split at hE
  ·rename_i h0
   rw [ail h0]
   split at hE
   ·obtain ⟨l,h4,hE⟩:=zbm hE
    obtain ⟨u,h5,h6⟩:=zmm hE
    cases h6
    simp only [h4,Option.bind_some,h5,Option.map_some]
    exact ⟨trivial,trivial⟩
   ·cases hE
  ·cases hE
 | chr x i =>
  simp only [mY] at hs
  simp only [bV] at hE ⊢
  obtain ⟨v,h1,hE⟩:=zbm hE
  obtain ⟨j,h2,hE⟩:=zbm hE
  obtain ⟨p,h3,hE⟩:=zbm hE
  rw [hs.l.val,hs.r.val]
  simp only [h1,h2,h3,Option.bind_some]
  split at hE
  ·split at hE
   ·rename_i h0
    obtain ⟨b,h4,hE⟩:=zbm hE
    cases hE
    simp only [ail h0,h4,Option.bind_some,one]
    exact ⟨trivial,trivial⟩
   ·cases hE
  ·cases hE
 | look sh z ok x k =>
  simp only [mY] at hs
  simp only [bV] at hE ⊢
  obtain ⟨v,h1,hE⟩:=zbm hE
  obtain ⟨u,h2,hE⟩:=zbm hE
  obtain ⟨b,h3,hE⟩:=zbm hE
  rw [hs.l.val,hs.r.val]
  simp only [h1,h2,h3,Option.bind_some]
  split at hE
  ·cases hE
  ·rename_i hsh
   rw [ain hsh]
   obtain ⟨r,h4,h5⟩:=zmm hE
   cases h5
   split at h4
   ·cases h4;exact ⟨rfl,rfl⟩
   ·split at h4
    ·rename_i fQ
     split at h4
     ·rename_i hk;cases h4;simp only [ho _ _ fQ,ail hk,Option.map_some];exact ⟨trivial,trivial⟩
     ·cases h4
    ·cases h4
   ·cases h4
 | ext x i =>
  simp only [mY] at hs
  simp only [bV] at hE ⊢
  rw [hs.rZ]
  split at hE
  ·rename_i l hl
   obtain ⟨v,h1,h2⟩:=zmm hE
   cases h2
   simp only [h1,Option.map_some]
   exact ⟨trivial,trivial⟩
  ·cases hE
 | wN x =>
  simp only [mY] at hs
  simp only [bV] at hE ⊢
  obtain ⟨v,h1,h2⟩:=zbm hE
  rw [hs.val,h1]
  simp only [Option.bind_some]
  split at h2 <;> cases h2 <;> exact ⟨rfl,rfl⟩
 | gQ x =>
  simp only [mY] at hs
  simp only [bV] at hE ⊢
  obtain ⟨v,h1,h2⟩:=zbm hE
  rw [hs.val,h1]
  simp only [Option.bind_some]
  split at h2 <;> cases h2 <;> exact ⟨rfl,rfl⟩
 | Jh x =>
  simp only [mY] at hs
  simp only [bV] at hE ⊢
  obtain ⟨v,h1,h2⟩:=zbm hE
  rw [hs.val,h1]
  simp only [Option.bind_some]
  split at h2
  ·cases h2;exact ⟨rfl,rfl⟩
  ·split at h2
   ·rename_i fQ;cases h2;simp only [ho _ _ fQ,one];exact ⟨trivial,trivial⟩
   ·cases h2
  ·cases h2
 | mn x y =>
  simp only [mY] at hs
  simp only [bV] at hE ⊢
  obtain ⟨u,h1,hE⟩:=zbm hE
  obtain ⟨v,h2,hE⟩:=zbm hE
  obtain ⟨m,h3,hE⟩:=zbm hE
  obtain ⟨n,h4,hE⟩:=zbm hE
  rw [hs.l.val,hs.r.val]
  simp only [h1,h2,h3,h4,Option.bind_some]
  split at hE
  ·rename_i hk;cases hE;rw [ail hk];exact ⟨rfl,rfl⟩
  ·cases hE
 | mx x y =>
  simp only [mY] at hs
  simp only [bV] at hE ⊢
  obtain ⟨u,h1,hE⟩:=zbm hE
  obtain ⟨v,h2,hE⟩:=zbm hE
  obtain ⟨m,h3,hE⟩:=zbm hE
  obtain ⟨n,h4,hE⟩:=zbm hE
  rw [hs.l.val,hs.r.val]
  simp only [h1,h2,h3,h4,Option.bind_some]
  split at hE
  ·rename_i hk;cases hE;rw [ail hk];exact ⟨rfl,rfl⟩
  ·cases hE
 | Sn sz z x=>cases hi
 | call gv f xs =>
  simp only [mY] at hs
  simp only [bV] at hE ⊢
  obtain ⟨l,h1,hE⟩:=zbm hE
  rw [hs.ji,h1]
  simp only [Option.bind_some]
  exact xH ho hE
 | dyn x xs =>
  simp only [mY] at hs
  simp only [bV] at hE ⊢
  obtain ⟨v,h0,hE⟩:=zbm hE
  rw [hs.l.val,h0]
  simp only [Option.bind_some]
  split at hE
  ·obtain ⟨l,h1,hE⟩:=zbm hE
   simp only [hs.r.ji,h1,Option.bind_some]
   exact xH ho hE
  ·cases hE
 | OZ f xs =>
  simp only [mY] at hs
  simp only [bV] at hE ⊢
  obtain ⟨l,h1,hE⟩:=zbm hE
  rw [hs.ji,h1]
  simp only [Option.bind_some]
  obtain ⟨p,h2,h3⟩:=zmm hE
  cases h3
  obtain ⟨e1,e2⟩:=FH (σ2:=σ2) h2
  rw [e2]
  exact ⟨e1,rfl⟩
 | zm neg x =>
  simp only [mY] at hs
  simp only [bV] at hE ⊢
  obtain ⟨v,h1,h2⟩:=zbm hE
  rw [hs.val,h1]
  simp only [Option.bind_some]
  split at h2 <;> cases h2 <;> exact ⟨rfl,rfl⟩
 | bit o x y =>
  simp only [mY] at hs
  simp only [bV] at hE ⊢
  obtain ⟨u,h1,hE⟩:=zbm hE
  obtain ⟨v,h2,hE⟩:=zbm hE
  obtain ⟨m,h3,hE⟩:=zbm hE
  obtain ⟨n,h4,hE⟩:=zbm hE
  rw [hs.l.val,hs.r.val]
  simp only [h1,h2,h3,h4,Option.bind_some]
  split at hE
  ·rename_i hk;cases hE;rw [ail hk];exact ⟨rfl,rfl⟩
  ·cases hE
 | Us o x y =>
  simp only [mY] at hs
  simp only [bV] at hE ⊢
  obtain ⟨u,h1,hE⟩:=zbm hE
  obtain ⟨v,h2,hE⟩:=zbm hE
  obtain ⟨m,h3,hE⟩:=zbm hE
  obtain ⟨n,h4,hE⟩:=zbm hE
  rw [hs.l.val,hs.r.val]
  simp only [h1,h2,h3,h4,Option.bind_some]
  split at hE
  ·rename_i hk;cases hE;rw [ail hk];exact ⟨rfl,rfl⟩
  ·cases hE
 | Dk sz x y=>simp [bV] at hE
 | cutV sz x y =>
  simp only [mY] at hs
  simp only [bV] at hE ⊢
  obtain ⟨v,h1,hE⟩:=zbm hE
  obtain ⟨j,h2,hE⟩:=zbm hE
  obtain ⟨p,h3,hE⟩:=zbm hE
  rw [hs.l.val,hs.r.val]
  simp only [h1,h2,h3,Option.bind_some]
  split at hE
  ·split at hE
   ·rename_i fQ
    split at hE
    ·rename_i hk;cases hE;simp only [ho _ _ fQ,ail hk];exact ⟨trivial,trivial⟩
    ·cases hE
   ·cases hE
  ·cases hE
 | Xm x =>
  simp only [mY] at hs
  simp only [bV] at hE ⊢
  obtain ⟨v,h1,h2⟩:=zbm hE
  rw [hs.val,h1]
  simp only [Option.bind_some]
  split at h2
  ·obtain ⟨s,h3,h4⟩:=zbm h2
   cases h4
   simp only [h3,Option.bind_some,one]
   exact ⟨trivial,trivial⟩
  ·cases h2;exact ⟨rfl,rfl⟩
  ·split at h2
   ·rename_i fQ
    split at h2
    ·rename_i hz
     obtain ⟨s,h3,h4⟩:=zbm h2
     cases h4
     simp only [ho _ _ fQ,ail hz,h3,Option.bind_some,one]
     exact ⟨trivial,trivial⟩
    ·cases h2
   ·cases h2
  ·cases h2
end
end
section
open Go
section
variable {Γ : Env} {d:Nat} {σ σ2 σ':St} {pv:PV}
theorem UY {α:Type} {l:List (Nat × α)} {k:Nat} (h:∀ p ∈ l,p.1 ≠ k):rem l k = l:=by
 induction l with
 | nil=>rfl
 | cons p l ih =>
  obtain ⟨j,u⟩:=p
  unfold rem
  rw [ain (h _ ajE),ih (fun p hp=>h p (ajd _ hp))]
theorem jw {key:Nat}:fresh σ key = true ↔ (∀ p ∈ σ.ob,p.1 ≠ key ∧ l5 key p.2 = false) ∧ ∀ p ∈ σ.tm,qQ key p.2 = false:=by
 simp [fresh]
theorem jc {key:Nat} (h:fresh σ key = true) (o:Ob):new σ key o = some ⟨σ.tm,(key,o) :: σ.ob⟩:=by
 obtain ⟨h1,h2⟩:=jw.mp h
 have hr:=UY (fun p hp=>(h1 p hp).1)
 unfold new Xn
 rw [hr,ain]
 ·simp only [Option.map_some]
  rw [List.filter_eq_self.mpr (fun p hp=>by rw [h2 p hp];rfl)]
 ·intro hc
  obtain ⟨p,hp,hm⟩:=ajk.mp hc
  rw [(h1 p hp).2] at hm;cases hm
theorem Jt {x:PL} {y:FV} (hn:fZ x = false) (h:vo σ x = some (y,σ')):σ' = σ ∧ vo σ2 x = some (y,σ2):=by
 cases x with
 | f x=>cases h;exact ⟨rfl,rfl⟩
 | bP=>cases h;exact ⟨rfl,rfl⟩
 | own k n=>cases hn
 | _=>cases h
theorem xI : ∀ {xs:List PL} {ys:List FV} {σ':St},xs.any fZ = false → ku σ xs = some (ys,σ') → σ' = σ ∧ ku σ2 xs = some (ys,σ2)
 | [],ys,σ',_,h=>by cases h;exact ⟨rfl,rfl⟩
 | x :: xs,ys,σ',hn,h=>by
  obtain ⟨p,h1,h2⟩:=zbm h
  obtain ⟨r,h3,h4⟩:=zmm h2
  cases h4
  simp only [List.any_cons,aj4] at hn
  obtain ⟨e1,e2⟩:=Jt (σ2:=σ2) hn.1 h1
  rw [e1] at h3
  obtain ⟨e3,e4⟩:=xI hn.2 h3
  exact ⟨e3,by unfold ku;rw [e2];simp only [Option.bind_some];rw [e4];rfl⟩
theorem YV {i:I} (hi:jJ i = true) (hs:Same (mY i) σ σ2) (hf:fresh σ (dx d) = true) (hf2:fresh σ2 (dx d) = true) (hE:bV Γ true σ d i = some (pv,σ')) :
  ∃ o,σ' = ⟨σ.tm,(dx d,o) :: σ.ob⟩ ∧ bV Γ true σ2 d i = some (pv,⟨σ2.tm,(dx d,o) :: σ2.ob⟩):=by
 cases i <;> first | cases hi | skip
 ·rename_i e z
  simp only [bV] at hE ⊢
  split at hE
  ·cases hE
  ·rename_i hm
   simp only [gH,jc hf,Option.map_some] at hE
   cases hE
   refine ⟨_,rfl,?_⟩
   rw [ain hm]
   simp only [gH,jc hf2,Option.map_some]
 ·rename_i e x
  simp only [mY] at hs
  simp only [bV] at hE ⊢
  obtain ⟨v,h1,h2⟩:=zbm hE
  split at h2
  ·cases h2
  ·rename_i hm
   simp only [gH,jc hf,Option.map_some] at h2
   cases h2
   refine ⟨_,rfl,?_⟩
   rw [hs.val,h1]
   simp only [Option.bind_some]
   rw [ain hm]
   simp only [gH,jc hf2,Option.map_some]
 ·rename_i e sz len z ps
  simp only [mY] at hs
  simp only [bV] at hE ⊢
  obtain ⟨v,h1,hE⟩:=zbm hE
  obtain ⟨u,h2,hE⟩:=zbm hE
  split at hE
  ·cases hE
  ·rename_i hm
   obtain ⟨p,h3,hE⟩:=zbm hE
   have hn:u.any fZ = false:=by simpa using hm
   obtain ⟨e1,e2⟩:=xI (σ2:=σ2) hn h3
   rw [e1] at hE
   simp only [gH,jc hf,Option.map_some] at hE
   cases hE
   refine ⟨_,rfl,?_⟩
   rw [hs.vals,h1]
   simp only [Option.bind_some,h2]
   rw [ain hm,e2]
   simp only [Option.bind_some,gH,jc hf2,Option.map_some]
 ·rename_i sh
  simp only [bV] at hE ⊢
  simp only [gH,jc hf,Option.map_some] at hE
  cases hE
  exact ⟨_,rfl,by simp only [gH,jc hf2,Option.map_some]⟩
 ·rename_i f xs
  simp only [mY] at hs
  simp only [bV,rY] at hE ⊢
  obtain ⟨l,h1,hE⟩:=zbm hE
  obtain ⟨d9,h2,hE⟩:=zbm hE
  obtain ⟨r,h3,hE⟩:=zbm hE
  obtain ⟨p,h4,hE⟩:=zbm hE
  simp only [jc hf,Option.map_some] at hE
  cases hE
  refine ⟨_,rfl,?_⟩
  rw [hs.ji,h1]
  simp only [Option.bind_some,h2,h3,h4,jc hf2,Option.map_some]
end
end
section
open Go
def rd (g:G):List Nat:=mY g.i ++ match g.gd with
 | some (some s,_)=>[s]
 | _=>[]
section
variable {Γ : Env} {d:Nat} {σ σ2 σ':St} {pv:PV}
theorem Lr {g:G} (hs:Same (rd g) σ σ2):zq σ2 g.gd = zq σ g.gd:=by
 unfold rd at hs
 have hr:=hs.r
 cases hg:g.gd with
 | none=>rfl
 | some p =>
  obtain ⟨s,want⟩:=p
  cases s with
  | none=>rfl
  | some s =>
   rw [hg] at hr
   simp only [zq]
   rw [hr s (by simp)]
theorem sP {g:G} (hi:Pv g.i = true) (hs:Same (rd g) σ σ2) (ho:∀ k o,get σ.ob k = some o → get σ2.ob k = some o) (hE:l6 Γ true σ g = some (pv,σ')):σ' = σ ∧ l6 Γ true σ2 g = some (pv,σ2):=by
 unfold l6 at hE ⊢
 obtain ⟨t,h1,h2⟩:=zbm hE
 rw [Lr hs,h1]
 simp only [Option.bind_some]
 cases t with
 | true =>
  rw [ail rfl] at h2 ⊢
  exact Pw hi (by unfold rd at hs;exact hs.l) ho h2
 | false =>
  rw [ain (by decide)] at h2 ⊢
  cases h2
  exact ⟨rfl,rfl⟩
theorem Ls {g:G} (hi:jJ g.i = true) (hg:g.gd = none) (hs:Same (rd g) σ σ2) (hf:fresh σ (dx (g.dst.getD 999)) = true) (hf2:fresh σ2 (dx (g.dst.getD 999)) = true) (hE:l6 Γ true σ g = some (pv,σ')) :
  ∃ o,σ' = ⟨σ.tm,(dx (g.dst.getD 999),o) :: σ.ob⟩ ∧ l6 Γ true σ2 g = some (pv,⟨σ2.tm,(dx (g.dst.getD 999),o) :: σ2.ob⟩):=by
 unfold l6 at hE ⊢
 rw [hg] at hE ⊢
 simp only [zq,Option.bind_some,aiV] at hE ⊢
 exact YV hi (by unfold rd at hs;exact hs.l) hf hf2 hE
theorem get_put {α:Type} {l:List (Nat × α)} {i j:Nat} {v:α}:get (put l i v) j = if j = i then some v else get l j:=by
 have ad7:∀ {l:List (Nat × α)} {i j:Nat},j ≠ i → get (rem l i) j = get l j:=by
  intro l i j hj
  induction l with
  | nil=>rfl
  | cons p l ih =>
   obtain ⟨k,u⟩:=p
   unfold rem
   by_cases hk:k = i
   ·rw [ail hk,ih]
    conv=>rhs;unfold get
    rw [ain (fun e=>hj (by omega))]
   ·rw [ain hk]
    unfold get
    rw [ih]
 induction l with
 | nil =>
  unfold put get
  by_cases h:j = i
  ·rw [ail h,ail h.symm]
  ·rw [ain h,ain (fun e=>h e.symm)];rfl
 | cons p l ih =>
  obtain ⟨k,u⟩:=p
  unfold put
  by_cases hk:k = i
  ·rw [ail hk]
   unfold get
   by_cases h:j = i
   ·rw [ail h,ail h.symm]
   ·rw [ain h,ain (fun e=>h e.symm),ad7 h,ain (fun e=>h (by omega))]
  ·rw [ain hk]
   unfold get
   by_cases hkj:k = j
   ·rw [ail hkj,ain (by omega),ail hkj]
   ·rw [ain hkj,ih,ain hkj]
theorem DJ {b:Bool} (h:¬ b = true):b = false:=ai6.mpr h
def jk (Γ:Env) (qR:List (Nat × Ob)) (pre:List (G × List Nat)) (zB:List (Nat × PV)):Nat → List (Nat × PV)
 | 0=>zB
 | i + 1=>match pre[i]? with
  | some g=>match l6 Γ true ⟨jk Γ qR pre zB i,qR⟩ g.1 with
   | some p=>r9 g.1.dst (jk Γ qR pre zB i) p.1
   | none=>jk Γ qR pre zB i
  | none=>jk Γ qR pre zB i
structure Can (Γ:Env) (qR:List (Nat × Ob)) (pre:List (G × List Nat)) (zB:List (Nat × PV)) (i:Nat) (pv:PV) (s:St):Prop where
 lt:i < pre.length
 ev:l6 Γ true ⟨jk Γ qR pre zB i,qR⟩ (pre[i]'lt).1 = some (pv,s)
 nx:jk Γ qR pre zB (i + 1) = r9 (pre[i]'lt).1.dst (jk Γ qR pre zB i) pv
 nk:∀ k ∈ (pre[i]'lt).2,qQ k pv = false ∧ (jJ (pre[i]'lt).1.i = true → ∀ r ∈ s.ob.take 1,r.1 ≠ k ∧ l5 k r.2 = false)
theorem DK {qR:List (Nat × Ob)} {pre:List (G × List Nat)} {zB:List (Nat × PV)}:∀ (n i:Nat) (obx:List (Nat × Ob)) (s:St),n + i = pre.length → O7 Γ qR (pre.drop i) ⟨jk Γ qR pre zB i,obx⟩ = some s →
  (∀ j,i ≤ j → j < pre.length → ∃ pv st,Can Γ qR pre zB j pv st) ∧ s.tm = jk Γ qR pre zB pre.length ∧
  ∃ news,s.ob = news ++ obx ∧ ∀ p ∈ news,∃ j pv st,i ≤ j ∧ j < pre.length ∧ ∃ (h:Can Γ qR pre zB j pv st),jJ (pre[j]'h.lt).1.i = true ∧ p ∈ st.ob.take 1
 | 0,i,obx,s,hn,hE=>by
  rw [List.drop_eq_nil_of_le (by omega)] at hE
  cases hE
  refine ⟨fun j h1 h2=>by omega,by rw [show pre.length = i from by omega],[],rfl,fun p hp=>by simp at hp⟩
 | n + 1,i,obx,s,hn,hE=>by
  have hi:i < pre.length:=by omega
  rw [ajV hi] at hE
  obtain ⟨g,nk,hp⟩:∃ g nk,pre[i] = (g,nk):=⟨_,_,rfl⟩
  rw [hp] at hE
  simp only [O7] at hE
  obtain ⟨p,h1,h2⟩:=zbm hE
  split at h2
  ·cases h2
  ·rename_i hnk
   have hnx:jk Γ qR pre zB (i + 1) = r9 g.dst (jk Γ qR pre zB i) p.1:=by
    conv=>lhs;unfold jk
    rw [aiB hi,hp]
    simp only [h1]
   have hcan:Can Γ qR pre zB i p.1 p.2:=⟨hi,by rw [hp];exact h1,by rw [hp];exact hnx,fun k hk=>by
    rw [hp] at hk ⊢
    have hk':¬ (qQ k p.1 || (jJ g.i && (p.2.ob.take 1).any (fun r=>r.1 == k || l5 k r.2))) = true:=fun hc=>hnk (ajk.mpr ⟨k,hk,hc⟩)
    rw [ajh,not_or] at hk'
    refine ⟨DJ hk'.1,fun hN r hr=>?_⟩
    have:=hk'.2
    rw [hN,Bool.true_and] at this
    have hr':¬ (r.1 == k || l5 k r.2) = true:=fun hc=>this (ajk.mpr ⟨r,hr,hc⟩)
    rw [ajh,not_or] at hr'
    exact ⟨by simpa using hr'.1,DJ hr'.2⟩⟩
   rw [← hnx] at h2
   obtain ⟨e1,e2,news,e3,e4⟩:=DK n (i + 1) _ s (by omega) h2
   refine ⟨fun j h3 h4=>?_,e2,news ++ (if jJ g.i then p.2.ob.take 1 else []),?_,fun r hr=>?_⟩
   ·by_cases hj:j = i
    ·subst hj;exact ⟨_,_,hcan⟩
    ·exact e1 j (by omega) h4
   ·rw [e3]
    cases jJ g.i <;> simp
   ·rcases aiN.mp hr with h | h
    ·obtain ⟨j,pv,st,h3,h4,h5⟩:=e4 r h
     exact ⟨j,pv,st,by omega,h4,h5⟩
    ·split at h
     ·rename_i hN
      exact ⟨i,p.1,p.2,aiq _,hi,hcan,by rw [hp];exact hN,h⟩
     ·simp at h
end
end
section
open Go
def iK (o:Oper):List Nat:=(o.after.toList.filter (fun e=>Region.binds .any e)).map (·.on)
inductive Ju (ops:Array Oper):Nat → Nat → Prop
 | dir {i e:Nat} (h:i < ops.size) (he:e ∈ iK ops[i]):Ju ops e i
 | step {i e j:Nat} (h:i < ops.size) (he:e ∈ iK ops[i]) (hj:Ju ops j e):Ju ops j i
def isLt (g:G):Bool:=g.dst.isNone && g.gd.isNone && (match g.i with
 | .store _ _ _=>true
 | _=>false)
structure Lu (ops:Array Oper) (pre:List (G × List Nat)) (lM:List Nat) (jI rest:List G):Prop where
 len:ops.size = pre.length + (jI.length + rest.length)
 lt:∀ i (h:i < ops.size),∀ e ∈ iK ops[i],e < i
 data:∀ i (h:i < pre.length) (h':i < ops.size),∀ s ∈ rd pre[i].1,∀ j (hj:j < pre.length),pre[j].1.dst = some s → j ∈ iK ops[i]
 dst:∀ i j (h:i < pre.length) (hj:j < pre.length),i ≠ j → ∀ s,pre[i].1.dst = some s → pre[j].1.dst ≠ some s
 cls:∀ i (h:i < pre.length),Pv pre[i].1.i = true ∨ (jJ pre[i].1.i = true ∧ pre[i].1.gd = none)
 nk:∀ i j (h:i < pre.length) (hj:j < pre.length),i ≠ j → jJ pre[i].1.i = true → dx (pre[i].1.dst.getD 999) ∈ pre[j].2 ∨ Ju ops i j
 tl:∀ k,pre.length ≤ k → k < ops.size → ∀ j,j < k → Ju ops j k ∨ (j < pre.length ∧ j ∈ lM ∧ k < pre.length + jI.length)
 fl:∀ j ∈ lM,∀ (h:j < pre.length),Pv pre[j].1.i = true
 lt':∀ g ∈ jI,isLt g = true
 ld:∀ m (h:m < jI.length) (h':pre.length + m < ops.size),∀ s ∈ rd jI[m],∀ j (hj:j < pre.length),pre[j].1.dst = some s → j ∈ iK ops[pre.length + m]
def Dn (l:Array Bool) (i:Nat):Prop:=l.getD i false = true
section
variable {P : Program} {Γ:Env} {aY:Nat → Prop} {w0 w w':World} {aX:List Nat} {N:Fr} {iJ:Nat → Value} {σ σ':St} {a:Act} {X:Hx} {ops:Array Oper} {pre:List (G × List Nat)} {lM:List Nat} {jI rest:List G} {l:Array Bool} {Q:Exit → Act → World → Prop}
def Down (ops:Array Oper) (l:Array Bool):Prop:=∀ i (h:i < ops.size),Dn l i → ∀ e ∈ iK ops[i],Dn l e
theorem Down.YW (hd:Down ops l) (hD:Lu ops pre lM jI rest) {i j:Nat} (hb:Ju ops j i):(∀ (h:i < ops.size),∀ e ∈ iK ops[i],Dn l e) → Dn l j:=by
 induction hb with
 | dir h he=>intro hr;exact hr h _ he
 | step h he hj ih =>
  intro hr
  exact ih (fun h'=>hd _ h' (hr h _ he))
theorem fU {i:Nat} (hl:l.size = ops.size):i ∈ Region.ready .any ops l ↔ ∃ (h:i < ops.size),¬ Dn l i ∧ ∀ e ∈ iK ops[i],Dn l e:=by
 unfold Region.ready
 rw [ajN,aiZ]
 constructor
 ·rintro ⟨h,hh⟩
  refine ⟨h,?_⟩
  rw [aiw,aiQ h] at hh
  simp only [Option.map_some,Option.getD_some] at hh
  refine ⟨fun hd=>?_,fun e he=>?_⟩
  ·have h1:=hh.1
   unfold Dn at hd
   rw [ai5,aiQ (by omega)] at hd h1
   simp only [Option.getD_some] at hd h1
   rw [hd] at h1;cases h1
  ·obtain ⟨x,hx,rfl⟩:=aiM.mp he
   obtain ⟨hx1,hx2⟩:=ajN.mp hx
   have:=(Array.all_eq_true_iff_forall_mem.mp hh.2) x (by simpa using hx1)
   rw [hx2] at this
   exact this
 ·rintro ⟨h,h1,h2⟩
  refine ⟨h,?_⟩
  rw [aiw,aiQ h]
  simp only [Option.map_some,Option.getD_some]
  constructor
  ·unfold Dn at h1
   rw [ai5,aiQ (by omega)] at h1 ⊢
   simp only [Option.getD_some] at h1 ⊢
   simpa using h1
  ·refine Array.all_eq_true_iff_forall_mem.mpr fun x hx=>?_
   cases hb:Region.binds .any x with
   | false=>rfl
   | true=>exact h2 x.on (aiM.mpr ⟨x,ajN.mpr ⟨by simpa using hx,hb⟩,rfl⟩)
theorem Dn.set {i j:Nat} (hi:i < l.size):Dn (l.setIfInBounds i true) j ↔ j = i ∨ Dn l j:=by
 unfold Dn
 rw [ai5,ai5,ajq]
 by_cases h:i = j
 ·subst h
  rw [ail rfl,ail hi]
  simp
 ·rw [ain h]
  constructor
  ·exact fun hh=>.inr hh
  ·rintro (hh | hh)
   ·exact absurd hh.symm h
   ·exact hh
def left (l:Array Bool):Nat:=(l.toList.filter (!·)).length
theorem nK {i:Nat} (hi:i < l.size) (hn:¬ Dn l i):left (l.setIfInBounds i true) + 1 = left l:=by
 unfold left
 rw [Array.toList_setIfInBounds]
 have hv:l.toList[i]? = some false:=by
  unfold Dn at hn
  rw [ai5,aiQ hi] at hn
  simp only [Option.getD_some] at hn
  rw [ajy,aiQ hi]
  simpa using hn
 have key:∀ (l:List Bool) (i:Nat),l[i]? = some false → ((l.set i true).filter (!·)).length + 1 = (l.filter (!·)).length:=by
  intro l
  induction l with
  | nil=>intro i h;simp at h
  | cons b l ih =>
   intro i h
   cases i with
   | zero=>simp at h;subst h;simp
   | succ i =>
    have:=ih i (by simpa using h)
    cases b <;> simp_all
 exact key l.toList i hv
theorem pE (hd:Down ops l) {i:Nat} (hl:l.size = ops.size) (hi:i < ops.size) (hr:∀ e ∈ iK ops[i],Dn l e):Down ops (l.setIfInBounds i true):=by
 intro j hj hD e he
 rcases (Dn.set (by omega)).mp hD with rfl | hD
 ·exact (Dn.set (by omega)).mpr (.inr (hr e he))
 ·exact (Dn.set (by omega)).mpr (.inr (hd j hj hD e he))
theorem pF (hD:Lu ops pre lM jI rest) (hl:l.size = ops.size) {i:Nat} (hi:i < ops.size) (hn:¬ Dn l i):Region.ready .any ops l ≠ []:=by
 have key:∀ (n i:Nat),i ≤ n → (hi:i < ops.size) → ¬ Dn l i → ∃ j,j ∈ Region.ready .any ops l:=by
  intro n
  induction n with
  | zero =>
   intro i h0 hi hn
   exact ⟨i,(fU hl).mpr ⟨hi,hn,fun e he=>by have:=hD.lt i hi e he;omega⟩⟩
  | succ n ih =>
   intro i h0 hi hn
   by_cases hall:∀ e ∈ iK ops[i],Dn l e
   ·exact ⟨i,(fU hl).mpr ⟨hi,hn,hall⟩⟩
   ·have:∃ e,e ∈ iK ops[i] ∧ ¬ Dn l e:=by
     apply ai4
     intro hc
     exact hall (fun e he=>ai4 fun hne=>hc ⟨e,he,hne⟩)
    obtain ⟨e,he,hne⟩:=this
    have:=hD.lt i hi e he
    exact ih e (by omega) (by omega) hne
 obtain ⟨j,hj⟩:=key i i (aiq _) hi hn
 intro e
 rw [e] at hj
 simp at hj
end
end
section
open Go
section
variable {P : Program} {Γ:Env} {aY:Nat → Prop} {w0 w w':World} {aX:List Nat} {N:Fr} {iJ:Nat → Value} {σ σ':St} {a:Act} {X:Hx} {ops:Array Oper} {pre:List (G × List Nat)} {lM:List Nat} {jI rest:List G} {l:Array Bool} {Q:Exit → Act → World → Prop}
theorem iN : ∀ {l:List Oper} {gs:List G},jW P X ops N.ok l = some gs → l.length = gs.length ∧ ∀ i (h:i < l.length) (h':i < gs.length),sH P X ops N.ok l[i] = some gs[i]
 | [],gs,h=>by cases h;exact ⟨rfl,fun i h=>by simp at h⟩
 | o :: l,gs,h=>by
  obtain ⟨g,h1,h2⟩:=zbm h
  obtain ⟨r,h3,rfl⟩:=zmm h2
  obtain ⟨e1,e2⟩:=iN h3
  refine ⟨by simp [e1],fun i hi hi'=>?_⟩
  cases i with
  | zero=>exact h1
  | succ i=>exact e2 i (by simpa using hi) (by simpa using hi')
theorem kP {fuel:Nat}:wpAny P .any ops Q (fuel + 1) l a w = ((Region.ready .any ops l = [] → Q .normal a w) ∧ ∀ i ∈ Region.ready .any ops l,wpOp P ops Q i (wpAny P .any ops Q fuel (l.setIfInBounds i true)) a w):=rfl
theorem UZ (hD:Lu ops pre lM jI rest) (heq:∀ t ∈ X.eqs,lg P t) (kJ:gW P Γ) (hC:dI P Γ) (hc:jW P X ops N.ok ops.toList = some (pre.map (·.1) ++ (jI ++ rest))) (hQ:∀ a' w',Ok aY w0 aX N iJ σ' a' w' → Q .normal a' w') :
  ∀ (fuel k:Nat) (l:Array Bool) (σ:St) (a:Act) (w:World),l.size = ops.size → pre.length + jI.length ≤ k → k ≤ ops.size → (∀ i,i < ops.size → (Dn l i ↔ i < k)) → Down ops l → left l ≤ fuel → Ok aY w0 aX N iJ σ a w → vW Γ false (rest.drop (k - (pre.length + jI.length))) σ = some σ' → wpAny P .any ops Q fuel l a w:=by
 intro fuel
 have hcg:=iN hc
 have hlen:=hD.len
 have nil:∀ {k:Nat} {l:Array Bool},l.size = ops.size → k = ops.size → (∀ i,i < ops.size → (Dn l i ↔ i < k)) → Region.ready .any ops l = []:=by
  intro k l hl hk hd
  refine List.eq_nil_iff_forall_not_mem.mpr fun i hi=>?_
  obtain ⟨h1,h2,_⟩:=(fU hl).mp hi
  exact h2 ((hd i h1).mpr (by omega))
 have pos:∀ {k:Nat} {l:Array Bool},l.size = ops.size → k < ops.size → (∀ i,i < ops.size → (Dn l i ↔ i < k)) → 0 < left l:=by
  intro k l hl hk hd
  have:=nK (l:=l) (i:=k) (by omega) (fun h=>by have:=(hd k hk).mp h;omega)
  omega
 induction fuel with
 | zero =>
  intro k l σ a w hl h1 h2 hd hdn hf h hE
  by_cases hk:k = ops.size
  ·refine ⟨nil hl hk hd,?_⟩
   rw [List.drop_eq_nil_of_le (by omega)] at hE
   cases hE
   exact hQ a w h
  ·have:=pos hl (by omega) hd
   omega
 | succ fuel ih =>
  intro k l σ a w hl h1 h2 hd hdn hf h hE
  rw [kP]
  by_cases hk:k = ops.size
  ·have hn:=nil hl hk hd
   refine ⟨fun _=>?_,fun i hi=>by rw [hn] at hi;simp at hi⟩
   rw [List.drop_eq_nil_of_le (by omega)] at hE
   cases hE
   exact hQ a w h
  ·have hk':k < ops.size:=by omega
   have hnk:¬ Dn l k:=fun hh=>by have:=(hd k hk').mp hh;omega
   refine ⟨fun hn=>absurd hn (pF hD hl hk' hnk),fun i hi=>?_⟩
   obtain ⟨hi1,hi2,hi3⟩:=(fU hl).mp hi
   have hik:i = k:=by
    have hge:k ≤ i:=by
     apply ai4
     intro hlt
     exact hi2 ((hd i hi1).mpr (by omega))
    apply ai4
    intro hne
    rcases hD.tl i (by omega) hi1 k (by omega) with hb | ⟨_,_,hb⟩
    ·exact hnk (hdn.YW hD hb (fun _=>hi3))
    ·omega
   subst hik
   unfold wpOp
   rw [aiQ hi1]
   have ht:i - (pre.length + jI.length) < rest.length:=by omega
   rw [ajV ht] at hE
   obtain ⟨s,h4,h5⟩:=zbm hE
   have hg:=hcg.2 i (by simpa using hi1) (by simp;omega)
   rw [List.getElem_append_right (by simp;omega),List.getElem_append_right (by simp;omega)] at hg
   simp only [aio,Array.getElem_toList,Nat.sub_sub] at hg
   refine BS heq kJ hC hg h h4 fun a' w' h'=>?_
   refine ih (i + 1) _ s a' w' (by simp [hl]) (by omega) (by omega) (fun j hj=>?_) (pE hdn hl hi1 hi3) ?_ h' (by rw [show i + 1 - (pre.length + jI.length) = i - (pre.length + jI.length) + 1 from by omega];exact h5)
   ·rw [Dn.set (by omega)]
    rw [hd j hj]
    omega
   ·have:=nK (l:=l) (i:=i) (by omega) hnk
    omega
end
end
section
open Go
structure Lv (Γ:Env) (pre:List (G × List Nat)) (fG:St) (l:Array Bool) (σ:St):Prop where
 tg1:∀ i pv st (h:Can Γ fG.ob pre fG.tm i pv st),Dn l i → ∀ s,(pre[i]'h.lt).1.dst = some s → get σ.tm s = some pv
 tg2:∀ s,(∀ i (h:i < pre.length),Dn l i → pre[i].1.dst ≠ some s) → get σ.tm s = get fG.tm s
 ob1:∃ news,σ.ob = news ++ fG.ob ∧ ∀ p ∈ news,∃ i,∃ (h:i < pre.length),jJ pre[i].1.i = true ∧ p.1 = dx (pre[i].1.dst.getD 999)
 ob2:∀ i pv st (h:Can Γ fG.ob pre fG.tm i pv st),Dn l i → jJ (pre[i]'h.lt).1.i = true → ∀ p ∈ st.ob.take 1,p ∈ σ.ob
 fr:∀ i (h:i < pre.length),jJ pre[i].1.i = true → ¬ Dn l i → fresh σ (dx (pre[i].1.dst.getD 999)) = true
section
variable {Γ : Env} {σ fG σ':St} {ops:Array Oper} {pre:List (G × List Nat)} {lM:List Nat} {jI rest:List G} {l:Array Bool}
theorem Can.uniq {qR:List (Nat × Ob)} {zB:List (Nat × PV)} {i:Nat} {pv pv':PV} {s s':St} (h:Can Γ qR pre zB i pv s) (h':Can Γ qR pre zB i pv' s'):pv = pv' ∧ s = s':=by
 have:=h.ev.symm.trans h'.ev
 simp only [aiz,aiE] at this
 exact this
theorem pG {d:Option Nat} {tm:List (Nat × PV)} {v:PV} {s:Nat}:get (r9 d tm v) s = if d = some s then some v else get tm s:=by
 cases d with
 | none=>simp [r9]
 | some d =>
  simp only [r9,get_put,aiz]
  by_cases h:s = d
  ·rw [ail h,ail h.symm]
  ·rw [ain h,ain (fun e=>h e.symm)]
theorem DL {d:Option Nat} {tm:List (Nat × PV)} {v:PV} {p:Nat × PV} (h:p ∈ r9 d tm v):p.2 = v ∨ p ∈ tm:=by
 cases d with
 | none=>exact .inr h
 | some d =>
  rcases iy h with rfl | ⟨h,_⟩
  ·exact .inl rfl
  ·exact .inr h
theorem sQ (hD:Lu ops pre lM jI rest) (hall:∀ j,j < pre.length → ∃ pv st,Can Γ fG.ob pre fG.tm j pv st):∀ i,i ≤ pre.length →
  (∀ j pv st (h:Can Γ fG.ob pre fG.tm j pv st),j < i → ∀ s,(pre[j]'h.lt).1.dst = some s → get (jk Γ fG.ob pre fG.tm i) s = some pv) ∧
  (∀ s,(∀ j (h:j < pre.length),j < i → pre[j].1.dst ≠ some s) → get (jk Γ fG.ob pre fG.tm i) s = get fG.tm s) ∧
  ∀ p ∈ jk Γ fG.ob pre fG.tm i,p ∈ fG.tm ∨ ∃ j pv st,j < i ∧ Can Γ fG.ob pre fG.tm j pv st ∧ p.2 = pv
 | 0,_=>⟨fun j _ _ _ h=>by omega,fun s _=>rfl,fun p hp=>.inl hp⟩
 | i + 1,hi=>by
  obtain ⟨e1,e2,e3⟩:=sQ hD hall i (by omega)
  obtain ⟨pv,st,hc⟩:=hall i (by omega)
  rw [hc.nx]
  refine ⟨fun j pv' st' h hj s hs=>?_,fun s hs=>?_,fun p hp=>?_⟩
  ·rw [pG]
   by_cases hji:j = i
   ·subst hji
    rw [ail hs,(h.uniq hc).1]
   ·rw [ain (hD.dst j i h.lt hc.lt hji s hs),e1 j pv' st' h (by omega) s hs]
  ·rw [pG,ain (hs i hc.lt (by omega))]
   exact e2 s (fun j h hj=>hs j h (by omega))
  ·rcases DL hp with h | h
   ·exact .inr ⟨i,pv,st,by omega,hc,h⟩
   ·rcases e3 p h with h | ⟨j,pv',st',h1,h2,h3⟩
    ·exact .inl h
    ·exact .inr ⟨j,pv',st',by omega,h2,h3⟩
theorem Ju.lt (hD:Lu ops pre lM jI rest) {i j:Nat} (h:Ju ops j i):j < i:=by
 induction h with
 | dir h he=>exact hD.lt _ h _ he
 | step h he hj ih=>have:=hD.lt _ h _ he;omega
theorem Hy {α:Type} {l m:List (Nat × α)} {k:Nat} (h:∀ p ∈ l,p.1 ≠ k):get (l ++ m) k = get m k:=by
 induction l with
 | nil=>rfl
 | cons p l ih =>
  obtain ⟨j,u⟩:=p
  rw [List.cons_append]
  conv=>lhs;unfold get
  rw [ain (h _ ajE),ih (fun p hp=>h p (ajd _ hp))]
theorem BU : ∀ {i:I},Pv i = true → jJ i = true → False:=by
 intro i h1 h2
 cases i <;> simp [Pv,jJ] at h1 h2
theorem YX (hD:Lu ops pre lM jI rest) (hall:∀ j,j < pre.length → ∃ pv st,Can Γ fG.ob pre fG.tm j pv st) (hfr:∀ i (h:i < pre.length),jJ pre[i].1.i = true → fresh fG (dx (pre[i].1.dst.getD 999)) = true)
  (hI:Lv Γ pre fG l σ) (hl:l.size = ops.size) (hdn:Down ops l) {i:Nat} (hi:i < pre.length) (hi':i < ops.size) (hn:¬ Dn l i) (hr:∀ e ∈ iK ops[i],Dn l e) :
  ∃ pv σ1,l6 Γ true σ pre[i].1 = some (pv,σ1) ∧ Lv Γ pre fG (l.setIfInBounds i true) (qI σ1 pre[i].1.dst pv):=by
 obtain ⟨pv,st,hc⟩:=hall i hi
 obtain ⟨c1,c2,c3⟩:=sQ hD hall i (by omega)
 have hset:∀ {j},Dn (l.setIfInBounds i true) j ↔ j = i ∨ Dn l j:=fun {j}=>Dn.set (by omega)
 have hsame:Same (rd pre[i].1) ⟨jk Γ fG.ob pre fG.tm i,fG.ob⟩ σ:=by
  intro s hs
  by_cases hw:∃ j,∃ (h:j < pre.length),pre[j].1.dst = some s
  ·obtain ⟨j,hj,hjs⟩:=hw
   have hje:=hD.data i hi hi' s hs j hj hjs
   obtain ⟨pv',st',hc'⟩:=hall j hj
   rw [hI.tg1 j pv' st' hc' (hr j hje) s hjs,c1 j pv' st' hc' (hD.lt i hi' j hje) s hjs]
  ·have hw':∀ j (h:j < pre.length),pre[j].1.dst ≠ some s:=fun j h e=>hw ⟨j,h,e⟩
   rw [hI.tg2 s (fun j h _=>hw' j h),c2 s (fun j h _=>hw' j h)]
 have hnk:∀ j (h:j < pre.length),jJ pre[j].1.i = true → ¬ Dn l j → j ≠ i → dx (pre[j].1.dst.getD 999) ∈ pre[i].2:=by
  intro j h hN hdj hji
  rcases hD.nk j i h hi hji hN with h1 | h1
  ·exact h1
  ·exact absurd (hdn.YW hD h1 (fun _=>hr)) hdj
 obtain ⟨news,ho1,ho2⟩:=hI.ob1
 have hkey:∀ k o,get fG.ob k = some o → get σ.ob k = some o:=by
  intro k o hk
  rw [ho1,Hy]
  ·exact hk
  ·intro p hp e
   obtain ⟨j,hj,hN,hpk⟩:=ho2 p hp
   have:=(jw.mp (hfr j hj hN)).1 _ (get_mem hk)
   exact this.1 (by show k = _;rw [← e,hpk])
 have fin:∀ (σ1:St) (new:List (Nat × Ob)),σ1.tm = σ.tm → σ1.ob = new ++ σ.ob → (∀ p ∈ new,jJ pre[i].1.i = true ∧ p.1 = dx (pre[i].1.dst.getD 999)) → (jJ pre[i].1.i = true → new = st.ob.take 1) → Lv Γ pre fG (l.setIfInBounds i true) (qI σ1 pre[i].1.dst pv):=by
  intro σ1 new ht fQ hnew hst
  have SE:(qI σ1 pre[i].1.dst pv).tm = r9 pre[i].1.dst σ.tm pv:=by
   unfold qI r9
   cases pre[i].1.dst <;> simp [ht]
  have U0:(qI σ1 pre[i].1.dst pv).ob = new ++ σ.ob:=by
   unfold qI
   cases pre[i].1.dst <;> simp [fQ]
  refine ⟨fun j pv' st' h hd s hs=>?_,fun s hs=>?_,⟨new ++ news,by rw [U0,ho1,ajc],fun p hp=>?_⟩,fun j pv' st' h hd hN p hp=>?_,fun j h hN hd=>?_⟩
  ·rw [SE,pG]
   rcases hset.mp hd with rfl | hd
   ·rw [ail hs,(h.uniq hc).1]
   ·have hji:j ≠ i:=fun e=>hn (e ▸ hd)
    rw [ain (hD.dst j i h.lt hi hji s hs)]
    exact hI.tg1 j pv' st' h hd s hs
  ·rw [SE,pG,ain (hs i hi (hset.mpr (.inl rfl)))]
   exact hI.tg2 s (fun j h hd=>hs j h (hset.mpr (.inr hd)))
  ·rcases aiN.mp hp with hp | hp
   ·exact ⟨i,hi,hnew p hp⟩
   ·exact ho2 p hp
  ·rw [U0]
   rcases hset.mp hd with rfl | hd
   ·refine List.mem_append_left _ ?_
    rw [hst hN,(hc.uniq h).2];exact hp
   ·exact List.mem_append_right _ (hI.ob2 j pv' st' h hd hN p hp)
  ·have hji:j ≠ i:=fun e=>hd (hset.mpr (.inl e))
   have hdj:¬ Dn l j:=fun e=>hd (hset.mpr (.inr e))
   have hk:=hnk j h hN hdj hji
   obtain ⟨f1,f2⟩:=jw.mp (hI.fr j h hN hdj)
   obtain ⟨g1,g2⟩:=hc.nk _ hk
   refine jw.mpr ⟨fun p hp=>?_,fun p hp=>?_⟩
   ·rw [U0] at hp
    rcases aiN.mp hp with hp | hp
    ·have hNi:=(hnew p hp).1
     exact g2 hNi p (by rw [← hst hNi];exact hp)
    ·exact f1 p hp
   ·rw [SE] at hp
    rcases DL hp with h | h
    ·rw [h];exact g1
    ·exact f2 p h
 rcases hD.cls i hi with hV | ⟨hN,hgd⟩
 ·obtain ⟨e1,e2⟩:=sP hV hsame hkey hc.ev
  refine ⟨pv,σ,e2,fin σ [] rfl rfl (fun p hp=>by simp at hp) (fun hN=>?_)⟩
  exact (BU hV hN).elim
 ·have hfc:fresh ⟨jk Γ fG.ob pre fG.tm i,fG.ob⟩ (dx (pre[i].1.dst.getD 999)) = true:=by
   obtain ⟨f1,f2⟩:=jw.mp (hfr i hi hN)
   refine jw.mpr ⟨f1,fun p hp=>?_⟩
   rcases c3 p hp with h | ⟨j,pv',st',h1,h2,h3⟩
   ·exact f2 p h
   ·rcases hD.nk i j hi h2.lt (by omega) hN with h4 | h4
    ·rw [h3];exact (h2.nk _ h4).1
    ·have:=h4.lt hD;omega
  obtain ⟨o,e1,e2⟩:=Ls hN hgd hsame hfc (hI.fr i hi hN hn) hc.ev
  refine ⟨pv,_,e2,fin _ [(dx (pre[i].1.dst.getD 999),o)] rfl rfl (fun p hp=>by simp at hp;exact ⟨hN,by rw [hp]⟩) (fun _=>by rw [e1];rfl)⟩
end
end
section
open Go
section
variable {P : Program} {Γ:Env} {aY:Nat → Prop} {w0 w w':World} {aX:List Nat} {N:Fr} {d:Nat} {iJ:Nat → Value} {σ fG σ':St} {a:Act} {X:Hx} {ops:Array Oper} {pre:List (G × List Nat)} {lM:List Nat} {jI rest:List G} {l:Array Bool} {Q:Exit → Act → World → Prop} {pv:PV}
theorem U1 {tm tm2:List (Nat × PV)} {ob:List (Nat × Ob)} {n key off:Nat} {x y:dH} {s:St} (hv:val ⟨tm,ob⟩ x = some (.one (.ptr key off))) (hE:bV Γ true ⟨tm,ob⟩ d (.store n x y) = some (pv,s)) :
  s.tm = tm ∧ (Same (mY (.store n x y)) ⟨tm,ob⟩ ⟨tm2,ob⟩ → ∀ q d,bV Γ q ⟨tm2,ob⟩ d (.store n x y) = some (pv,⟨tm2,s.ob⟩)) ∧ ∀ k o,k ≠ key → get ob k = some o → get s.ob k = some o:=by
 simp only [bV] at hE
 rw [hv] at hE
 simp only [Option.bind_some] at hE
 obtain ⟨u,h1,h2⟩:=zbm hE
 split at h2
 ·rename_i hc
  split at h2
  ·rename_i xs fQ
   obtain ⟨l,h3,h4⟩:=zmm h2
   cases h4
   refine ⟨rfl,fun hs q d=>?_,fun k o hk hg=>?_⟩
   ·simp only [bV]
    simp only [mY] at hs
    rw [hs.l.val,hv,Option.bind_some,hs.r.val,h1,Option.bind_some,ail hc]
    simp only [fQ]
    simp only [h3,Option.map_some,jm]
   ·simp only [jm,get_put,ain hk]
    exact hg
  ·cases h2
 ·cases h2
theorem U2 {tm:List (Nat × PV)} {ob ob':List (Nat × Ob)} {x:dH}:val ⟨tm,ob⟩ x = val ⟨tm,ob'⟩ x:=by
 cases x <;> rfl
theorem get_filter {α:Type} {l:List (Nat × α)} {p:Nat → Bool} {k:Nat} {o:α} (h:get (l.filter fun x=>p x.1) k = some o):p k = true ∧ get l k = some o:=by
 induction l with
 | nil=>cases h
 | cons q l ih =>
  obtain ⟨j,u⟩:=q
  rw [List.filter_cons] at h
  by_cases hp:p j = true
  ·rw [ail hp] at h
   unfold get at h ⊢
   by_cases hj:j = k
   ·rw [ail hj] at h ⊢
    exact ⟨hj ▸ hp,h⟩
   ·rw [ain hj] at h ⊢
    exact ih h
  ·rw [ain hp] at h
   obtain ⟨h1,h2⟩:=ih h
   refine ⟨h1,?_⟩
   unfold get
   rw [ain (by intro e;subst e;exact hp h1)]
   exact h2
theorem Ok.less (h:Ok aY w0 aX N iJ σ a w) (ht:∀ p ∈ σ'.tm,p ∈ σ.tm) (ho:∀ p ∈ σ'.ob,p ∈ σ.ob):Ok aY w0 aX N iJ σ' a w:=by
 obtain ⟨Fz,κ,hr,hk⟩:=h
 exact ⟨Fz,κ,hr.less ht ho,hk⟩
def Vis (pre:List (G × List Nat)) (l:Array Bool) (s:Nat):Prop:=∀ j (h:j < pre.length),¬ Dn l j → pre[j].1.dst ≠ some s
theorem U3 (hD:Lu ops pre lM jI rest) (heq:∀ t ∈ X.eqs,lg P t) (kJ:gW P Γ) (hC:dI P Γ) (hc:jW P X ops N.ok ops.toList = some (pre.map (·.1) ++ (jI ++ rest))) (hQ:∀ a' w',Ok aY w0 aX N iJ σ' a' w' → Q .normal a' w')
  {tm:List (Nat × PV)} {obS Px:List (Nat × Ob)} (SE:∀ p ∈ tm,get tm p.1 = some p.2)
  (hpv:∀ j (h:j < pre.length),j ∈ lM → ∃ pv s,l6 Γ true ⟨tm,obS.filter (fun p=>!(jI.flatMap (sj tm)).contains p.1)⟩ pre[j].1 = some (pv,s) ∧ ∀ s,pre[j].1.dst = some s → get tm s = some pv)
  (hE:vW Γ false rest ⟨tm,Px⟩ = some σ') :
  ∀ (fuel m:Nat) (l:Array Bool) (DN:List (Nat × PV)) (ob:List (Nat × Ob)) (a:Act) (w:World),l.size = ops.size → m ≤ jI.length → (∀ i,i < ops.size → pre.length ≤ i → (Dn l i ↔ i < pre.length + m)) → (∀ j,j < pre.length → j ∉ lM → Dn l j) → Down ops l → left l ≤ fuel →
   KP Γ tm (jI.drop m) ob = some Px → (∀ k o,(jI.flatMap (sj tm)).contains k = false → get obS k = some o → get ob k = some o) → (∀ s,Vis pre l s → get DN s = get tm s) → Ok aY w0 aX N iJ ⟨DN,ob⟩ a w → wpAny P .any ops Q fuel l a w:=by
 intro fuel
 have hcg:=iN hc
 have hlen:=hD.len
 have over:∀ (fuel m:Nat) (l:Array Bool) (DN:List (Nat × PV)) (ob:List (Nat × Ob)) (a:Act) (w:World),l.size = ops.size → m = jI.length → (∀ i,i < ops.size → pre.length ≤ i → (Dn l i ↔ i < pre.length + m)) → (∀ j,j < pre.length → Dn l j) → Down ops l → left l ≤ fuel →
   KP Γ tm (jI.drop m) ob = some Px → (∀ s,Vis pre l s → get DN s = get tm s) → Ok aY w0 aX N iJ ⟨DN,ob⟩ a w → wpAny P .any ops Q fuel l a w:=by
  intro fuel m l DN ob a w hl hm hd hall hdn hf hL hv h
  subst hm
  rw [List.drop_of_length_le (aiq _)] at hL
  cases hL
  refine UZ hD heq kJ hC hc hQ fuel (pre.length + jI.length) l ⟨tm,Px⟩ a w hl (aiq _) (by omega) (fun i hi=>?_) hdn hf (h.less (fun p hp=>?_) (fun _ hp=>hp)) (by rw [Nat.sub_self,ajs];exact hE)
  ·by_cases hi':i < pre.length
   ·exact ⟨fun _=>by omega,fun _=>hall i hi'⟩
   ·exact hd i hi (by omega)
  ·have:=hv p.1 (fun j hj hnd=>absurd (hall j hj) hnd)
   rw [SE p hp] at this
   exact get_mem this
 induction fuel with
 | zero =>
  intro m l DN ob a w hl hm hd hfl hdn hf hL fQ hv h
  have hdone:∀ i,i < ops.size → Dn l i:=by
   intro i hi
   apply ai4
   intro hn
   have:=nK (l:=l) (i:=i) (by omega) hn
   omega
  refine over 0 m l DN ob a w hl ?_ hd (fun j hj=>hdone j (by omega)) hdn hf hL hv h
  apply ai4
  intro hne
  have:=(hd (pre.length + m) (by omega) (by omega)).mp (hdone _ (by omega))
  omega
 | succ fuel ih =>
  intro m l DN ob a w hl hm hd hfl hdn hf hL fQ hv h
  by_cases hfin:m = jI.length ∧ ∀ j,j < pre.length → Dn l j
  ·exact over (fuel + 1) m l DN ob a w hl hfin.1 hd hfin.2 hdn hf hL hv h
  ·have hex:∃ i,i < pre.length + jI.length ∧ i < ops.size ∧ ¬ Dn l i:=by
    apply ai4
    intro hno
    have hall:∀ i,i < pre.length + jI.length → i < ops.size → Dn l i:=fun i h1 h2=>ai4 fun hn=>hno ⟨i,h1,h2,hn⟩
    refine hfin ⟨?_,fun j hj=>hall j (by omega) (by omega)⟩
    apply ai4
    intro hne
    have:=(hd (pre.length + m) (by omega) (by omega)).mp (hall _ (by omega) (by omega))
    omega
   obtain ⟨i0,hi0,ad8,hn0⟩:=hex
   rw [kP]
   refine ⟨fun hn=>absurd hn (pF hD hl ad8 hn0),fun i hi=>?_⟩
   obtain ⟨hi1,hi2,hi3⟩:=(fU hl).mp hi
   have hset:∀ {j},Dn (l.setIfInBounds i true) j ↔ j = i ∨ Dn l j:=fun {j}=>Dn.set (by omega)
   have hleft:=nK (l:=l) (i:=i) (by omega) hi2
   unfold wpOp
   rw [aiQ hi1]
   have hg:=hcg.2 i (by simpa using hi1) (by simp;omega)
   by_cases U4:i < pre.length
   ·
    have hif:i ∈ lM:=ai4 fun hn=>hi2 (hfl i U4 hn)
    rw [List.getElem_append_left (by simpa using U4)] at hg
    simp only [ajw,Array.getElem_toList] at hg
    obtain ⟨pv,s,h1,h2⟩:=hpv i U4 hif
    have hsame:Same (rd pre[i].1) ⟨tm,obS.filter (fun p=>!(jI.flatMap (sj tm)).contains p.1)⟩ ⟨DN,ob⟩:=fun s hs=>hv s (fun j hj hnd he=>hnd (hi3 j (hD.data i U4 hi1 s hs j hj he)))
    obtain ⟨e1,e2⟩:=sP (σ2:=⟨DN,ob⟩) (hD.fl i hif U4) hsame (fun k o hk=>by
     obtain ⟨g1,g2⟩:=get_filter (p:=fun k=>!(jI.flatMap (sj tm)).contains k) hk
     exact fQ k o (by simpa using g1) g2) h1
    refine wF heq kJ hC hg h e2 fun a' w' h'=>?_
    refine ih m _ (r9 pre[i].1.dst DN pv) ob a' w' (by simp [hl]) hm (fun j hj hj'=>?_) (fun j hj hjf=>hset.mpr (.inr (hfl j hj hjf))) (pE hdn hl hi1 hi3) (by omega) hL fQ (fun s hs=>?_) ?_
    ·rw [hset,hd j hj hj']
     omega
    ·rw [pG]
     split
     ·rename_i he
      exact (h2 s he).symm
     ·rename_i he
      refine hv s (fun j hj hnd hjs=>?_)
      by_cases hji:j = i
      ·subst hji;exact he hjs
      ·exact hs j hj (fun hdj=>by rcases hset.mp hdj with h | h;exact hji h;exact hnd h) hjs
    ·cases hdst:pre[i].1.dst with
     | none=>rw [hdst] at h';exact h'
     | some s=>rw [hdst] at h';exact h'
   ·
    have him:i = pre.length + m ∧ m < jI.length:=by
     have hge:pre.length + m ≤ i:=by
      apply ai4
      intro hlt
      exact hi2 ((hd i hi1 (by omega)).mpr (by omega))
     have hlt':i < pre.length + jI.length:=by
      apply ai4
      intro hnl
      rcases hD.tl i (by omega) hi1 i0 (by omega) with hb | ⟨_,_,hb⟩
      ·exact hn0 (hdn.YW hD hb (fun _=>hi3))
      ·omega
     refine ⟨?_,by omega⟩
     apply ai4
     intro hne
     have hnm:¬ Dn l (pre.length + m):=fun hh=>by have:=(hd (pre.length + m) (by omega) (by omega)).mp hh;omega
     rcases hD.tl i (by omega) hi1 (pre.length + m) (by omega) with hb | ⟨hb,_,_⟩
     ·exact hnm (hdn.YW hD hb (fun _=>hi3))
     ·omega
    obtain ⟨rfl,hml⟩:=him
    rw [List.getElem_append_right (by simp),List.getElem_append_left (by simpa using hml)] at hg
    simp only [aio,Array.getElem_toList,Nat.add_sub_cancel_left] at hg
    rw [ajV hml] at hL
    have hlg:=hD.lt' _ (List.getElem_mem hml)
    have hld:=hD.ld m hml hi1
    have hkey:∀ k,k ∈ sj tm jI[m] → (jI.flatMap (sj tm)).contains k = true:=fun k hk=>by
     rw [List.contains_iff_mem]
     exact List.mem_flatMap.mpr ⟨_,List.getElem_mem hml,hk⟩
    generalize jI[m] = g at hg hL hlg hld hkey
    obtain ⟨gd,gg,gi⟩:=g
    unfold isLt at hlg
    simp only [aiw] at hlg
    obtain ⟨⟨hl1,hl2⟩,hl3⟩:=hlg
    have hgd:gd = none:=by cases gd <;> simp_all
    have hgg:gg = none:=by cases gg <;> simp_all
    subst hgd
    subst hgg
    cases gi with
    | store n x y =>
     simp only [KP] at hL
     split at hL
     ·rename_i key off hval
      obtain ⟨p,h1,h2⟩:=zbm hL
      obtain ⟨pv,s⟩:=p
      have hsame:Same (mY (.store n x y)) ⟨tm,ob⟩ ⟨DN,ob⟩:=fun s hs=>hv s (fun j hj hnd he=>hnd (hi3 j (hld s (by unfold rd;exact List.mem_append_left _ hs) j hj he)))
      obtain ⟨e1,e2,e3⟩:=U1 (tm2:=DN) hval h1
      have e2':=e2 hsame true 999
      refine wF (q:=true) (pv:=pv) (σ':=⟨DN,s.ob⟩) heq kJ hC hg h (by simp only [l6,zq,Option.bind_some,aiV];exact e2') fun a' w' h'=>?_
      refine ih (m + 1) _ DN s.ob a' w' (by simp [hl]) (by omega) (fun j hj hj'=>?_) (fun j hj hjf=>hset.mpr (.inr (hfl j hj hjf))) (pE hdn hl hi1 hi3) (by omega) h2 (fun k o hk hg'=>?_) (fun s hs=>hv s (fun j hj hnd=>hs j hj (fun hdj=>by rcases hset.mp hdj with h | h;omega;exact hnd h))) h'
      ·rw [hset,hd j hj hj']
       omega
      ·refine e3 k o (fun e=>?_) (fQ k o hk hg')
       subst e
       have hv0:val ⟨tm,[]⟩ x = some (.one (.ptr k off)):=(U2 (ob':=ob)).trans hval
       have:=hkey k (by simp only [sj,hv0,aje])
       rw [this] at hk;cases hk
     ·cases hL
    | _=>simp at hl3
end
end
section
open Go
section
variable {P : Program} {Γ:Env} {aY:Nat → Prop} {w0 w w':World} {aX:List Nat} {N:Fr} {iJ:Nat → Value} {σ fG σ':St} {a:Act} {X:Hx} {ops:Array Oper} {pre:List (G × List Nat)} {lM:List Nat} {jI rest:List G} {l:Array Bool} {Q:Exit → Act → World → Prop}
theorem BX {α:Type} {ks:List Nat} {l:List (Nat × α)} {p:Nat × α} (h:p ∈ pick ks l):get l p.1 = some p.2:=by
 unfold pick at h
 obtain ⟨i,_,h2⟩:=List.mem_filterMap.mp h
 obtain ⟨v,h3,h4⟩:=zmm h2
 subst h4
 exact h3
theorem DR {α:Type} {l:List (Nat × α)} {s:Nat}:∀ {ks:List Nat},get (pick ks l) s = if s ∈ ks then get l s else none
 | []=>rfl
 | k :: ks=>by
  have ih:=DR (l:=l) (s:=s) (ks:=ks)
  unfold pick at ih ⊢
  rw [List.filterMap_cons]
  cases hg:get l k with
  | none =>
   simp only [Option.map_none]
   rw [ih]
   by_cases hk:s = k
   ·subst hk;simp [hg]
   ·simp [hk]
  | some v =>
   simp only [Option.map_some]
   conv=>lhs;unfold get
   by_cases hk:k = s
   ·subst hk;simp [hg]
   ·rw [ain hk,ih]
    have:¬ s = k:=fun e=>hk e.symm
    simp [this]
theorem get_none {α:Type} {l:List (Nat × α)} {s:Nat} (h:s ∉ l.map (·.1)):get l s = none:=by
 cases hg:get l s with
 | none=>rfl
 | some v=>exact absurd (aiM.mpr ⟨_,get_mem hg,rfl⟩) h
theorem Py {α:Type} {l:List (Nat × α)} {s:Nat}:get (pick (l.map (·.1)) l) s = get l s:=by
 rw [DR]
 split
 ·rfl
 ·rename_i h;exact (get_none h).symm
theorem ad9 (hD:Lu ops pre lM jI rest) (hall:∀ j,j < pre.length → ∃ pv st,Can Γ fG.ob pre fG.tm j pv st) (hfr:∀ i (h:i < pre.length),jJ pre[i].1.i = true → fresh fG (dx (pre[i].1.dst.getD 999)) = true)
  {i:Nat} {pv:PV} {st:St} (hc:Can Γ fG.ob pre fG.tm i pv st) (hN:jJ (pre[i]'hc.lt).1.i = true):∀ p ∈ st.ob.take 1,p.1 = dx ((pre[i]'hc.lt).1.dst.getD 999):=by
 have hi:=hc.lt
 obtain ⟨c1,c2,c3⟩:=sQ hD hall i (by omega)
 have hgd:pre[i].1.gd = none:=by
  rcases hD.cls i hi with h | h
  ·exact (BU h hN).elim
  ·exact h.2
 have hfc:fresh ⟨jk Γ fG.ob pre fG.tm i,fG.ob⟩ (dx (pre[i].1.dst.getD 999)) = true:=by
  obtain ⟨f1,f2⟩:=jw.mp (hfr i hi hN)
  refine jw.mpr ⟨f1,fun p hp=>?_⟩
  rcases c3 p hp with h | ⟨j,pv',st',h1,h2,h3⟩
  ·exact f2 p h
  ·rcases hD.nk i j hi h2.lt (by omega) hN with h4 | h4
   ·rw [h3];exact (h2.nk _ h4).1
   ·have:=h4.lt hD;omega
 obtain ⟨o,e1,_⟩:=Ls (σ2:=⟨jk Γ fG.ob pre fG.tm i,fG.ob⟩) hN hgd (fun _ _=>rfl) hfc hfc hc.ev
 intro p hp
 rw [e1] at hp
 simp at hp
 rw [hp]
theorem U5 (hD:Lu ops pre lM jI rest) (heq:∀ t ∈ X.eqs,lg P t) (kJ:gW P Γ) (hC:dI P Γ) (hc:jW P X ops N.ok ops.toList = some (pre.map (·.1) ++ (jI ++ rest))) (hQ:∀ a' w',Ok aY w0 aX N iJ σ' a' w' → Q .normal a' w')
  (hall:∀ j,j < pre.length → ∃ pv st,Can Γ fG.ob pre fG.tm j pv st) (hfr:∀ i (h:i < pre.length),jJ pre[i].1.i = true → fresh fG (dx (pre[i].1.dst.getD 999)) = true)
  {tm:List (Nat × PV)} {sob Px news':List (Nat × Ob)} (SE:tm = pick ((jk Γ fG.ob pre fG.tm pre.length).map (·.1)) (jk Γ fG.ob pre fG.tm pre.length))
  (YZ:sob = news' ++ fG.ob) (hnews:∀ p ∈ news',∃ j pv st,∃ (h:Can Γ fG.ob pre fG.tm j pv st),jJ (pre[j]'h.lt).1.i = true ∧ p ∈ st.ob.take 1)
  (Pz:lM.all (fun j=>(l6 Γ true ⟨tm,fG.ob.filter (fun p=>!(jI.flatMap (sj tm)).contains p.1)⟩ (pre.getD j default).1).isSome) = true)
  (hL:KP Γ tm jI sob = some Px) (hE:vW Γ false rest ⟨tm,Px⟩ = some σ') :
  ∀ (fuel:Nat) (l:Array Bool) (σ:St) (a:Act) (w:World),l.size = ops.size → (∀ i,pre.length ≤ i → ¬ Dn l i) → Down ops l → left l ≤ fuel → Ok aY w0 aX N iJ σ a w → Lv Γ pre fG l σ → wpAny P .any ops Q fuel l a w:=by
 intro fuel
 have hcg:=iN hc
 have hlen:=hD.len
 obtain ⟨c1,c2,c3⟩:=sQ (Γ:=Γ) hD hall pre.length (aiq _)
 have htg:∀ s,get tm s = get (jk Γ fG.ob pre fG.tm pre.length) s:=fun s=>by rw [SE];exact Py
 have aea:∀ p ∈ tm,get tm p.1 = some p.2:=fun p hp=>by
  rw [htg]
  rw [SE] at hp
  exact BX hp
 have hpv:∀ j (h:j < pre.length),j ∈ lM → ∃ pv s,l6 Γ true ⟨tm,fG.ob.filter (fun p=>!(jI.flatMap (sj tm)).contains p.1)⟩ pre[j].1 = some (pv,s) ∧ ∀ s,pre[j].1.dst = some s → get tm s = some pv:=by
  intro j h hj
  have h1:=aiA.mp Pz j hj
  rw [aiL,aiB h,Option.getD_some] at h1
  obtain ⟨q,hq⟩:=ajH.mp h1
  obtain ⟨pv',s'⟩:=q
  refine ⟨pv',s',hq,fun s hs=>?_⟩
  obtain ⟨pv,st,hcj⟩:=hall j h
  obtain ⟨d1,d2,d3⟩:=sQ (Γ:=Γ) hD hall j (by omega)
  have hV:=hD.fl j hj h
  obtain ⟨_,g1⟩:=sP (σ:=⟨tm,fG.ob.filter (fun p=>!(jI.flatMap (sj tm)).contains p.1)⟩) (σ2:=⟨tm,fG.ob⟩) hV (fun _ _=>rfl) (fun k o hk=>(get_filter (p:=fun k=>!(jI.flatMap (sj tm)).contains k) hk).2) hq
  have hsame:Same (rd pre[j].1) ⟨jk Γ fG.ob pre fG.tm j,fG.ob⟩ ⟨tm,fG.ob⟩:=by
   intro s hs
   show get tm s = get (jk Γ fG.ob pre fG.tm j) s
   rw [htg]
   by_cases hw:∃ i,∃ (hi:i < pre.length),pre[i].1.dst = some s
   ·obtain ⟨i,hi,his⟩:=hw
    have hie:=hD.data j h (by omega) s hs i hi his
    obtain ⟨pv',st',hc'⟩:=hall i hi
    rw [c1 i pv' st' hc' hi s his,d1 i pv' st' hc' (hD.lt j (by omega) i hie) s his]
   ·have hw':∀ i (h:i < pre.length),pre[i].1.dst ≠ some s:=fun i h e=>hw ⟨i,h,e⟩
    rw [c2 s (fun i h _=>hw' i h),d2 s (fun i h _=>hw' i h)]
  obtain ⟨_,g2⟩:=sP (σ2:=⟨tm,fG.ob⟩) hV hsame (fun k o hk=>hk) hcj.ev
  rw [g1] at g2
  simp only [aiz,aiE] at g2
  rw [htg,c1 j pv st hcj h s hs,g2.1]
 have over:∀ (fuel:Nat) (l:Array Bool) (σ:St) (a:Act) (w:World),l.size = ops.size → (∀ i,pre.length ≤ i → ¬ Dn l i) → Down ops l → left l ≤ fuel → Ok aY w0 aX N iJ σ a w → Lv Γ pre fG l σ → (∀ i,i < pre.length → i ∉ lM → Dn l i) → wpAny P .any ops Q fuel l a w:=by
  intro fuel l σ a w hl hno hdn hf h hI hdone
  refine U3 (tm:=tm) (obS:=fG.ob) (Px:=Px) hD heq kJ hC hc hQ aea hpv hE fuel 0 l σ.tm sob a w hl (aiU _) (fun i hi U4=>⟨fun hd=>absurd hd (hno i U4),fun hd=>by omega⟩) hdone hdn hf (by rw [ajs];exact hL) (fun k o _ hk=>?_) (fun s hs=>?_) (h.less (fun _ hp=>hp) (fun p hp=>?_))
  ·rw [YZ,Hy]
   ·exact hk
   ·intro p hp e
    obtain ⟨j,pv,st,hcj,hN,hpt⟩:=hnews p hp
    have hk':=ad9 hD hall hfr hcj hN p hpt
    have:=(jw.mp (hfr j hcj.lt hN)).1 _ (get_mem hk)
    exact this.1 (by show k = _;rw [← e,hk'])
  ·rw [htg]
   by_cases hw:∃ j,∃ (h:j < pre.length),pre[j].1.dst = some s
   ·obtain ⟨j,hj,hjs⟩:=hw
    obtain ⟨pv,st,hcj⟩:=hall j hj
    have hdj:Dn l j:=ai4 fun hn=>hs j hj hn hjs
    rw [c1 j pv st hcj hj s hjs]
    exact hI.tg1 j pv st hcj hdj s hjs
   ·have hw':∀ j (h:j < pre.length),pre[j].1.dst ≠ some s:=fun j h e=>hw ⟨j,h,e⟩
    rw [c2 s (fun j h _=>hw' j h)]
    exact hI.tg2 s (fun j h _=>hw' j h)
  ·rw [YZ] at hp
   rcases aiN.mp hp with hp | hp
   ·obtain ⟨j,pv,st,hcj,hN,hpt⟩:=hnews p hp
    refine hI.ob2 j pv st hcj (hdone j hcj.lt (fun hj=>?_)) hN p hpt
    exact BU (hD.fl j hj hcj.lt) hN
   ·obtain ⟨news,ho,_⟩:=hI.ob1
    rw [ho]
    exact List.mem_append_right _ hp
 induction fuel with
 | zero =>
  intro l σ a w hl hno hdn hf h hI
  refine over 0 l σ a w hl hno hdn hf h hI fun i hi _=>?_
  apply ai4
  intro hn
  have:=nK (l:=l) (i:=i) (by omega) hn
  omega
 | succ fuel ih =>
  intro l σ a w hl hno hdn hf h hI
  by_cases hdone:∀ i,i < pre.length → i ∉ lM → Dn l i
  ·exact over (fuel + 1) l σ a w hl hno hdn hf h hI hdone
  ·have:∃ i,i < pre.length ∧ i ∉ lM ∧ ¬ Dn l i:=by
    apply ai4
    intro hc
    exact hdone fun i hi hif=>ai4 fun hn=>hc ⟨i,hi,hif,hn⟩
   obtain ⟨i0,hi0,aeb,hn0⟩:=this
   rw [kP]
   refine ⟨fun hn=>absurd hn (pF hD hl (by omega) hn0),fun i hi=>?_⟩
   obtain ⟨hi1,hi2,hi3⟩:=(fU hl).mp hi
   have him:i < pre.length:=by
    apply ai4
    intro hge
    rcases hD.tl i (by omega) hi1 i0 (by omega) with hb | ⟨_,hb,_⟩
    ·exact hn0 (hdn.YW hD hb (fun _=>hi3))
    ·exact aeb hb
   obtain ⟨pv,σ1,h1,h2⟩:=YX hD hall hfr hI hl hdn him hi1 hi2 hi3
   unfold wpOp
   rw [aiQ hi1]
   have hg:=hcg.2 i (by simpa using hi1) (by simp;omega)
   rw [List.getElem_append_left (by simpa using him)] at hg
   simp only [ajw,Array.getElem_toList] at hg
   refine wF heq kJ hC hg h h1 fun a' w' h'=>?_
   refine ih _ _ a' w' (by simp [hl]) (fun j hj hd=>?_) (pE hdn hl hi1 hi3) ?_ h' h2
   ·rcases (Dn.set (by omega)).mp hd with rfl | hd
    ·omega
    ·exact hno j hj hd
   ·have:=nK (l:=l) (i:=i) (by omega) hi2
    omega
theorem U6 {id:Nat} (hm:P.follows .mixedOrders = true) (hD:Lu ops pre lM jI rest) (heq:∀ t ∈ X.eqs,lg P t) (kJ:gW P Γ) (hC:dI P Γ) (hc:jW P X ops N.ok ops.toList = some (pre.map (·.1) ++ (jI ++ rest))) (h:Ok aY w0 aX N iJ σ a w) (hE:Xq Γ pre lM jI rest σ = some σ')
  (hQ:∀ a' w',Ok aY w0 aX N iJ σ' a' w' → Q .normal a' w'):(Code.region id ops true).wp P Q a w:=by
 refine wp_region_any hm ?_
 unfold Xq at hE
 split at hE
 ·rename_i hfr
  obtain ⟨s,h1,h2⟩:=zbm hE
  split at h2
  ·rename_i Pz
   obtain ⟨ob,h3,h4⟩:=zbm h2
   obtain ⟨e1,e2,news,e3,e4⟩:=DK (Γ:=Γ) (qR:=σ.ob) (pre:=pre) (zB:=σ.tm) pre.length 0 σ.ob s (by omega) (by rw [ajs];exact h1)
   have hall:∀ j,j < pre.length → ∃ pv st,Can Γ σ.ob pre σ.tm j pv st:=fun j hj=>e1 j (by omega) hj
   have Y0:∀ i (h:i < pre.length),jJ pre[i].1.i = true → fresh σ (dx (pre[i].1.dst.getD 999)) = true:=by
    intro i hi hN
    have:=aiA.mp hfr pre[i] (List.getElem_mem hi)
    rw [hN] at this
    exact this
   have hoff:∀ i,¬ Dn (Array.replicate ops.size false) i:=by
    intro i hd
    unfold Dn at hd
    rw [ai5,Array.getElem?_replicate] at hd
    split at hd <;> simp at hd
   rw [e2] at Pz h3 h4
   refine U5 (fG:=σ) hD heq kJ hC hc hQ hall Y0 rfl e3 (fun p hp=>?_) Pz h3 h4 ops.size _ σ a _ (by simp) (fun i _=>hoff i) (fun i hi hd=>absurd hd (hoff i)) ?_ ?_ ⟨fun i pv st h hd=>absurd hd (hoff i),fun s _=>rfl,⟨[],rfl,fun p hp=>by simp at hp⟩,fun i pv st h hd=>absurd hd (hoff i),fun i hi hN _=>Y0 i hi hN⟩
   ·obtain ⟨j,pv,st,_,_,h5,h6,h7⟩:=e4 p hp
    exact ⟨j,pv,st,h5,h6,h7⟩
   ·unfold left
    exact aiH (List.length_filter_le _ _) (by simp)
   ·obtain ⟨Fz,κ,hr,hk⟩:=h
    exact ⟨Fz,κ,hr.grow (w':={ w with drawn:=w.drawn + 1 }) (aiq _) (fun _ _=>rfl) ⟨rfl,rfl⟩,hk⟩
  ·cases h2
 ·cases hE
end
end
section
open Go
def Ext (w w':World):Prop:=w.heap.size ≤ w'.heap.size ∧ ∀ b,b < w.heap.size → w'.heap[b]? = w.heap[b]?
theorem Ext.refl (w:World):Ext w w:=⟨aiq _,fun _ _=>rfl⟩
theorem Ext.trans {w w1 w2:World} (h:Ext w w1) (h':Ext w1 w2):Ext w w2:=⟨aiH h.1 h'.1,fun b hb=>(h'.2 b (aiX hb h.1)).trans (h.2 b hb)⟩
theorem Ext.cell {w w':World} (h:Ext w w') {b o:Nat} {v:Value} (hc:w.cell? ⟨b,o,none⟩ = some v):w'.cell? ⟨b,o,none⟩ = some v:=by
 have hb:b < w.heap.size:=by
  apply ai4
  intro hn
  have:w.heap[b]? = none:=ajt (by omega)
  simp [World.cell?,this] at hc
 rw [cell_of (h.2 b hb),hc]
section
variable {P : Program} {Γ:Env} {aY Fz:Nat → Prop} {w0 w:World} {aX:List Nat} {N:Fr} {d:Nat} {q:Bool} {κ:Nat → Value} {σ σ':St} {a:Act} {pv:PV} {o:Oper}
theorem pI {t:TypeId} {g:Bool} {n b o:Nat} {xs:List PL} {vs:List Value} {u:CV} (hg:uF P t = some g) (hn:kZ P t = some n) (hx:aN Fz κ w xs vs) (hc:∀ j v,vs[j]? = some v → w.cell? ⟨b,o + j,none⟩ = some v)
  (hl:vs.length = if g then n else 1) (hm:mk g xs = some u):∃ v,(∀ w',Ext w w' → (loadVar t ⟨b,o,none⟩).run P w' = .ok v w') ∧ fP Fz κ w u v:=by
 unfold loadVar
 cases g with
 | true =>
  cases hm
  refine ⟨.agg vs.toArray,fun w' hw=>?_,vs.toArray,rfl,hx⟩
  have:=vC (P:=P) (w:=w') b o vs (fun j v h=>hw.cell (hc j v h))
  rw [hl,ail rfl] at this
  simp only [Sem.run_bind,lW hg,nE hn,this,Result.andThen_ok,aiV,Sem.run_pure]
 | false =>
  simp only [mk,aiO,aiJ] at hm
  split at hm
  ·rename_i x
   cases hm
   cases vs with
   | nil=>exact hx.elim
   | cons v vs =>
    have h1:=hc 0 v rfl
    rw [Nat.add_zero] at h1
    refine ⟨v,fun w' hw=>?_,hx.1⟩
    simp only [Sem.run_bind,lW hg,Result.andThen_ok,aiO,aiJ]
    rw [run_load,hw.cell h1]
  ·cases hm
theorem Lx (h:Rel aY w0 aX N Fz κ σ a w) {t:TypeId} {x:Operand} {x':dH} {g:Bool} {n:Nat} (hg:uF P t = some g) (hn:kZ P t = some n) (hx:fA x = some x') (hE:bV Γ q σ d (.load (if g then n else 1) g x') = some (pv,σ')) :
  σ' = σ ∧ ∃ v,(∀ w',Ext w w' → (Instr.loadAt t (a.eval x)).run P w' = .ok v w') ∧ iC Fz κ w pv v:=by
 obtain ⟨v,h1,h2⟩:=zbm hE
 have hv:=h.eval hx h1
 split at h2
 ·rename_i key off
  split at h2
  ·rename_i xs fQ
   obtain ⟨l,h3,h4⟩:=zbm h2
   obtain ⟨u,h5,h6⟩:=zmm h4
   cases h6
   obtain ⟨b,e1,e2⟩:=hv
   obtain ⟨b',cs,e,e3,e4,e5⟩:=h.obj fQ
   rw [e1] at e3
   cases e3
   obtain ⟨e6,e7,e8⟩:=e5.seg h3
   obtain ⟨r,e9,e10⟩:=pI (P:=P) (b:=b) (o:=off) hg hn e6 (fun j v hj=>by
    have:=kN (w:=w) (b:=b) (o:=0) (off:=off) (vs:=cs.toList) (n:=if g then n else 1) (fun j v hj=>by
     rw [aiP]
     simp only [World.cell?,e4]
     simpa using hj) j v hj
    rwa [aiP] at this) e7 h5
   exact ⟨rfl,r,fun w' hw=>by rw [e2];exact e9 w' hw,e10⟩
  ·cases h2
 ·rename_i cs
  obtain ⟨l,h3,h4⟩:=zbm h2
  obtain ⟨u,h5,h6⟩:=zmm h4
  cases h6
  obtain ⟨b,o,e1,e2,e3⟩:=hv
  obtain ⟨vs,e4,e5⟩:=e3.cells
  obtain ⟨e6,e7,e8⟩:=e4.seg h3
  obtain ⟨r,e9,e10⟩:=pI (P:=P) (b:=b) (o:=o) hg hn (e6.Xt (κ:=κ)) (fun j v hj=>by
    have:=kN (w:=w) (b:=b) (o:=o) (off:=0) e5 j v hj
    rwa [Nat.add_zero] at this) e7 h5
  exact ⟨rfl,r,fun w' hw=>by rw [e1];exact e9 w' hw,e10⟩
 ·rename_i key z i off
  split at h2
  ·rename_i sz rows fQ
   split at h2
   ·cases h2
   ·rename_i hz
    obtain ⟨rr,h3,h4⟩:=zbm h2
    obtain ⟨l,h5,h6⟩:=zbm h4
    obtain ⟨u,h7,h8⟩:=zmm h6
    cases h8
    obtain ⟨b,n',c,e1,e2⟩:=hv
    obtain ⟨e3,vs,e4,e5⟩:=G5 (h.obj fQ) e1 h3
    have hz':sz = z:=ai3.mp hz
    subst hz'
    obtain ⟨e6,e7,e8⟩:=e4.seg h5
    obtain ⟨r,e9,e10⟩:=pI (P:=P) (b:=b) (o:=i * sz + off) hg hn (e6.Xt (κ:=κ)) (kN e5) e7 h7
    exact ⟨rfl,r,fun w' hw=>by rw [e2];exact e9 w' hw,e10⟩
  ·cases h2
 ·cases h2
theorem LA (h:Rel aY w0 aX N Fz κ σ a w) {x:Operand} {x':dH} (hx:fA x = some x') (hE:bV Γ q σ d (.gP x') = some (pv,σ')) (ho:o.op = .nilCheck x) :
  σ' = σ ∧ ∃ v,(∀ w',(execOp a.eval o).run P w' = .ok (.value v) w') ∧ iC Fz κ w pv v:=by
 obtain ⟨v,h1,h2⟩:=zbm hE
 have hv:=h.eval hx h1
 have key:∀ ad,a.eval x = .pointer (some ad) → σ' = σ → pv = .c v → σ' = σ ∧ ∃ v,(∀ w',(execOp a.eval o).run P w' = .ok (.value v) w') ∧ iC Fz κ w pv v:=by
  intro ad he e1 e2
  subst e1 e2
  refine ⟨rfl,.pointer (some ad),fun w'=>?_,by rw [← he];exact hv⟩
  unfold execOp
  simp only [ho,he]
  rfl
 split at h2
 ·cases h2;obtain ⟨b,_,e⟩:=hv;exact key _ e rfl rfl
 ·cases h2;obtain ⟨b,_,e,_⟩:=hv;exact key _ e rfl rfl
 ·cases h2;obtain ⟨b,_,_,_,e⟩:=hv;exact key _ e rfl rfl
 ·cases h2
theorem U7 (h:Rel aY w0 aX N Fz κ σ a w) {op:BinOp} {c:Ar} {t:TypeId} {x y:Operand} {x' y':dH} (ho:Xr op = some c) (hx:fA x = some x') (hy:fA y = some y') (hE:bV Γ q σ d (.ar c x' y') = some (pv,σ')) :
  σ' = σ ∧ ∃ v,(∀ w',(do eqGuard op t x y (a.eval x) (a.eval y);binOp op t (a.eval x) (a.eval y):Sem Value).run P w' = .ok v w') ∧ iC Fz κ w pv v:=by
 obtain ⟨u,h1,h2⟩:=zbm hE
 obtain ⟨v,h3,h4⟩:=zbm h2
 obtain ⟨m,h5,h6⟩:=zbm h4
 obtain ⟨n,h7,h8⟩:=zbm h6
 split at h8
 ·rename_i hk
  obtain ⟨r,h9,h10⟩:=zbm h8
  cases h10
  have e1:=gX h5 (h.eval hx h1)
  have e2:=gX h7 (h.eval hy h3)
  obtain ⟨k,m⟩:=m
  obtain ⟨k',n⟩:=n
  simp only at hk e1 e2 h9
  subst hk
  refine ⟨rfl,.int k r,fun w'=>?_,rfl⟩
  rw [e1,e2]
  exact jS nD (zU ho h9)
 ·cases h8
theorem U8 (h:Rel aY w0 aX N Fz κ σ a w) {t e:TypeId} {sz:Nat} {x y:Operand} {x' y':dH} (hu:Sy P t = some e) (hn:kZ P e = some sz) (hx:fA x = some x') (hy:fA y = some y') (hE:bV Γ q σ d (.ia sz x' y') = some (pv,σ')) :
  σ' = σ ∧ ∃ v,(∀ w',(Instr.indexAt t (a.eval x) (a.eval y)).run P w' = .ok v w') ∧ iC Fz κ w pv v:=by
 obtain ⟨v,h1,h2⟩:=zbm hE
 obtain ⟨j,h3,h4⟩:=zbm h2
 obtain ⟨p,h5,h6⟩:=zbm h4
 have hv:=h.eval hx h1
 have hj:=gX h5 (h.eval hy h3)
 have run:∀ b o len c,a.eval x = .slice (some ⟨b,o,none⟩) len c → 0 ≤ p.2 → p.2 < len → ∀ w',(Instr.indexAt t (a.eval x) (a.eval y)).run P w' = .ok (.pointer (some ⟨b,o + p.2.toNat * sz,none⟩)) w':=by
  intro b o len c he h0 hl w'
  rw [he,hj]
  unfold Instr.indexAt
  simp only [Sem.run_bind,iL,run_underlying (uH hu),Result.andThen_ok,Sem.run_pure]
  simp only [ail (And.intro h0 hl),Sem.run_bind,nE hn,Result.andThen_ok,Sem.run_pure,l9]
 split at h6
 ·rename_i h0
  split at h6
  ·rename_i rows
   obtain ⟨r,h7,h8⟩:=zbm h6
   split at h8
   ·rename_i hl
    cases h8
    simp only [fP,eB,fu] at hv
    obtain ⟨A,c,e1,e2,e3,e4⟩:=hv
    rcases e4 with e4 | ⟨b,o,sz',rfl,e5,e6⟩
    ·subst e4;simp at h7
    ·obtain ⟨e7,e8⟩:=e6.get h7
     have hlt:p.2.toNat < rows.length:=(ajb.mp h7).1
     have:sz' = sz:=by omega
     subst this
     exact ⟨rfl,_,run b o _ c e1 h0 (by omega),b,_,rfl,e5,e8⟩
   ·cases h8
  ·rename_i key n
   split at h6
   ·rename_i sz' rows fQ
    split at h6
    ·rename_i hc
     cases h6
     obtain ⟨e1,A,c,e2⟩:=hv
     obtain ⟨h00,e,inner,A',c',e3,e4,e5⟩:=h.obj fQ
     obtain ⟨e6,e7⟩:=e4
     rcases e7 with ⟨e7,e8⟩ | ⟨g,cap,cur,e7,e8⟩
     ·exfalso
      rw [hc.2.2,e8] at hc
      have:=hc.2.1
      omega
     ·rw [e2] at e1
      rw [e7] at e1
      injection e1 with e9 e10 e11
      subst e9
      refine ⟨rfl,_,run g 0 n c e2 h0 hc.2.1,g,_,_,e7,?_⟩
      simp
    ·cases h6
   ·cases h6
  ·cases h6
 ·cases h6
end
section
variable {P : Program} {ops:Array Oper} {Q:Exit → Act → World → Prop} {M:Nat → Bool} {S:World → Prop}
def U9 (P:Program) (ops:Array Oper) (Q:Exit → Act → World → Prop) (M:Nat → Bool) (S:World → Prop):Nat → Array Bool → Act → World → Prop
 | 0,l,a,w=>Region.ready .any ops l = [] ∧ Q .normal a w
 | n + 1,l,a,w=>(Region.ready .any ops l = [] → Q .normal a w) ∧ ∀ i ∈ Region.ready .any ops l,wpOp P ops Q i (fun a' w'=>(M i = true → S w → S w') ∧ U9 P ops Q M S n (l.setIfInBounds i true) a' w') a w
theorem Hz : ∀ (n:Nat) (l:Array Bool) (a:Act) (w:World),U9 P ops Q M S n l a w → wpAny P .any ops Q n l a w
 | 0,_,_,_,h=>h
 | n + 1,_,_,_,h=>⟨h.1,fun i hi=>wpOp_mono (fun a' w' h'=>Hz n _ a' w' h'.2) (h.2 i hi)⟩
theorem Jv {i:Nat} {oi:Oper} {v:Value} (hi:ops[i]? = some oi) (hsel:∀ (j:Nat) (o:Oper) cs b,ops[j]? = some o → o.op ≠ .select cs b) (hQ:∀ c a w,¬ Q (.panic c) a w)
  (hM:∀ l j,l.size = ops.size → Down ops l → j ∈ Region.ready .any ops l → ¬ Dn l i → j ≠ i → M j = true) :
  ∀ (n:Nat) (l:Array Bool) (a:Act) (w:World),l.size = ops.size → Down ops l → (∀ j oj,ops[j]? = some oj → j ≠ i → l.getD j true = false → (∀ e ∈ oj.after,Region.binds .any e = true → e.on ≠ i) → oi.apart ops oj = true) →
   i ∈ Region.ready .any ops l → YieldsIf P ops S oi v a → S w → U9 P ops Q M S n (l.setIfInBounds i true) (a.put oi.dst v) w → U9 P ops Q M S (n + 1) l a w:=by
 intro n
 induction n with
 | zero =>
  intro l a w _ _ _ hr hy hS H
  refine ⟨fun h=>(by rw [h] at hr;cases hr),fun j hj=>?_⟩
  by_cases hji:j = i
  ·subst hji;exact hy.wpOp hi hS ⟨fun _ _=>hS,H⟩
  ·have:=ready_mono hj hji
   rw [H.1] at this
   cases this
 | succ n ih =>
  intro l a w hl hdn hfree hr hy hS H
  refine ⟨fun h=>(by rw [h] at hr;cases hr),fun j hj=>?_⟩
  by_cases hji:j = i
  ·subst hji;exact hy.wpOp hi hS ⟨fun _ _=>hS,H⟩
  ·have h1:=H.2 j (ready_mono hj hji)
   obtain ⟨hjun,oj,hoj,hall⟩:=mem_ready.1 hj
   have hnot:∀ e ∈ oj.after,Region.binds .any e = true → e.on ≠ i:=fun e he hb heq=>by
    have h1:=hall e he hb
    have h0:=(mem_ready.1 hr).1
    rw [heq] at h1
    rcases ajA i l.size with h' | h'
    ·simp [h'] at h0 h1;rw [h0] at h1;cases h1
    ·simp [ajt h'] at h1
   have hap:=hfree j oj hoj hji hjun hnot
   obtain ⟨hj1,hj2,hj3⟩:=(fU hl).mp hj
   have hMj:=hM l j hl hdn hj ((fU hl).mp hr).2.1 hji
   have h2:=wpOp_putIf hoj hap (fun cs b=>hsel i oi cs b hi) (fun cs b=>hsel j oj cs b hoj) (fun c a w h=>absurd h (hQ _ _ _)) hy h1
   have hfree':∀ k ok,ops[k]? = some ok → k ≠ i → (l.setIfInBounds j true).getD k true = false → (∀ e ∈ ok.after,Region.binds .any e = true → e.on ≠ i) → oi.apart ops ok = true:=fun k ok hk hki hun hno=>by
    refine hfree k ok hk hki ?_ hno
    by_cases hjk:j = k
    ·subst hjk;exact hjun
    ·rw [getD_set_ne true hjk] at hun;exact hun
   refine wpOp_mono (fun a' w' h3=>⟨fun _ _=>h3.2.1 hMj hS,ih (l.setIfInBounds j true) a' w' (by simp [hl]) (pE hdn hl hj1 hj3) hfree' (ready_mono hr (Ne.symm hji)) h3.1 (h3.2.1 hMj hS) ?_⟩) h2
   rw [Array.setIfInBounds_comm _ _ hji]
   exact h3.2.2
theorem FJ {i:Nat} {o:Oper} {e:TypeId} {z:List PL} (hi:ops[i]? = some o) (ho:o.op = .alloc e) (hz:zR P e = some z) {w1:World} {K:Act → World → Prop} {a:Act} {w:World} (h:wpOp P ops Q i K a w) :
  wpOp P ops Q i (fun a' w'=>(Ext w1 w → Ext w1 w') ∧ K a' w') a w:=by
 unfold wpOp at *
 simp only [hi] at *
 split
 ·rename_i hw
  rw [ail hw] at h
  rcases h with h | h
  ·refine .inl ?_
   unfold Oper.wp at *
   have hr:∃ v x,(execOp a.eval o).run P w = .ok (.value v) (w.alloc x):=by
    obtain ⟨i,h3,h4⟩:=zbm hz
    obtain ⟨zv,h5,h6⟩:=zbm h4
    unfold execOp
    simp only [ho]
    unfold Instr.alloc
    simp only [Sem.run_bind,zeroValue,typeInfo]
    simp [h3,h5,newVar,newRow]
    exact ⟨_,rfl⟩
   obtain ⟨v,x,hr⟩:=hr
   rw [hr] at h ⊢
   simp only [Oper.upon] at h ⊢
   obtain ⟨_,g1,g2⟩:=lX w x
   exact ⟨fun hx=>hx.trans ⟨by omega,g1⟩,h⟩
  ·exact .inr h
 ·rename_i hw
  rw [ain hw] at h
  exact ⟨id,h⟩
end
end
section
open Go
def jC : List (List Nat) → List (List Nat) → List (List Nat)
 | acc,[]=>acc
 | acc,es :: l=>jC (acc ++ [(List.range acc.length).filter fun x=>es.any fun e=>e == x || (acc.getD e []).contains x]) l
def BZ : List G → Nat
 | []=>0
 | g :: l=>if Pv g.i || (jJ g.i && g.gd.isNone) then BZ l + 1 else 0
def Va {α:Type} (n:Nat) (k:Nat → α):α:=match n with
 | 0=>k 0
 | j + 1=>k (j + 1)
theorem FL {α:Type} {n:Nat} {k:Nat → α}:Va n k = k n:=by cases n <;> rfl
def Y1 : Nat → List (List Nat) → Nat
 | i,[]=>i
 | i,es :: l=>Va (Y1 (i + 1) l) fun r=>if r == i + 1 && es.length == i then i else r
def Y2 (C:List (List Nat)) (gs:List G):Nat:=min (BZ gs) (Y1 0 C)
def LB (gs:List G) (C:List (List Nat)) (m j:Nat):List Nat:=((List.range m).filter fun i=>i != j && jJ (gs.getD i default).i && !(C.getD j []).contains i).map fun i=>dx ((gs.getD i default).dst.getD 999)
def SF : List G → Nat
 | []=>0
 | g :: l=>if isLt g then SF l + 1 else 0
def Y3 (C:List (List Nat)) (m nl:Nat):List Nat:=(List.range m).filter fun j=>(List.range nl).any fun t=>!(C.getD (m + t) []).contains j
def aec (lM:List Nat) (n:Nat):Nat:=if lM.isEmpty then 0 else n
def Vb (E C:List (List Nat)) (gs:List G) (n m:Nat) (lM:List Nat) (nl:Nat):Bool :=
 (List.range n).all (fun i=>(E.getD i []).all (· < i)) &&
 (List.range m).all (fun i=>(rd (gs.getD i default)).all fun s=>(List.range m).all fun j=>!((gs.getD j default).dst == some s) || (E.getD i []).contains j) &&
 (List.range m).all (fun i=>(List.range m).all fun j=>i == j || (gs.getD i default).dst.isNone || !((gs.getD i default).dst == (gs.getD j default).dst)) &&
 (List.range m).all (fun i=>Pv (gs.getD i default).i || (jJ (gs.getD i default).i && (gs.getD i default).gd.isNone)) &&
 (List.range n).all (fun k=>k < m || (List.range k).all fun j=>(C.getD k []).contains j || (j < m && lM.contains j && k < m + nl)) &&
 lM.all (fun j=>Pv (gs.getD j default).i) &&
 ((gs.drop m).take nl).all isLt &&
 (List.range nl).all (fun t=>(rd (gs.getD (m + t) default)).all fun s=>(List.range m).all fun j=>!((gs.getD j default).dst == some s) || (E.getD (m + t) []).contains j)
structure Hi where
 ks:List Nat
 Bl:List Nat
 rws:List (Nat × Nat)
def Y4 (k:Array Bool → Option (List (List Nat))) (l:Array Bool):List Nat → Option (List (List Nat))
 | []=>some []
 | i :: is=>(k (l.setIfInBounds i true)).bind fun a=>(Y4 k l is).map fun b=>a.map (i :: ·) ++ b
def LC (ops:Array Oper) (i:Nat):Bool:=match ops[i]? with
 | some o=>(match o.op with
  | .move _=>true
  | .assign _=>true
  | .fieldAddr _ _ _=>true
  | .build _ _=>true
  | .extract _ _=>true
  | _=>false)
 | none=>false
def exts (ops:Array Oper):Nat → Array Bool → Option (List (List Nat))
 | 0,l=>if Region.ready .any ops l = [] then some [[]] else none
 | n + 1,l=>match Region.ready .any ops l with
  | []=>some [[]]
  | i :: is=>match (i :: is).find? (fun j=>LC ops j && Region.free .any ops l j) with
   | some j=>(exts ops n (l.setIfInBounds j true)).map fun a=>a.map (j :: ·)
   | none=>Y4 (exts ops n) l (i :: is)
def Y5 : Nat → List Nat → Nat
 | i,[]=>i
 | i,j :: l=>if i == j then Y5 (i + 1) l else i
def DT (C:List (List Nat)):Nat → Nat → Nat
 | 0,_=>C.length
 | n + 1,k=>Va (DT C n (k + 1)) fun r=>Va (Y5 0 (C.getD k [])) fun p=>if p < k then min p r else r
def HV (E C:List (List Nat)) (n h:Nat):Bool:=(List.range n).all (fun i=>(E.getD i []).all (· < i)) && (List.range n).all fun k=>(C.getD k []).take (min k h) == List.range (min k h)
def mask (h n:Nat):Array Bool:=(List.replicate h true ++ List.replicate (n - h) false).toArray
def LD (ops:Array Oper):Option (List (List Nat)) :=
 let E:=ops.toList.map iK
 let C:=jC [] E
 Va (DT C ops.size 0) fun h=>if h ≤ ops.size ∧ HV E C ops.size h = true then (exts ops (ops.size - h) (mask h ops.size)).map fun a=>a.map (List.range h ++ ·) else none
def PD (ops:Array Oper) (i:Nat):Bool:=LC ops i || match ops[i]? with
 | some o=>(match o.op with
  | .load _ _=>true
  | .nilCheck _=>true
  | .binOp .sub _ _ _ _=>true
  | .indexAddr _ _ (.tmp _)=>true
  | _=>false)
 | none=>false
def FM (ops:Array Oper) (i:Nat):Bool:=match ops[i]? with
 | some o=>(match o.op with
  | .alloc _=>true
  | _=>false)
 | none=>false
def LG (ops:Array Oper):Nat → Nat → Nat
 | 0,i=>i
 | n + 1,i=>if PD ops i then LG ops n (i + 1) else i
def FP (E C:List (List Nat)) (ops:Array Oper) (h:Nat):Bool:=(List.range ops.size).all (fun i=>(E.getD i []).all (· < i)) && ((List.range h).all (fun i=>PD ops i && Region.free .any ops (mask i ops.size) i) && (List.range ops.size).all fun k=>decide (k < h) || FM ops k || (C.getD k []).take h == List.range h)
def LH (ops:Array Oper):Option (List (List Nat)) :=
 let E:=ops.toList.map iK
 let C:=jC [] E
 Va (LG ops ops.size 0) fun h=>if h ≤ ops.size ∧ FP E C ops h = true then (exts ops (ops.size - h) (mask h ops.size)).map fun a=>a.map (List.range h ++ ·) else none
def Y6 (P:Program) (X:Hx) (N:Nat → Bool) (ops:Array Oper) (draw:Bool) (ks Bl:List Nat):Option CC :=
 (jW P X ops N ops.toList).bind fun gs=>match draw with
  | false=>some (.reg gs ks)
  | true=>match Bl with
   | 0 :: _=>if Region.noSelect ops then (LH ops).map fun o=>.any gs o ks Bl else none
   | _ :: _=>if Region.noSelect ops then (LD ops).map fun o=>.any gs o ks Bl else none
   | [] =>
   let E:=ops.toList.map iK
   let C:=jC [] E
   Va (Y2 C gs) fun m =>
   let nl0:=SF (gs.drop m)
   let lM:=Y3 C m nl0
   let nl:=aec lM nl0
   if Vb E C gs ops.size m lM nl then some (.qG ((List.range m).map fun j=>(gs.getD j default,LB gs C m j)) lM ((gs.drop m).take nl) ((gs.drop m).drop nl) ks) else none
def comp (P:Program) (X:Hx) (N:Nat → Bool):Code → List Hi → Option (CC × List Hi)
 | .skip,h=>some (.skip,h)
 | .region _ ops draw,h=>match h with
  | []=>none
  | k :: h=>(Y6 P X N ops draw k.ks k.Bl).map fun c=>(c,h)
 | .seq x y,h=>(comp P X N x h).bind fun p=>(comp P X N y p.2).map fun r=>(.seq p.1 r.1,r.2)
 | .cond c x y,h=>(fA c).bind fun o=>(comp P X N x h).bind fun p=>(comp P X N y p.2).map fun r=>(.cond o p.1 r.1,r.2)
 | .block id c,h=>(comp P X N c h).map fun p=>(.block id p.1,p.2)
 | .loop c,h=>match h with
  | []=>none
  | k :: h=>(comp P X N c h).map fun p=>(.loop k.ks k.Bl k.rws p.1,p.2)
 | .exit id,h=>some (.exit id,h)
 | .ret,h=>some (.ret,h)
 | .scope c,h=>comp P X N c h
 | .label _,h=>some (.skip,h)
 | _,_=>none
section
variable {P : Program} {Γ:Env} {aY:Nat → Prop} {w0 w w':World} {aX:List Nat} {N:Fr} {F:Nat} {iJ:Nat → Value} {σ fG σ':St} {a:Act} {X:Hx} {ops:Array Oper} {gs:List G} {Q:Exit → Act → World → Prop}
theorem xJ : ∀ (l acc:List (List Nat)),(∀ j,∀ x ∈ acc.getD j [],Ju ops x j) → (∀ k,k < l.length → ∃ h:acc.length + k < ops.size,l[k]? = some (iK ops[acc.length + k])) → ∀ j,∀ x ∈ (jC acc l).getD j [],Ju ops x j
 | [],acc,h,_=>h
 | es :: l,acc,h,hl=>by
  unfold jC
  obtain ⟨h0,h1⟩:=hl 0 (by simp)
  simp only [List.getElem?_cons_zero,aiz,Nat.add_zero] at h1
  refine xJ l _ (fun j x hx=>?_) (fun k hk=>?_)
  ·rw [aiL,aj5] at hx
   split at hx
   ·rename_i hj
    exact h j x (by rw [aiL];exact hx)
   ·by_cases hj:j - acc.length = 0
    ·have hje:j = acc.length:=by omega
     subst hje
     simp only [Nat.sub_self,List.getElem?_cons_zero,Option.getD_some] at hx
     obtain ⟨_,hx⟩:=ajN.mp hx
     obtain ⟨e,he,hor⟩:=ajk.mp hx
     rw [h1] at he
     rw [ajh] at hor
     rcases hor with hor | hor
     ·have:e = x:=by simpa using hor
      subst this
      exact .dir h0 he
     ·exact .step h0 he (h e x (by simpa using hor))
    ·rw [ajI (by simp;omega)] at hx
     simp at hx
  ·obtain ⟨h2,h3⟩:=hl (k + 1) (by simpa using hk)
   simp only [aiv,List.length_cons,List.length_nil]
   refine ⟨by omega,?_⟩
   simp only [List.getElem?_cons_succ] at h3
   rw [h3]
   congr 3
   omega
theorem Ad : ∀ (gs:List G),BZ gs ≤ gs.length
 | []=>aiq _
 | g :: l=>by
  unfold BZ
  have:=Ad l
  split <;> simp <;> omega
theorem PE (C:List (List Nat)) (gs:List G):Y2 C gs ≤ gs.length:=by
 exact aiH (Nat.min_le_left _ _) (Ad gs)
theorem Jw {lM:List Nat} {nl m:Nat} (hm:m ≤ gs.length) (h:jW P X ops N.ok ops.toList = some gs) (hb:Vb (ops.toList.map iK) (jC [] (ops.toList.map iK)) gs ops.size m lM nl = true) :
  Lu ops ((List.range m).map fun j=>(gs.getD j default,LB gs (jC [] (ops.toList.map iK)) m j)) lM ((gs.drop m).take nl) ((gs.drop m).drop nl) ∧
  ((List.range m).map fun j=>(gs.getD j default,LB gs (jC [] (ops.toList.map iK)) m j)).map (·.1) ++ ((gs.drop m).take nl ++ (gs.drop m).drop nl) = gs:=by
 obtain ⟨hlen,_⟩:=iN h
 rw [Array.length_toList] at hlen
 unfold Vb at hb
 simp only [aiw] at hb
 obtain ⟨⟨⟨⟨⟨⟨⟨b1,b2⟩,b3⟩,b4⟩,b5⟩,b6⟩,b7⟩,b8⟩:=hb
 have hE:∀ i (hi:i < ops.size),(ops.toList.map iK).getD i [] = iK ops[i]:=by
  intro i hi
  rw [aiL,ait,ajy,aiQ hi]
  rfl
 have hC:∀ j,∀ x ∈ (jC [] (ops.toList.map iK)).getD j [],Ju ops x j:=xJ _ _ (fun j x hx=>by simp at hx) (fun k hk=>by
  have hk':k < ops.size:=by simpa using hk
  refine ⟨by simpa using hk',?_⟩
  rw [ait,ajy,aiQ hk']
  simp)
 refine ⟨⟨?_,fun i hi e he=>?_,fun i hi hi' s hs j hj hjs=>?_,fun i j hi hj hne s h1 h2=>?_,fun i hi=>?_,fun i j hi hj hne hN=>?_,fun k h1 h2 j hj=>?_,fun j hj h=>?_,fun g hg=>aiA.mp b7 g hg,fun t ht ht' s hs j hj hjs=>?_⟩,?_⟩
 ·simp only [aio,ajJ,aiR,aiC]
  omega
 ·have:=aiA.mp b1 i (aiZ.mpr hi)
  rw [hE i hi] at this
  have:=aiA.mp this e he
  simpa using this
 ·simp only [aio,ajJ] at hi hj
  simp only [ajw,aj0] at hs hjs
  have:=aiA.mp b2 i (aiZ.mpr hi)
  have:=aiA.mp this s hs
  have:=aiA.mp this j (aiZ.mpr hj)
  rw [hjs,hE i hi'] at this
  simpa using this
 ·simp only [aio,ajJ] at hi hj
  simp only [ajw,aj0] at h1 h2
  have:=aiA.mp b3 i (aiZ.mpr hi)
  have:=aiA.mp this j (aiZ.mpr hj)
  rw [h1,h2] at this
  simp [hne] at this
 ·simp only [aio,ajJ] at hi
  have:=aiA.mp b4 i (aiZ.mpr hi)
  simp only [ajw,aj0]
  rw [ajh,aiw] at this
  rcases this with h | h
  ·exact .inl h
  ·exact .inr ⟨h.1,by simpa using h.2⟩
 ·simp only [aio,ajJ] at hi hj
  simp only [ajw,aj0] at hN ⊢
  cases hcc:((jC [] (ops.toList.map iK)).getD j []).contains i with
  | true=>exact .inr (hC j i (by simpa using hcc))
  | false =>
   left
   unfold LB
   refine aiM.mpr ⟨i,ajN.mpr ⟨aiZ.mpr hi,?_⟩,rfl⟩
   rw [hN,hcc]
   simp [hne]
 ·simp only [aio,ajJ] at h1 ⊢
  have:=aiA.mp b5 k (aiZ.mpr h2)
  rw [ajh] at this
  rcases this with h | h
  ·have:k < m:=by simpa using h
   omega
  ·have:=aiA.mp h j (aiZ.mpr hj)
   rw [ajh,aiw,aiw] at this
   rcases this with h | ⟨⟨g1,g2⟩,g3⟩
   ·exact .inl (hC k j (by simpa using h))
   ·refine .inr ⟨by simpa using g1,by simpa using g2,?_⟩
    have g3':k < m + nl:=by simpa using g3
    simp only [aiC,aiR]
    omega
 ·simp only [aio,ajJ] at h
  simp only [ajw,aj0]
  exact aiA.mp b6 j hj
 ·simp only [aio,ajJ] at hj ht' ⊢
  simp only [aiC,aiR] at ht
  simp only [ajw,aj0] at hjs
  have h1:=aiA.mp b8 t (aiZ.mpr (by omega))
  have hgt:((gs.drop m).take nl)[t]'(by simp only [aiC,aiR];omega) = gs.getD (m + t) default:=by
   rw [List.getElem_take,List.getElem_drop,aiL,aiB (by omega)]
   rfl
  rw [hgt] at hs
  have h2:=aiA.mp h1 s hs
  have h3:=aiA.mp h2 j (aiZ.mpr hj)
  rw [hjs,hE _ ht'] at h3
  simpa using h3
 ·rw [List.map_map]
  have:((List.range m).map ((fun x:G × List Nat=>x.1) ∘ fun j=>(gs.getD j default,LB gs (jC [] (ops.toList.map iK)) m j))) = gs.take m:=by
   refine List.ext_getElem (by simp;omega) fun i h1 h2=>?_
   simp only [aio,ajJ] at h1
   simp only [ajw,aj0,Function.comp,List.getElem_take]
   rw [aiL,aiB (by omega)]
   rfl
  rw [this,aj8,aj8]
def Ca : Out → Exit
 | .iV=>.normal
 | .ext id=>.exit id
 | .ret=>.ret
theorem Rel.put' {Fz:Nat → Prop} {κ:Nat → Value} (h:Rel aY w0 aX N Fz κ σ a w) {d:Nat} {pv:PV} (hv:iC Fz κ w pv (a.tmps.getD d undef)):Rel aY w0 aX N Fz κ ⟨Ev.put σ.tm d pv,σ.ob⟩ a w where
 tm:=fun p hp=>by
  rcases iy hp with rfl | ⟨hp,_⟩
  ·exact hv
  ·exact h.tm p hp
 sz:=h.sz
 lV:=h.lV
 fs:=h.fs
 ob:=h.ob
 uE:=h.uE
 pos:=h.pos
 fz:=h.fz
 zh:=h.zh
 big:=h.big
 ext:=h.ext
 kp:=h.kp
theorem Ok.keep (h:Ok aY w0 aX N iJ σ a w) (ks:List Nat):Ok aY w0 aX N iJ ⟨pick ks σ.tm,σ.ob⟩ a w:=h.less (fun _ hp=>kC hp) (fun _ hp=>hp)
theorem Ok.iV : ∀ (l:List (Nat × Nat)) {σ:St},Ok aY w0 aX N iJ σ a w → Ok aY w0 aX N iJ (Ev.iV σ l) a w
 | [],σ,h=>h
 | (s,sz) :: l,σ,h=>by
  unfold Ev.iV
  split
  ·rename_i hg
   split
   ·exact Ok.iV l h
   ·rename_i hz
    split
    ·rename_i t hn
     refine Ok.iV l ?_
     obtain ⟨Fz,κ,hr,hk⟩:=h
     have hv:a.tmps.getD s undef = .slice none 0 0:=hr.val hg
     have hnew:=hr.new (w':=w) (v:=.slice none 0 0) hn (aiq _) (fun _ _=>rfl) (fun b hb=>by cases hb) ⟨rfl,rfl⟩ ⟨by omega,0,[],none,0,by rw [bL];rfl,by rw [bL];exact World.ownsRow_nil w _ _ _,rfl⟩
     refine ⟨Fz,oP κ (dx s) (.slice none 0 0),hnew.put' ⟨?_,none,0,hv⟩,fun k hk'=>?_⟩
     ·rw [bL];exact hv
     ·rw [eF (fun e=>by unfold dx at e;omega)];exact hk k hk'
    ·exact Ok.iV l h
  ·exact Ok.iV l h
theorem Ok.res (h:Ok aY w0 aX N iJ σ a w) (ks os:List Nat) (rws:List (Nat × Nat)):Ok aY w0 aX N iJ (Ev.res ks os rws σ) a w :=
 (Ok.iV rws h).less (fun _ hp=>kC hp) (fun _ hp=>kC hp)
theorem qj : ∀ (n:Nat) (l:Array Bool),exts ops n l ≠ some []
 | 0,l,h=>by unfold exts at h;split at h <;> simp at h
 | n + 1,l,h=>by
  unfold exts at h
  split at h
  ·simp at h
  ·split at h
   ·obtain ⟨A,h1,h2⟩:=zmm h
    have:A = []:=by
     cases A with
     | nil=>rfl
     | cons _ _=>simp at h2
    subst this
    exact qj n _ h1
   ·obtain ⟨A,h1,h2⟩:=zbm h
    obtain ⟨B,_,h3⟩:=zmm h2
    have:A = []:=by
     cases A with
     | nil=>rfl
     | cons _ _=>simp at h3
    subst this
    exact qj n _ h1
theorem kM.app {ks lZ:List Nat} {r:St}:∀ {A B:List (List Nat)},kM Γ gs ks lZ σ r (A ++ B) → kM Γ gs ks lZ σ r A ∧ kM Γ gs ks lZ σ r B
 | [],_,h=>⟨trivial,h⟩
 | _ :: A,_,h=>⟨⟨h.1,(kM.app (A:=A) h.2).1⟩,(kM.app (A:=A) h.2).2⟩
theorem kM.step {ks lZ:List Nat} {r:St} {i:Nat}:∀ {A:List (List Nat)},kM Γ gs ks lZ σ r (A.map (i :: ·)) → A ≠ [] → ∃ s,OQ Γ false σ (gs.getD i default) = some s ∧ kM Γ gs ks lZ s r A
 | [],_,h=>absurd rfl h
 | x :: A,h,_=>by
  obtain ⟨⟨s,h1,h2⟩,h3⟩:=h
  obtain ⟨s1,h4,h5⟩:=zbm h1
  refine ⟨s1,h4,⟨s,h5,h2⟩,?_⟩
  by_cases hA:A = []
  ·subst hA;trivial
  ·obtain ⟨s2,g1,g2⟩:=kM.step h3 hA
   rw [h4] at g1;cases g1
   exact g2
theorem Jy {Fz:Nat → Prop} {κ:Nat → Value} (h:Rel aY w0 aX N Fz κ σ a w) {t:TypeId} {ps:Array (Nat × Operand)} {z:List PL} {l:List (Nat × Nat × dH)} {d:Nat} {p:PV × St} (hz:zR P t = some z) (hp:(∃ fs,P.underlying t = some (.struct fs) ∧ fs.toList.all (fun (f:Field)=>(kZ P f.type).isSome) = true ∧ parts P fs ps.toList = some l) ∨ ∃ n e sz,P.underlying t = some (.array n e) ∧ kZ P e = some sz ∧ nW sz ps.toList = some l) (hE:bV Γ false σ d (.build z l) = some p) :
  p.2 = σ ∧ ∃ v,(∀ w',(Instr.build t (ps.map fun (i,x)=>(i,a.eval x))).run P w' = .ok v w') ∧ iC Fz κ w p.1 v:=by
 obtain ⟨vs,h1,h2⟩:=zbm hE
 obtain ⟨z',h3,h4⟩:=zmm h2
 cases h4
 obtain ⟨i,zv,e1,e2,e3⟩:=uI (Fz:=Fz) (κ:=κ) (w:=w) hz
 refine ⟨rfl,?_⟩
 rcases hp with ⟨fs,hu,hall,hp⟩ | ⟨n,e,sz,hu,hn,hp⟩
 ·have hpl:∃ places:List (Nat × Nat),fs.toList.mapM (fun (f:Field)=>(P.info? f.type).map fun i=>(f.offset,i.size)) = some places ∧ ∀ i:Nat,places.toArray[i]? = (fs[i]?.bind fun (f:Field)=>(kZ P f.type).map fun n=>(f.offset,n)):=by
   have key:∀ (l:List Field),l.all (fun (f:Field)=>(kZ P f.type).isSome) = true → ∃ places:List (Nat × Nat),l.mapM (fun (f:Field)=>(P.info? f.type).map fun i=>(f.offset,i.size)) = some places ∧ ∀ i:Nat,places[i]? = (l[i]?.bind fun (f:Field)=>(kZ P f.type).map fun n=>(f.offset,n)):=by
    intro l
    induction l with
    | nil=>intro _;exact ⟨[],rfl,fun i=>by simp⟩
    | cons f l ih =>
     intro ha
     simp only [List.all_cons,aiw] at ha
     obtain ⟨pl,e1,e2⟩:=ih ha.2
     obtain ⟨n,hn⟩:=ajH.mp ha.1
     obtain ⟨inf,hi,hs⟩:=zmm hn
     refine ⟨(f.offset,n) :: pl,by simp [List.mapM_cons,hi,hs,e1],fun i=>?_⟩
     cases i with
     | zero=>simp [hn]
     | succ i=>simpa using e2 i
   obtain ⟨pl,e1,e2⟩:=key fs.toList hall
   exact ⟨pl,e1,fun i=>by have:=e2 i;simpa using this⟩
  obtain ⟨places,e4,e5⟩:=hpl
  obtain ⟨cs',e6,e7,_⟩:=mX h (place:=(places.toArray[·]?)) (ps:=ps.toList) (cs:=zv.cells) (fun _=>trivial) (by
   refine (xu hp).imp fun {p r} hpr=>⟨?_,hpr.2⟩
   rw [e5];exact hpr.1) h1 h3 e3
  refine ⟨.agg cs',fun w'=>run_build w' t _ cs' ?_,cs',rfl,e7⟩
  unfold Program.built
  rw [e1,hu]
  simp only [e2,e4]
  rw [ajz]
  exact e6
 ·obtain ⟨ie,g1,g2⟩:=zmm hn
  obtain ⟨cs',e6,e7,_⟩:=mX h (place:=fun i=>some (i * sz,sz)) (ps:=ps.toList) (cs:=zv.cells) (fun _=>trivial) (qg hp) h1 h3 e3
  refine ⟨.agg cs',fun w'=>run_build w' t _ cs' ?_,cs',rfl,e7⟩
  unfold Program.built
  rw [e1,hu]
  simp only [e2,g1]
  rw [ajz,g2]
  exact e6
theorem PG {Fz:Nat → Prop} {κ:Nat → Value} (h:Rel aY w0 aX N Fz κ σ a w) {x:Operand} {x':dH} {i d:Nat} {p:PV × St} (hx:fA x = some x') (hE:bV Γ false σ d (.ext x' i) = some p) :
  p.2 = σ ∧ ∃ v,(∀ w',(Instr.extract (a.eval x) i).run P w' = .ok v w') ∧ iC Fz κ w p.1 v:=by
 simp only [bV] at hE
 split at hE
 ·rename_i l hl
  obtain ⟨v,h1,h2⟩:=zmm hE
  cases h2
  obtain ⟨vs,e1,e2⟩:=h.GY hx hl
  have key:∀ (l:List CV) (us:List Value) (i:Nat) (v:CV),dL Fz κ w l us → l[i]? = some v → ∃ u,us[i]? = some u ∧ fP Fz κ w v u:=by
   intro l
   induction l with
   | nil=>intro us i v _ h;simp at h
   | cons x l ih =>
    intro us i v h h2
    cases us with
    | nil=>exact h.elim
    | cons u us =>
     cases i with
     | zero=>simp at h2;subst h2;exact ⟨u,rfl,h.1⟩
     | succ i=>simp at h2;exact ih us i v h.2 h2
  obtain ⟨u,h3,h4⟩:=key _ _ _ _ e2 h1
  refine ⟨rfl,u,fun w'=>?_,h4⟩
  rw [e1]
  rw [ajy] at h3
  simp [Instr.extract,h3]
 ·cases hE
theorem H6 {i:Nat} {o:Oper} {g:G} (ho:ops[i]? = some o) (hp:LC ops i = true) (hg:sH P X ops N.ok o = some g) (h:Ok aY w0 aX N iJ σ a w) (hE:OQ Γ false σ g = some σ'):∃ v,Yields P ops o v a ∧ Ok aY w0 aX N iJ σ' (a.put o.dst v) w:=by
 obtain ⟨Fz,κ,hr,hk⟩:=h
 obtain ⟨p,h1,rfl⟩:=zmm hE
 obtain ⟨i',hi,h2⟩:=zbm hg
 split at h2
 ·rename_i hd
  cases h2
  have hput:∀ {pv v},iC Fz κ w pv v → Ok aY w0 aX N iJ (qI σ o.dst pv) (a.put o.dst v) w:=by
   intro pv v hv
   refine ⟨Fz,κ,?_,hk⟩
   cases hdst:o.dst with
   | none=>exact hr.KT v
   | some d =>
    rw [hdst] at hd
    exact hr.put (by simpa using hd) hv
  obtain ⟨t,h3,h4⟩:=zbm h1
  cases t with
  | false =>
   rw [ain (by decide)] at h4
   cases h4
   exact ⟨undef,.inr ⟨DI hr h3,rfl⟩,hput rfl⟩
  | true =>
   rw [ail rfl] at h4
   have hw:=DI hr h3
   unfold LC at hp
   rw [ho] at hp
   simp only at hp
   have mv:∀ x,(o.op = .move x ∨ o.op = .assign x) → ∃ v,Yields P ops o v a ∧ Ok aY w0 aX N iJ (qI p.2 o.dst p.1) (a.put o.dst v) w:=by
    intro x hx
    have hi2:(fA x).map I.mv = some i':=by
     unfold sG sF jF at hi
     rcases hx with hx | hx <;> simp only [hx] at hi <;> (split at hi <;> first | (split at hi <;> first | (cases hi;assumption) | cases hi) | cases hi)
    obtain ⟨y,h5,rfl⟩:=zmm hi2
    obtain ⟨v,h6,h7⟩:=zmm h4
    cases h7
    refine ⟨a.eval x,.inl ⟨hw,fun w'=>?_⟩,hput (hr.GY h5 h6)⟩
    unfold execOp
    rcases hx with hx | hx <;> simp only [hx] <;> rfl
   split at hp
   ·rename_i x hx;exact mv x (.inl hx)
   ·rename_i x hx;exact mv x (.inr hx)
   ·rename_i s x f hx
    have hi2:jF P X o = some i':=by
     unfold sG sF at hi
     simp only [hx] at hi
     split at hi
     ·split at hi
      ·cases hi
      ·cases hi;assumption
     ·cases hi
    unfold jF at hi2
    simp only [hx] at hi2
    obtain ⟨fl,h5,hi2⟩:=zbm hi2
    obtain ⟨n,h6,hi2⟩:=zbm hi2
    split at hi2
    ·cases hi2
    ·rename_i h0
     obtain ⟨y,h7,rfl⟩:=zmm hi2
     obtain ⟨v,h8,h9⟩:=zbm h4
     have hv:=hr.eval h7 h8
     obtain ⟨fs,hu,hfi⟩:=BF h5
     have run:∀ b o' (w':World),a.eval x = .pointer (some ⟨b,o',none⟩) → (execOp a.eval o).run P w' = .ok (.value (.pointer (some ⟨b,o' + fl.offset,none⟩))) w':=by
      intro b o' w' he
      unfold execOp
      simp only [hx,he]
      unfold Instr.fieldAt
      simp only [Sem.run_bind,run_underlying hu,Result.andThen_ok,hfi]
      simp only [Instr.sureAddr,Sem.run_bind,Sem.run_pure,Result.andThen_ok,oV h6 h0]
     split at h9
     ·cases h9;obtain ⟨b,e1,e2⟩:=hv;exact ⟨_,.inl ⟨hw,fun w'=>run _ _ w' e2⟩,hput ⟨b,e1,rfl⟩⟩
     ·cases h9;obtain ⟨b,o',e1,e2,e3⟩:=hv;exact ⟨_,.inl ⟨hw,fun w'=>run _ _ w' e1⟩,hput ⟨b,_,rfl,e2,e3.drop _⟩⟩
     ·cases h9;obtain ⟨b,n',c,e1,e2⟩:=hv;exact ⟨_,.inl ⟨hw,fun w'=>run _ _ w' e2⟩,hput ⟨b,n',c,e1,by rw [Nat.add_assoc]⟩⟩
     ·cases h9
   ·rename_i s t ps hx
    have hi2:jF P X o = some i':=by
     unfold sG sF at hi
     simp only [hx] at hi
     split at hi
     ·split at hi
      ·cases hi
      ·cases hi;assumption
     ·cases hi
    unfold jF at hi2
    simp only [hx] at hi2
    have hb:∃ z l,zR P t = some z ∧ i' = .build z l ∧ ((∃ fs,P.underlying t = some (.struct fs) ∧ fs.toList.all (fun (f:Field)=>(kZ P f.type).isSome) = true ∧ parts P fs ps.toList = some l) ∨ ∃ n e sz,P.underlying t = some (.array n e) ∧ kZ P e = some sz ∧ nW sz ps.toList = some l):=by
     split at hi2
     ·rename_i fs hu
      split at hi2
      ·rename_i hall
       obtain ⟨z,g1,g2⟩:=zbm hi2
       obtain ⟨l,g3,rfl⟩:=zmm g2
       exact ⟨z,l,g1,rfl,.inl ⟨fs,hu,hall,g3⟩⟩
      ·cases hi2
     ·rename_i n e hu
      obtain ⟨sz,g0,g00⟩:=zbm hi2
      obtain ⟨z,g1,g2⟩:=zbm g00
      obtain ⟨l,g3,rfl⟩:=zmm g2
      exact ⟨z,l,g1,rfl,.inr ⟨n,e,sz,hu,g0,g3⟩⟩
     ·cases hi2
    obtain ⟨z,l,g1,rfl,g2⟩:=hb
    obtain ⟨g3,v,g4,g5⟩:=Jy hr g1 g2 h4
    refine ⟨v,.inl ⟨hw,fun w'=>?_⟩,by rw [g3];exact hput g5⟩
    unfold execOp
    simp only [hx,Sem.run_bind,g4,Result.andThen_ok,Sem.run_pure]
   ·rename_i s x n hx
    have hi2:jF P X o = some i':=by
     unfold sG sF at hi
     simp only [hx] at hi
     split at hi
     ·split at hi
      ·cases hi
      ·cases hi;assumption
     ·cases hi
    unfold jF at hi2
    simp only [hx] at hi2
    obtain ⟨y,g1,rfl⟩:=zmm hi2
    obtain ⟨g3,v,g4,g5⟩:=PG (P:=P) hr g1 h4
    refine ⟨v,.inl ⟨hw,fun w'=>?_⟩,by rw [g3];exact hput g5⟩
    unfold execOp
    simp only [hx,Sem.run_bind,g4,Result.andThen_ok,Sem.run_pure]
   ·cases hp
 ·cases h2
theorem Cb (heq:∀ t ∈ X.eqs,lg P t) (kJ:gW P Γ) (hC:dI P Γ) {ks lZ:List Nat} {r:St} {Q:Exit → Act → World → Prop} (hns:Region.noSelect ops = true) (hg:jW P X ops N.ok ops.toList = some gs) (Xv:∀ c a w,¬ Q (.panic c) a w) (hQ:∀ a' w',Ok aY w0 aX N iJ r a' w' → Q .normal a' w'):∀ (n:Nat) (l:Array Bool) (os:List (List Nat)) {σ:St} {a:Act} {w:World},l.size = ops.size → exts ops n l = some os → kM Γ gs ks lZ σ r os → Ok aY w0 aX N iJ σ a w → wpAny P .any ops Q n l a w
 | 0,l,os,σ,a,w,hl,he,hA,hO=>by
  unfold exts at he
  split at he
  ·rename_i hn
   cases he
   obtain ⟨⟨s,h1,h2⟩,_⟩:=hA
   cases h1
   exact ⟨hn,hQ a w (h2 ▸ hO.less (fun _ hp=>kC hp) (fun _ hp=>kC hp))⟩
  ·cases he
 | n + 1,l,os,σ,a,w,hl,he,hA,hO=>by
  unfold exts at he
  obtain ⟨e1,e2⟩:=iN hg
  have hgd:∀ i (hi1:i < ops.size),sH P X ops N.ok ops[i] = some (gs.getD i default):=by
   intro i hi1
   have hgi:=e2 i (by simpa using hi1) (by rw [← e1];simpa using hi1)
   rw [aiL,aiB (by rw [← e1];simpa using hi1)]
   simpa using hgi
  split at he
  ·rename_i hn
   cases he
   obtain ⟨⟨s,h1,h2⟩,_⟩:=hA
   cases h1
   rw [kP]
   exact ⟨fun _=>hQ a w (h2 ▸ hO.less (fun _ hp=>kC hp) (fun _ hp=>kC hp)),fun i hi=>by rw [hn] at hi;simp at hi⟩
  ·rename_i i0 is0 hn
   split at he
   ·rename_i j hf
    obtain ⟨A,h1,rfl⟩:=zmm he
    have hj:=List.find?_some hf
    rw [aiw] at hj
    have hjr:j ∈ Region.ready .any ops l:=by rw [hn];exact akf hf
    obtain ⟨hj1,hj2,hj3⟩:=(fU hl).mp hjr
    obtain ⟨s,g1,g2⟩:=hA.step (fun e=>qj n _ (e ▸ h1))
    obtain ⟨v,hy,Cc⟩:=H6 (aiQ hj1) hj.1 (hgd j hj1) hO g1
    exact wpAny_take (aiQ hj1) hns hj.2 (by simpa using hjr) (fun c a w h=>absurd h (Xv c _ w)) hy (Cb heq kJ hC hns hg Xv hQ n _ A (by simp [hl]) h1 g2 Cc)
   ·rw [kP]
    refine ⟨fun h=>(by rw [hn] at h;cases h),?_⟩
    rw [hn]
    have hall:∀ i ∈ i0 :: is0,i ∈ Region.ready .any ops l:=fun i hi=>by rw [hn];exact hi
    rename_i hfn
    clear hfn
    generalize i0 :: is0 = is at he hall
    clear hn
    induction is generalizing os with
    | nil=>intro i hi;simp at hi
    | cons j is ih =>
     obtain ⟨A,h1,h2⟩:=zbm he
     obtain ⟨B,h3,rfl⟩:=zmm h2
     obtain ⟨hA1,hA2⟩:=hA.app
     intro i hi
     rcases aiD.mp hi with rfl | hi
     ·obtain ⟨hi1,hi2,hi3⟩:=(fU hl).mp (hall i (by simp))
      obtain ⟨s,g1,g2⟩:=hA1.step (fun e=>qj n _ (e ▸ h1))
      unfold wpOp
      rw [aiQ hi1]
      exact BS heq kJ hC (hgd i hi1) hO g1 fun a' w' h'=>Cb heq kJ hC hns hg Xv hQ n _ A (by simp [hl]) h1 g2 h'
     ·exact ih B hA2 h3 (fun i hi=>hall i (ajd _ hi)) i hi
theorem kM.pre {ks lZ:List Nat} {r:St}:∀ {p:List Nat} {A:List (List Nat)} {σ:St},kM Γ gs ks lZ σ r (A.map (p ++ ·)) → A ≠ [] → ∃ s,vW Γ false (p.map fun i=>gs.getD i default) σ = some s ∧ kM Γ gs ks lZ s r A
 | [],A,σ,h,_=>⟨σ,rfl,by simpa using h⟩
 | i :: p,A,σ,h,hA=>by
  have e:A.map (i :: p ++ ·) = (A.map (p ++ ·)).map (i :: ·):=by rw [List.map_map];rfl
  rw [e] at h
  obtain ⟨s,h1,h2⟩:=h.step (by simpa using hA)
  obtain ⟨s',h3,h4⟩:=kM.pre h2 hA
  refine ⟨s',?_,h4⟩
  show (OQ Γ false σ _).bind _ = _
  rw [h1]
  exact h3
theorem DU (ops:Array Oper):∀ j,∀ x ∈ (jC [] (ops.toList.map iK)).getD j [],Ju ops x j:=xJ _ _ (fun j x hx=>by simp at hx) (fun k hk=>by
 have hk':k < ops.size:=by simpa using hk
 refine ⟨by simpa using hk',?_⟩
 rw [ait,ajy,aiQ hk']
 simp)
theorem LJ {l:Array Bool} (hd:Down ops l) {i j:Nat} (hb:Ju ops j i):(∀ (h:i < ops.size),∀ e ∈ iK ops[i],Dn l e) → Dn l j:=by
 induction hb with
 | dir h he=>intro hr;exact hr h _ he
 | step h he hj ih=>intro hr;exact ih (fun h'=>hd _ h' (hr h _ he))
theorem Ce {h n i:Nat} (hh:h ≤ n):Dn (mask h n) i ↔ i < h:=by
 unfold Dn mask
 rw [ai5,List.getElem?_toArray,aj5,List.length_replicate]
 split
 ·rename_i h1;simp [List.getElem?_replicate,h1]
 ·rename_i h1
  rw [List.getElem?_replicate]
  split <;> simp [h1]
theorem DV {h n:Nat} (hh:h < n):(mask h n).setIfInBounds h true = mask (h + 1) n:=by
 unfold mask
 refine Array.ext' ?_
 rw [Array.toList_setIfInBounds]
 refine ajx fun i=>?_
 rw [List.getElem?_set]
 simp only [aj5,List.length_replicate,List.getElem?_replicate,aiv]
 by_cases h1:h = i
 ·subst h1
  rw [ail rfl,ail (by simp;omega),ail (by omega),ail (by omega)]
 ·rw [ain h1]
  by_cases h2:i < h
  ·rw [ail h2,ail h2,ail (by omega),ail (by omega)]
  ·have h4:¬ i < h + 1:=by omega
   simp only [h2,h4,aiJ]
   by_cases h3:i < n
   ·rw [ail (by omega),ail (by omega)]
   ·rw [ain (by omega),ain (by omega)]
theorem H7 (heq:∀ t ∈ X.eqs,lg P t) (kJ:gW P Γ) (hC:dI P Γ) {Q:Exit → Act → World → Prop} (hg:jW P X ops N.ok ops.toList = some gs) {h:Nat} (hh:h ≤ ops.size) (hB:HV (ops.toList.map iK) (jC [] (ops.toList.map iK)) ops.size h = true) {Y7:St}
  (hK:∀ a' w',Ok aY w0 aX N iJ Y7 a' w' → wpAny P .any ops Q (ops.size - h) (mask h ops.size) a' w'):∀ (m i:Nat) {σ:St} {a:Act} {w:World},m + i = h → vW Γ false ((List.range' i m).map fun i=>gs.getD i default) σ = some Y7 → Ok aY w0 aX N iJ σ a w → wpAny P .any ops Q (ops.size - i) (mask i ops.size) a w
 | 0,i,σ,a,w,hm,hE,hO=>by
  have:i = h:=by omega
  subst this
  cases hE
  exact hK a w hO
 | m + 1,i,σ,a,w,hm,hE,hO=>by
  obtain ⟨e1,e2⟩:=iN hg
  have hi:i < ops.size:=by omega
  have hgd:sH P X ops N.ok ops[i] = some (gs.getD i default):=by
   have hgi:=e2 i (by simpa using hi) (by rw [← e1];simpa using hi)
   rw [aiL,aiB (by rw [← e1];simpa using hi)]
   simpa using hgi
  unfold HV at hB
  rw [aiw] at hB
  have Y8:∀ k (hk:k < ops.size),∀ e ∈ iK ops[k],e < k:=fun k hk e he=>by
   have h1:=aiA.mp hB.1 k (aiZ.mpr hk)
   rw [aiL,ait,ajy,aiQ hk] at h1
   simpa using aiA.mp h1 e he
  have hsz:(mask i ops.size).size = ops.size:=by simp [mask];omega
  have hdn:∀ j,Dn (mask i ops.size) j ↔ j < i:=fun j=>Ce (by omega)
  have LK:Down ops (mask i ops.size):=fun j hj hd e he=>(hdn e).mpr (by have:=(hdn j).mp hd;have:=Y8 j hj e he;omega)
  have hri:i ∈ Region.ready .any ops (mask i ops.size):=(fU hsz).mpr ⟨hi,fun hd=>by have:=(hdn i).mp hd;omega,fun e he=>(hdn e).mpr (Y8 i hi e he)⟩
  rw [show ops.size - i = (ops.size - (i + 1)) + 1 from by omega,kP]
  refine ⟨fun hn=>by rw [hn] at hri;simp at hri,fun j hj=>?_⟩
  obtain ⟨hj1,hj2,hj3⟩:=(fU hsz).mp hj
  have hij:j = i:=by
   apply ai4
   intro hne
   have hlt:i < j:=by
    have:¬ j < i:=fun hx=>hj2 ((hdn j).mpr hx)
    omega
   have h1:=aiA.mp hB.2 j (aiZ.mpr hj1)
   have h2:(List.getD (jC [] (ops.toList.map iK)) j []).take (min j h) = List.range (min j h):=by simpa using h1
   have h3:i ∈ (jC [] (ops.toList.map iK)).getD j []:=List.mem_of_mem_take (by rw [h2];exact aiZ.mpr (by omega))
   have:=(hdn i).mp (LJ LK (DU ops j i h3) (fun _=>hj3))
   omega
  subst hij
  rw [List.range'_succ,aiy] at hE
  obtain ⟨s,g1,g2⟩:=zbm hE
  unfold wpOp
  rw [aiQ hi]
  refine BS heq kJ hC hgd hO g1 fun a' w' h'=>?_
  rw [DV hi]
  exact H7 heq kJ hC hg hh (by unfold HV;rw [aiw];exact hB) hK m (j + 1) (by omega) g2 h'
theorem Vd (hm:P.follows .mixedOrders = true) (heq:∀ t ∈ X.eqs,lg P t) (kJ:gW P Γ) (hC:dI P Γ) {ks lZ:List Nat} {os:List (List Nat)} {o:Out} {id:Nat} (hns:Region.noSelect ops = true) (hg:jW P X ops N.ok ops.toList = some gs) (he:LD ops = some os) (hO:Ok aY w0 aX N iJ σ a w) (hE:evO Γ gs ks lZ σ os = some (o,σ')) (hQ:∀ a' w',Ok aY w0 aX N iJ σ' a' w' → Q (Ca o) a' w'):(Code.region id ops true).wp P Q a w:=by
 refine wp_mono (Q:=fun e a w=>e = .normal ∧ Q e a w) ?_ (fun _ _ _ h=>h.2)
 refine wp_region_any hm ?_
 replace hO:Ok aY w0 aX N iJ σ a { w with drawn:=w.drawn + 1 }:=by
  obtain ⟨Fz,κ,hr,hk⟩:=hO
  exact ⟨Fz,κ,hr.grow (w':={ w with drawn:=w.drawn + 1 }) (aiq _) (fun _ _=>rfl) ⟨rfl,rfl⟩,hk⟩
 cases os with
 | nil=>cases hE
 | cons o1 os =>
  obtain ⟨s,h1,h2⟩:=zbm hE
  split at h2
  ·rename_i hA
   cases h2
   unfold LD at he
   simp only [FL] at he
   split at he
   ·rename_i hcond
    obtain ⟨A,h5,h6⟩:=zmm he
    have hA':kM Γ gs ks lZ σ _ (A.map (List.range (DT (jC [] (ops.toList.map iK)) ops.size 0) ++ ·)):=h6 ▸ (show kM Γ gs ks lZ σ ⟨pick ks s.tm,pick lZ s.ob⟩ (o1 :: os) from ⟨⟨s,h1,rfl⟩,hA⟩)
    obtain ⟨sh,h7,h8⟩:=hA'.pre (fun e=>qj _ _ (e ▸ h5))
    have hm0:Array.replicate ops.size false = mask 0 ops.size:=by
     unfold mask
     refine Array.ext' ?_
     simp
    rw [hm0]
    refine H7 (i:=0) (h:=DT (jC [] (ops.toList.map iK)) ops.size 0) heq kJ hC hg hcond.1 hcond.2 (fun a' w' h'=>?_) (DT (jC [] (ops.toList.map iK)) ops.size 0) (by omega) (by rw [← List.range_eq_range'];exact h7) hO
    exact Cb heq kJ hC hns hg (fun c a w h=>by cases h.1) (fun a' w' h=>⟨rfl,hQ a' w' h⟩) _ _ A (by simp [mask];omega) h5 h8 h'
   ·cases he
  ·cases h2
theorem LM {i:Nat} {o:Oper} {g:G} (ho:ops[i]? = some o) (hp:PD ops i = true) (hg:sH P X ops N.ok o = some g) (h:Ok aY w0 aX N iJ σ a w) (hE:OQ Γ false σ g = some σ'):∃ v,YieldsIf P ops (Ext w) o v a ∧ Ok aY w0 aX N iJ σ' (a.put o.dst v) w:=by
 unfold PD at hp
 cases hpo:LC ops i with
 | true=>obtain ⟨v,h1,h2⟩:=H6 ho hpo hg h hE;exact ⟨v,h1.yieldsIf,h2⟩
 | false =>
 rw [hpo,Bool.false_or,ho] at hp
 simp only at hp
 obtain ⟨Fz,κ,hr,hk⟩:=h
 obtain ⟨p,h1,rfl⟩:=zmm hE
 obtain ⟨i',hi,h2⟩:=zbm hg
 split at h2
 ·rename_i hd
  cases h2
  have hput:∀ {pv v},iC Fz κ w pv v → Ok aY w0 aX N iJ (qI σ o.dst pv) (a.put o.dst v) w:=by
   intro pv v hv
   refine ⟨Fz,κ,?_,hk⟩
   cases hdst:o.dst with
   | none=>exact hr.KT v
   | some d =>
    rw [hdst] at hd
    exact hr.put (by simpa using hd) hv
  obtain ⟨t,h3,h4⟩:=zbm h1
  cases t with
  | false =>
   rw [ain (by decide)] at h4
   cases h4
   exact ⟨undef,.inr ⟨DI hr h3,rfl⟩,hput rfl⟩
  | true =>
   rw [ail rfl] at h4
   have hw:=DI hr h3
   have h0:(∀ c,o.op ≠ .call c) → jF P X o = some i':=by
    intro hn
    unfold sG sF at hi
    split at hi
    ·rename_i hh
     split at hh
     ·rename_i c hc;exact absurd hc (hn c)
     ·cases hh
    ·split at hi
     ·split at hi
      ·cases hi
      ·cases hi;assumption
     ·cases hi
   have fin:∀ {v:Value},p.2 = σ → iC Fz κ w p.1 v → (∀ w',Ext w w' → (execOp a.eval o).run P w' = .ok (.value v) w') → ∃ v,YieldsIf P ops (Ext w) o v a ∧ Ok aY w0 aX N iJ (qI p.2 o.dst p.1) (a.put o.dst v) w:=fun {v} e1 e2 e3=>⟨v,.inl ⟨hw,e3⟩,by rw [e1];exact hput e2⟩
   split at hp
   ·rename_i t x hx
    have hi2:=h0 (fun c hc=>by rw [hx] at hc;cases hc)
    unfold jF at hi2
    simp only [hx] at hi2
    obtain ⟨g,g1,hi2⟩:=zbm hi2
    obtain ⟨n,g2,hi2⟩:=zbm hi2
    obtain ⟨y,g3,rfl⟩:=zmm hi2
    obtain ⟨g4,v,g5,g6⟩:=Lx (P:=P) hr g1 g2 g3 h4
    refine fin g4 g6 fun w' hw'=>?_
    unfold execOp
    simp only [hx,Sem.run_bind,g5 w' hw',Result.andThen_ok,Sem.run_pure]
   ·rename_i x hx
    have hi2:=h0 (fun c hc=>by rw [hx] at hc;cases hc)
    unfold jF at hi2
    simp only [hx] at hi2
    obtain ⟨y,g3,rfl⟩:=zmm hi2
    obtain ⟨g4,v,g5,g6⟩:=LA (P:=P) hr g3 h4 hx
    exact fin g4 g6 fun w' _=>g5 w'
   ·rename_i t x y u hx
    have hi2:=h0 (fun c hc=>by rw [hx] at hc;cases hc)
    unfold jF at hi2
    simp only [hx] at hi2
    obtain ⟨x',g1,hi2⟩:=zbm hi2
    obtain ⟨y',g2,hi2⟩:=zbm hi2
    have hb:i' = .ar .sub x' y':=by
     split at hi2 <;> first | (cases hi2;done) | (simp [Xr] at hi2;done) | (simp [Xr] at hi2;exact hi2.symm) | skip
     all_goals (split at hi2 <;> first | (cases hi2;done) | (simp at hi2;done))
    subst hb
    obtain ⟨g4,v,g5,g6⟩:=U7 (P:=P) (op:=.sub) (t:=t) (x:=x) (y:=y) hr rfl g1 g2 h4
    refine fin g4 g6 fun w' _=>?_
    unfold execOp
    simp only [hx]
    rw [Sem.run_bind,g5 w']
    rfl
   ·rename_i t x z hx
    have hi2:=h0 (fun c hc=>by rw [hx] at hc;cases hc)
    unfold jF at hi2
    simp only [hx,Pg] at hi2
    obtain ⟨e,g1,hi2⟩:=zbm hi2
    obtain ⟨sz,g2,hi2⟩:=zbm hi2
    obtain ⟨x',g3,hi2⟩:=zbm hi2
    obtain ⟨y',g4,rfl⟩:=zmm hi2
    obtain ⟨g5,v,g6,g7⟩:=U8 (P:=P) hr g1 g2 g3 g4 h4
    refine fin g5 g7 fun w' _=>?_
    unfold execOp
    simp only [hx,Sem.run_bind,g6,Result.andThen_ok,Sem.run_pure]
   ·cases hp
 ·cases h2
theorem xK (hg:jW P X ops N.ok ops.toList = some gs) {Q:Exit → Act → World → Prop} {h:Nat} {w1:World}:∀ (n:Nat) (l:Array Bool) (a:Act) (w:World),l.size = ops.size → (∀ i,i < h → Dn l i) → wpAny P .any ops Q n l a w → U9 P ops Q (fun j=>decide (j < h) || FM ops j) (Ext w1) n l a w
 | 0,_,_,_,_,_,hh=>hh
 | n + 1,l,a,w,hl,hd,hh=>by
  refine ⟨hh.1,fun i hi=>?_⟩
  obtain ⟨hi1,hi2,hi3⟩:=(fU hl).mp hi
  have rcu:∀ a' w',wpAny P .any ops Q n (l.setIfInBounds i true) a' w' → U9 P ops Q (fun j=>decide (j < h) || FM ops j) (Ext w1) n (l.setIfInBounds i true) a' w':=fun a' w' hx=>xK hg n _ a' w' (by simp [hl]) (fun j hj=>(Dn.set (by omega)).mpr (.inr (hd j hj))) hx
  cases hal:FM ops i with
  | false=>exact wpOp_mono (fun a' w' hx=>⟨fun hm=>by have hm':(decide (i < h) || FM ops i) = true:=hm;rw [hal,Bool.or_false] at hm';exact absurd (hd i (aiI hm')) hi2,rcu a' w' hx⟩) (hh.2 i hi)
  | true =>
   unfold FM at hal
   rw [aiQ hi1] at hal
   simp only at hal
   split at hal
   ·rename_i e he
    obtain ⟨e1,e2⟩:=iN hg
    have hgi:=e2 i (by simpa using hi1) (by rw [← e1];simpa using hi1)
    obtain ⟨i',g1,_⟩:=zbm hgi
    have hz:∃ z,zR P e = some z:=by
     have he':(ops.toList[i]'(by simpa using hi1)).op = .alloc e:=by simpa using he
     unfold sG sF jF at g1
     simp only [he'] at g1
     cases hz:zR P e with
     | none=>rw [hz] at g1;cases g1
     | some z=>exact ⟨z,rfl⟩
    obtain ⟨z,hz⟩:=hz
    exact wpOp_mono (fun a' w' hx=>⟨fun _=>hx.1,rcu a' w' hx.2⟩) (FJ (aiQ hi1) he hz (hh.2 i hi))
   ·cases hal
theorem DW {Q:Exit → Act → World → Prop} (Xv:∀ c a w,¬ Q (.panic c) a w) (hns:Region.noSelect ops = true) (hg:jW P X ops N.ok ops.toList = some gs) {h:Nat} (hh:h ≤ ops.size) (hB:FP (ops.toList.map iK) (jC [] (ops.toList.map iK)) ops h = true) {Y7:St}
  (hK:∀ a' w',Ok aY w0 aX N iJ Y7 a' w' → wpAny P .any ops Q (ops.size - h) (mask h ops.size) a' w'):∀ (m i:Nat) {σ:St} {a:Act},m + i = h → vW Γ false ((List.range' i m).map fun i=>gs.getD i default) σ = some Y7 → Ok aY w0 aX N iJ σ a w → U9 P ops Q (fun j=>decide (j < h) || FM ops j) (Ext w) (ops.size - i) (mask i ops.size) a w
 | 0,i,σ,a,hm,hE,hO=>by
  have:i = h:=by omega
  subst this
  cases hE
  exact xK hg _ _ _ _ (by simp [mask];omega) (fun j hj=>(Ce hh).mpr hj) (hK a w hO)
 | m + 1,i,σ,a,hm,hE,hO=>by
  obtain ⟨e1,e2⟩:=iN hg
  have hi:i < ops.size:=by omega
  have hgd:sH P X ops N.ok ops[i] = some (gs.getD i default):=by
   have hgi:=e2 i (by simpa using hi) (by rw [← e1];simpa using hi)
   rw [aiL,aiB (by rw [← e1];simpa using hi)]
   simpa using hgi
  have hB':=hB
  unfold FP at hB
  rw [aiw,aiw] at hB
  have Y8:∀ k (hk:k < ops.size),∀ e ∈ iK ops[k],e < k:=fun k hk e he=>by
   have h1:=aiA.mp hB.1 k (aiZ.mpr hk)
   rw [aiL,ait,ajy,aiQ hk] at h1
   simpa using aiA.mp h1 e he
  have hsz:(mask i ops.size).size = ops.size:=by simp [mask];omega
  have hdn:∀ j,Dn (mask i ops.size) j ↔ j < i:=fun j=>Ce (by omega)
  have LK:Down ops (mask i ops.size):=fun j hj hd e he=>(hdn e).mpr (by have:=(hdn j).mp hd;have:=Y8 j hj e he;omega)
  have hri:i ∈ Region.ready .any ops (mask i ops.size):=(fU hsz).mpr ⟨hi,fun hd=>by have:=(hdn i).mp hd;omega,fun e he=>(hdn e).mpr (Y8 i hi e he)⟩
  have hV:=aiA.mp hB.2.1 i (aiZ.mpr (by omega))
  rw [aiw] at hV
  rw [List.range'_succ,aiy] at hE
  obtain ⟨s,g1,g2⟩:=zbm hE
  obtain ⟨v,hy,Cc⟩:=LM (aiQ hi) hV.1 hgd hO g1
  rw [show ops.size - i = (ops.size - (i + 1)) + 1 from by omega]
  refine Jv (aiQ hi) (Region.noSelect_spec hns) Xv (fun l j hl hd hj hni hne=>?_) _ _ _ _ hsz LK (Region.free_spec (aiQ hi) hV.2) hri hy (Ext.refl w) ?_
  ·obtain ⟨hj1,hj2,hj3⟩:=(fU hl).mp hj
   have h1:=aiA.mp hB.2.2 j (aiZ.mpr hj1)
   rw [ajh] at h1
   rcases h1 with h1 | h1
   ·exact h1
   ·have h2:(List.getD (jC [] (ops.toList.map iK)) j []).take h = List.range h:=by simpa using h1
    have h3:i ∈ (jC [] (ops.toList.map iK)).getD j []:=List.mem_of_mem_take (by rw [h2];exact aiZ.mpr (by omega))
    exact absurd (LJ hd (DU ops j i h3) (fun _=>hj3)) hni
  ·rw [DV hi]
   exact DW Xv hns hg hh hB' hK m (i + 1) (by omega) g2 Cc
theorem PI (hm:P.follows .mixedOrders = true) (heq:∀ t ∈ X.eqs,lg P t) (kJ:gW P Γ) (hC:dI P Γ) {ks lZ:List Nat} {os:List (List Nat)} {o:Out} {id:Nat} (hns:Region.noSelect ops = true) (hg:jW P X ops N.ok ops.toList = some gs) (he:LH ops = some os) (hO:Ok aY w0 aX N iJ σ a w) (hE:evO Γ gs ks lZ σ os = some (o,σ')) (hQ:∀ a' w',Ok aY w0 aX N iJ σ' a' w' → Q (Ca o) a' w'):(Code.region id ops true).wp P Q a w:=by
 refine wp_mono (Q:=fun e a w=>e = .normal ∧ Q e a w) ?_ (fun _ _ _ h=>h.2)
 refine wp_region_any hm ?_
 replace hO:Ok aY w0 aX N iJ σ a { w with drawn:=w.drawn + 1 }:=by
  obtain ⟨Fz,κ,hr,hk⟩:=hO
  exact ⟨Fz,κ,hr.grow (w':={ w with drawn:=w.drawn + 1 }) (aiq _) (fun _ _=>rfl) ⟨rfl,rfl⟩,hk⟩
 cases os with
 | nil=>cases hE
 | cons o1 os =>
  obtain ⟨s,h1,h2⟩:=zbm hE
  split at h2
  ·rename_i hA
   cases h2
   unfold LH at he
   simp only [FL] at he
   split at he
   ·rename_i hcond
    obtain ⟨A,h5,h6⟩:=zmm he
    have hA':kM Γ gs ks lZ σ _ (A.map (List.range (LG ops ops.size 0) ++ ·)):=h6 ▸ (show kM Γ gs ks lZ σ ⟨pick ks s.tm,pick lZ s.ob⟩ (o1 :: os) from ⟨⟨s,h1,rfl⟩,hA⟩)
    obtain ⟨sh,h7,h8⟩:=hA'.pre (fun e=>qj _ _ (e ▸ h5))
    have hm0:Array.replicate ops.size false = mask 0 ops.size:=by
     unfold mask
     refine Array.ext' ?_
     simp
    rw [hm0]
    refine Hz _ _ _ _ (DW (i:=0) (h:=LG ops ops.size 0) (fun c a w h=>by cases h.1) hns hg hcond.1 hcond.2 (fun a' w' h'=>?_) (LG ops ops.size 0) (by omega) (by rw [← List.range_eq_range'];exact h7) hO)
    exact Cb heq kJ hC hns hg (fun c a w h=>by cases h.1) (fun a' w' h=>⟨rfl,hQ a' w' h⟩) _ _ A (by simp [mask];omega) h5 h8 h'
   ·cases he
  ·cases h2
theorem DX (hm:P.follows .mixedOrders = true) (heq:∀ t ∈ X.eqs,lg P t) (kJ:gW P Γ) (hC:dI P Γ):∀ (c:Code) {h h':List Hi} {cc:CC} {σ σ':St} {o:Out} {a:Act} {w:World} {Q:Exit → Act → World → Prop},comp P X N.ok c h = some (cc,h') → Ok aY w0 aX N iJ σ a w → ev Γ F cc σ = some (o,σ') →
  (∀ a' w',Ok aY w0 aX N iJ σ' a' w' → Q (Ca o) a' w') → c.wp P Q a w:=by
 intro c
 induction c with
 | skip =>
  intro h h' cc σ σ' o a w Q hc hO hE hQ
  cases hc
  cases hE
  exact wp_skip (hQ a w hO)
 | region id ops draw =>
  intro h h' cc σ σ' o a w Q hc hO hE hQ
  cases h with
  | nil=>cases hc
  | cons k h =>
  obtain ⟨cr,h1,h2⟩:=zmm hc
  cases h2
  obtain ⟨gs,h3,h4⟩:=zbm h1
  cases draw with
  | false =>
   cases h4
   obtain ⟨s,h5,h6⟩:=zmm hE
   cases h6
   exact wp_region_list (Lp heq kJ hC h3 hO h5 fun a' w' h=>hQ a' w' (h.keep _))
  | true =>
   simp only [FL] at h4
   split at h4
   ·split at h4
    ·rename_i hns
     obtain ⟨os,h5,h6⟩:=zmm h4
     cases h6
     exact PI hm heq kJ hC hns h3 h5 hO hE hQ
    ·cases h4
   ·split at h4
    ·rename_i hns
     obtain ⟨os,h5,h6⟩:=zmm h4
     cases h6
     exact Vd hm heq kJ hC hns h3 h5 hO hE hQ
    ·cases h4
   split at h4
   ·rename_i hb
    cases h4
    obtain ⟨s,h5,h6⟩:=zmm hE
    cases h6
    obtain ⟨g1,g2⟩:=Jw (PE _ _) h3 hb
    exact U6 hm g1 heq kJ hC (by rw [g2];exact h3) hO h5 fun a' w' h=>hQ a' w' (h.keep _)
   ·cases h4
 | seq x y ihx ihy =>
  intro h h' cc σ σ' o a w Q hc hO hE hQ
  obtain ⟨p,h1,h2⟩:=zbm hc
  obtain ⟨r,h3,h4⟩:=zmm h2
  cases h4
  obtain ⟨s,h5,h6⟩:=zbm hE
  refine wp_seq (ihx h1 hO h5 fun a' w' Cc=>?_)
  cases hs:s.1 with
  | iV=>rw [hs] at h6;exact ihy h3 Cc h6 hQ
  | ext id=>rw [hs] at h6;cases h6;exact hQ a' w' Cc
  | ret=>rw [hs] at h6;cases h6;exact hQ a' w' Cc
 | cond c x y ihx ihy =>
  intro h h' cc σ σ' o a w Q hc hO hE hQ
  obtain ⟨co,h0,hc⟩:=zbm hc
  obtain ⟨p,h1,h2⟩:=zbm hc
  obtain ⟨r,h3,h4⟩:=zmm h2
  cases h4
  obtain ⟨v,h5,h6⟩:=zbm hE
  obtain ⟨t,h7,h8⟩:=zbm h6
  have hv:a.eval c = .bool t:=by
   obtain ⟨Fz,κ,hr,_⟩:=hO
   exact BA h7 (hr.eval h0 h5)
  refine wp_cond hv ?_
  cases t with
  | true=>exact ihx h1 hO h8 hQ
  | false=>exact ihy h3 hO h8 hQ
 | block id c ih =>
  intro h h' cc σ σ' o a w Q hc hO hE hQ
  obtain ⟨p,h1,h2⟩:=zmm hc
  cases h2
  obtain ⟨s,h3,h4⟩:=zmm hE
  refine wp_block (ih h1 hO h3 fun a' w' Cc=>?_)
  cases hs:s.1 with
  | iV=>rw [hs] at h4;cases h4;exact hQ a' w' Cc
  | ret=>rw [hs] at h4;cases h4;exact hQ a' w' Cc
  | ext i =>
   rw [hs] at h4
   simp only [Ca,Exit.inBlock]
   by_cases hi:i = id
   ·simp only [ail hi] at h4
    cases h4;rw [ail hi];exact hQ a' w' Cc
   ·simp only [ain hi] at h4
    cases h4;rw [ain hi];exact hQ a' w' Cc
 | loop c ih =>
  intro h h' cc σ σ' o a w Q hc hO hE hQ
  cases h with
  | nil=>cases hc
  | cons k h =>
   obtain ⟨p,h1,h2⟩:=zmm hc
   cases h2
   have key:∀ (n:Nat) (σ:St) (a:Act) (w:World),Ok aY w0 aX N iJ σ a w → iter (ev Γ F p.1) (Ev.res k.ks k.Bl k.rws) n σ = some (o,σ') → Code.rounds P c Q n a w:=by
    intro n
    induction n with
    | zero=>intro σ a w _ hE;cases hE
    | succ n ihn =>
     intro σ a w hO hE
     obtain ⟨s,h3,h4⟩:=zbm hE
     rw [rounds_succ]
     refine ih h1 (hO.res k.ks k.Bl k.rws) h3 fun a' w' Cc=>?_
     cases hs:s.1 with
     | iV=>rw [hs] at h4;exact ihn s.2 a' w' Cc h4
     | ext id=>rw [hs] at h4;cases h4;exact hQ a' w' Cc
     | ret=>rw [hs] at h4;cases h4;exact hQ a' w' Cc
   exact wp_loop_rounds F (key F σ a w hO hE)
 | exit id =>
  intro h h' cc σ σ' o a w Q hc hO hE hQ
  cases hc
  cases hE
  exact wp_exit (hQ a w hO)
 | ret =>
  intro h h' cc σ σ' o a w Q hc hO hE hQ
  cases hc
  cases hE
  exact wp_ret (hQ a w hO)
 | scope c ih =>
  intro h h' cc σ σ' o a w Q hc hO hE hQ
  refine wp_scope_straight (ih hc hO hE fun a' w' h'=>?_)
  have:=hQ a' w' h'
  cases o <;> exact this
 | label l =>
  intro h h' cc σ σ' o a w Q hc hO hE hQ
  cases hc
  cases hE
  exact wp_label (hQ a w hO)
 | _=>intro h h' cc σ σ' o a w Q hc;cases hc
end
end
section
open Go
section
variable {P : Program} {Γ:Env} {aY Fz bA:Nat → Prop} {w0 w w':World} {aX bs:List Nat} {N:Fr} {F:Nat} {κ iJ:Nat → Value} {σ fG σ':St} {a:Act} {X:Hx}
theorem DY {bo:List Nat}:∀ {d9:List AV} {vals:List Value} {bx bs:List Nat} {i:Nat} {pend:List PL} {jB:List Value} {mP:List CV} {κ:Nat → Value} {σ σ':St},bO aY w0 aX N (bx ++ bs) Fz κ σ a w → fB Fz w d9 vals bx → (∀ j v,vals[j]? = some v → a.tmps.getD (i + j) undef = v) → aN Fz κ w pend jB → enter bo i pend σ d9 = some (mP,σ') →
  ∃ eU,bO aY w0 aX N bs Fz eU σ' a w ∧ dL Fz eU w mP vals ∧ aN Fz eU w pend jB
 | [],[],bx,bs,i,pend,jB,mP,κ,σ,σ',h,hx,ht,hp,hs=>by cases hs;cases hx;exact ⟨κ,h,trivial,hp⟩
 | [],_ :: _,_,_,_,_,_,_,_,_,_,_,hx,_,_,_=>hx.elim
 | _ :: _,[],_,_,_,_,_,_,_,_,_,_,hx,_,_,_=>hx.elim
 | x :: d9,v :: vals,bx,bs,i,pend,jB,mP,κ,σ,σ',h,hx,ht,hp,hs=>by
  obtain ⟨b1,b2,h1,h2,rfl⟩:=hx
  obtain ⟨p,h3,h4⟩:=zbm hs
  obtain ⟨r,h5,h6⟩:=zmm h4
  cases h6
  obtain ⟨zA,e1,e2,e3,_⟩:=Lg (Kp:=fun _=>True) (fun _ _=>trivial) (fun _ _ _=>trivial) trivial (bs:=b2 ++ bs) (by rw [← ajc];exact h) h1 hp h3
  have hv:a.tmps.getD i undef = v:=by have:=ht 0 v rfl;rwa [Nat.add_zero] at this
  have hrel:bO aY w0 aX N (b2 ++ bs) Fz zA ⟨Ev.put p.2.tm i (.c p.1),p.2.ob⟩ a w:=⟨e1.rel.put' (by rw [hv];exact e2),e1.lV,e1.ap⟩
  obtain ⟨Fx,g1,g2,g3⟩:=DY hrel h2 (fun j u hj=>by have:=ht (j + 1) u (by simpa using hj);rwa [show i + 1 + j = i + (j + 1) from by omega]) (show aN Fz zA w (Ev.cells p.1 ++ pend) (Ev.Dz p.1 v ++ jB) from e2.Dz.app e3) h5
  obtain ⟨g5,g6⟩:=g3.BQ (by have:=e2.Dz.length;omega)
  exact ⟨Fx,g1,⟨fP.Lh (fun xs hx=>by rw [hx] at e2;obtain ⟨cs,h,_⟩:=e2;exact ⟨cs,h⟩) g5,g2⟩,g6⟩
theorem wG (h:bO aY w0 aX N bs Fz κ σ a w) {x:PL} {y:TV} {v:Value} (hx:eB Fz κ w x v) (hs:outT σ x = some (y,σ')):∃ bA bx,bO aY w0 aX N (bx ++ bs) bA κ σ' a w ∧ (∀ b,Fz b → bA b) ∧ mR bA w y v bx:=by
 cases x with
 | f x=>cases hs;exact ⟨Fz,[],h,fun _ h=>h,hx,rfl⟩
 | bP=>cases hs;exact ⟨Fz,[],h,fun _ h=>h,by simp only [fu];exact ⟨none,0,hx,aiq _,by simp,.inl trivial⟩,rfl⟩
 | iI=>cases hs;exact ⟨Fz,[],h,fun _ h=>h,hx,rfl⟩
 | fq=>cases hs;exact ⟨Fz,[],h,fun _ h=>h,hx,rfl⟩
 | fp cs=>cases hs;exact ⟨Fz,[],h,fun _ h=>h,eB.mono (κ:=κ) (eU:=fun _=>undef) (fun _ h=>h) (fun _ _=>rfl) (fun k hk=>by cases hk) hx,rfl⟩
 | fn f cs=>cases hs;exact ⟨Fz,[],h,fun _ h=>h,eB.mono (κ:=κ) (eU:=fun _=>undef) (fun _ h=>h) (fun _ _=>rfl) (fun k hk=>by cases hk) hx,rfl⟩
 | own key n =>
  obtain ⟨p,h1,h2⟩:=zmm hs
  cases h2
  obtain ⟨bA,g1,g2,g3⟩:=h.vo hx h1
  exact ⟨bA,[],g1,g2,g3,rfl⟩
 | mp key =>
  simp only [outT] at hs
  split at hs
  ·rename_i sh ents fQ
   cases hs
   obtain ⟨b,h1,h2⟩:=h.rel.obj fQ
   exact ⟨Fz,[b],h.take fQ (by rw [h1];rfl),fun _ h=>h,b,by rw [hx.1,h1],h2,rfl⟩
  ·cases hs
 | ptr key off =>
  cases off with
  | succ n=>cases hs
  | zero =>
   simp only [outT] at hs
   split at hs
   ·rename_i xs fQ
    obtain ⟨p,h1,h2⟩:=zmm hs
    cases h2
    obtain ⟨b,cs,e,g1,g2,g3⟩:=h.rel.obj fQ
    obtain ⟨b',g4,g5⟩:=hx
    rw [g1] at g4
    cases g4
    obtain ⟨F1,bx,e1,e2,e3⟩:=BM (h.take fQ (by rw [g1];rfl)) g3 h1
    exact ⟨F1,b :: bx,e1.perm List.perm_middle,e2,b,cs,e,bx,g5,g2,e3,rfl⟩
   ·cases hs
 | _=>cases hs
theorem DZ : ∀ {xs:List PL} {ys:List TV} {vs:List Value} {bs:List Nat} {Fz:Nat → Prop} {σ σ':St},bO aY w0 aX N bs Fz κ σ a w → aN Fz κ w xs vs → vv σ xs = some (ys,σ') → ∃ bA bx,bO aY w0 aX N (bx ++ bs) bA κ σ' a w ∧ (∀ b,Fz b → bA b) ∧ kI bA w ys vs bx
 | [],ys,[],bs,Fz,σ,σ',h,_,hs=>by cases hs;exact ⟨Fz,[],h,fun _ h=>h,rfl⟩
 | x :: xs,ys,v :: vs,bs,Fz,σ,σ',h,hx,hs=>by
  obtain ⟨p,h1,h2⟩:=zbm hs
  obtain ⟨r,h3,h4⟩:=zmm h2
  cases h4
  obtain ⟨F1,b1,e1,e2,e3⟩:=wG h hx.1 h1
  obtain ⟨F2,b2,e4,e5,e6⟩:=DZ e1 (aN.mono e2 (fun _ _=>rfl) xs (fun _ _=>rfl) vs hx.2) h3
  refine ⟨F2,b1 ++ b2,e4.perm ?_,fun b hb=>e5 b (e2 b hb),b1,b2,e3.mono e5 (fun _ _=>rfl) (fun _ _=>rfl),e6,rfl⟩
  rw [← ajc]
  exact List.perm_append_comm.append_right bs
 | [],_,_ :: _,_,_,_,_,_,h,_=>h.elim
 | _ :: _,_,[],_,_,_,_,_,h,_=>h.elim
theorem PK (h:bO aY w0 aX N bs Fz κ σ a w) {x:CV} {y:AV} {v:Value} (hx:fP Fz κ w x v) (hs:O8 σ x = some (y,σ')):∃ bA bx,bO aY w0 aX N (bx ++ bs) bA κ σ' a w ∧ (∀ b,Fz b → bA b) ∧ oL bA w y v bx:=by
 cases x with
 | one x =>
  obtain ⟨p,h1,h2⟩:=zmm hs
  cases h2
  exact wG h hx h1
 | agg xs =>
  obtain ⟨p,h1,h2⟩:=zmm hs
  cases h2
  obtain ⟨cs,rfl,hx⟩:=hx
  obtain ⟨F1,b1,e1,e2,e3⟩:=DZ h hx h1
  exact ⟨F1,b1,e1,e2,cs,rfl,e3⟩
theorem PN (h:bO aY w0 aX N bs Fz κ σ a w) {sz:Nat} {x:PL} {y:TV} {v:Value} (hx:eB Fz κ w x v) (hs:Bq sz σ x = some (y,σ')):∃ bx,bO aY w0 aX N (bx ++ bs) Fz κ σ' a w ∧ mR Fz w y v bx:=by
 cases x with
 | own key n =>
  simp only [Bq] at hs
  split at hs
  ·rename_i z rows fQ
   split at hs
   ·rename_i hz
    subst hz
    cases hs
    obtain ⟨g1,g2⟩:=h.G8 fQ
    exact ⟨_,g1,by rw [hx.1];exact g2⟩
   ·cases hs
  ·cases hs
 | bP =>
  simp only [Bq] at hs
  split at hs
  ·cases hs
  ·rename_i hz
   cases hs
   have hv:v = .slice none 0 0:=hx
   subst hv
   exact ⟨[],h,by omega,0,[],none,0,rfl,World.ownsRow_nil w _ _ _,rfl,rfl⟩
 | _=>cases hs
theorem PO (h:bO aY w0 aX N bs Fz κ σ a w) {fl:Option Nat} {x:CV} {y:AV} {v:Value} (hx:fP Fz κ w x v) (hs:Bt fl σ x = some (y,σ')):∃ bA bx,bO aY w0 aX N (bx ++ bs) bA κ σ' a w ∧ (∀ b,Fz b → bA b) ∧ oL bA w y v bx:=by
 cases fl with
 | none=>exact PK h hx (by cases x <;> exact hs)
 | some sz =>
  cases x with
  | one x =>
   obtain ⟨p,h1,h2⟩:=zmm hs
   cases h2
   obtain ⟨bx,e1,e2⟩:=PN h hx h1
   exact ⟨Fz,bx,e1,fun _ h=>h,e2⟩
  | agg xs=>cases hs
theorem D5 : ∀ {xs:List CV} {ys:List AV} {vs:List Value} {fl:List (Option Nat)} {bs:List Nat} {Fz:Nat → Prop} {σ σ':St},bO aY w0 aX N bs Fz κ σ a w → dL Fz κ w xs vs → l7 fl σ xs = some (ys,σ') → ∃ bA bx,bO aY w0 aX N (bx ++ bs) bA κ σ' a w ∧ (∀ b,Fz b → bA b) ∧ fB bA w ys vs bx
 | [],ys,[],fl,bs,Fz,σ,σ',h,_,hs=>by cases hs;exact ⟨Fz,[],h,fun _ h=>h,rfl⟩
 | x :: xs,ys,v :: vs,fl,bs,Fz,σ,σ',h,hx,hs=>by
  obtain ⟨p,h1,h2⟩:=zbm hs
  obtain ⟨r,h3,h4⟩:=zmm h2
  cases h4
  obtain ⟨F1,b1,e1,e2,e3⟩:=PO h hx.1 h1
  obtain ⟨F2,b2,e4,e5,e6⟩:=D5 e1 (dL.mono e2 (fun _ _=>rfl) xs (fun _ _=>rfl) vs hx.2) h3
  refine ⟨F2,b1 ++ b2,e4.perm ?_,fun b hb=>e5 b (e2 b hb),b1,b2,e3.mono e5 (fun _ _=>rfl) (fun _ _=>rfl),e6,rfl⟩
  rw [← ajc]
  exact List.perm_append_comm.append_right bs
 | [],_,_ :: _,_,_,_,_,_,_,h,_=>h.elim
 | _ :: _,_,[],_,_,_,_,_,_,h,_=>h.elim
theorem D6 {x:PL} {y z:TV} {v:Value} {Fh:List Nat} {F0:Nat → Prop} {u0:World} (h:bO aY w0 aX N bs Fz κ σ a w) {LP:Nat → Value} (hx:eB F0 LP u0 x v) (KC:∀ k,k % 2 = 1 → κ k = LP k) (hy:mR F0 u0 y v Fh) (hf:∀ b,F0 b → Fz b) (hw:∀ b,F0 b → w.heap[b]? = u0.heap[b]?) (hs:jK σ x y = some (z,σ')) :
  ∃ bA bx,bO aY w0 aX N (bx ++ bs) bA κ σ' a w ∧ (∀ b,Fz b → bA b) ∧ mR bA w z v bx:=by
 have plain:Fh = [] → some (y,σ) = some (z,σ') → ∃ bA bx,bO aY w0 aX N (bx ++ bs) bA κ σ' a w ∧ (∀ b,Fz b → bA b) ∧ mR bA w z v bx:=by
  intro hb hs
  cases hs
  subst hb
  exact ⟨Fz,[],h,fun _ h=>h,hy.mono hf hw (fun b hb=>by simp at hb)⟩
 cases y with
 | ptr cs =>
  cases x with
  | ptr key off =>
   cases off with
   | succ n=>cases hs
   | zero =>
    simp only [jK] at hs
    split at hs
    ·rename_i hk
     exact wG h (show eB Fz κ w (.ptr key 0) v by obtain ⟨b,h1,h2⟩:=hx;exact ⟨b,(KC key hk).trans h1,h2⟩) hs
    ·cases hs
  | _=>cases hs
 | mp sh ents =>
  cases x with
  | mp key =>
   simp only [jK] at hs
   split at hs
   ·rename_i hk
    exact wG h (show eB Fz κ w (.mp key) v by obtain ⟨h1,h2⟩:=hx;exact ⟨h1.trans (KC key hk).symm,h2⟩) hs
   ·cases hs
  | ptr key off=>cases off <;> cases hs
  | _=>cases hs
 | own sz rows =>
  have g:z = .any → σ' = σ → ∃ bA bx,bO aY w0 aX N (bx ++ bs) bA κ σ' a w ∧ (∀ b,Fz b → bA b) ∧ mR bA w z v bx:=by
   rintro rfl rfl
   exact ⟨Fz,[],h,fun _ h=>h,rfl⟩
  cases x with
  | ptr key off=>cases off <;> (cases hs;exact g rfl rfl)
  | own key n =>
   simp only [jK] at hs
   split at hs
   ·rename_i hk
    split at hs
    ·rename_i z' rows' fQ
     cases hs
     obtain ⟨g1,g2⟩:=h.G8 fQ
     refine ⟨Fz,_,g1,fun _ h=>h,?_⟩
     rw [hx.1,← KC key hk]
     exact g2
    ·cases hs
   ·cases hs;exact g rfl rfl
  | _=>cases hs;exact g rfl rfl
 | fp cs =>
  cases x with
  | ptr key off=>cases off <;> exact plain hy.2 hs
  | _=>exact plain hy.2 hs
 | fn f cs =>
  cases x with
  | ptr key off=>cases off <;> exact plain hy.2 hs
  | _=>exact plain hy.2 hs
 | any =>
  cases x with
  | ptr key off=>cases off <;> exact plain hy hs
  | _=>exact plain hy hs
 | f y =>
  cases x with
  | ptr key off=>cases off <;> exact plain hy.2 hs
  | _=>exact plain hy.2 hs
 | iI =>
  cases x with
  | ptr key off=>cases off <;> exact plain hy.2 hs
  | _=>exact plain hy.2 hs
 | fq =>
  cases x with
  | ptr key off=>cases off <;> exact plain hy.2 hs
  | _=>exact plain hy.2 hs
theorem Ae {F0:Nat → Prop} {u0:World} {LP:Nat → Value} (KC:∀ k,k % 2 = 1 → κ k = LP k):∀ {xs:List PL} {ys zs:List TV} {vs:List Value} {bs Fh:List Nat} {Fz:Nat → Prop} {σ σ':St},bO aY w0 aX N bs Fz κ σ a w → aN F0 LP u0 xs vs → kI F0 u0 ys vs Fh → (∀ b,F0 b → Fz b) → (∀ b,F0 b → w.heap[b]? = u0.heap[b]?) → nV σ xs ys = some (zs,σ') →
  ∃ bA bx,bO aY w0 aX N (bx ++ bs) bA κ σ' a w ∧ (∀ b,Fz b → bA b) ∧ kI bA w zs vs bx
 | [],[],zs,[],bs,Fh,Fz,σ,σ',h,hx,hy,hf,hw,hs=>by cases hs;exact ⟨Fz,[],h,fun _ h=>h,rfl⟩
 | x :: xs,y :: ys,zs,v :: vs,bs,Fh,Fz,σ,σ',h,hx,hy,hf,hw,hs=>by
  obtain ⟨y1,y2,h1,h2,_⟩:=hy
  obtain ⟨p,h3,h4⟩:=zbm hs
  obtain ⟨r,h5,h6⟩:=zmm h4
  cases h6
  obtain ⟨F1,b1,e1,e2,e3⟩:=D6 h hx.1 KC h1 hf hw h3
  obtain ⟨F2,b2,e4,e5,e6⟩:=Ae KC e1 hx.2 h2 (fun b hb=>e2 b (hf b hb)) hw h5
  refine ⟨F2,b1 ++ b2,e4.perm ?_,fun b hb=>e5 b (e2 b hb),b1,b2,e3.mono e5 (fun _ _=>rfl) (fun _ _=>rfl),e6,rfl⟩
  rw [← ajc]
  exact List.perm_append_comm.append_right bs
 | [],[],_,_ :: _,_,_,_,_,_,_,hx,_,_,_,_=>hx.elim
 | _ :: _,_ :: _,_,[],_,_,_,_,_,_,hx,_,_,_,_=>hx.elim
 | [],_ :: _,_,_,_,_,_,_,_,_,_,_,_,_,hs=>by cases hs
 | _ :: _,[],_,_,_,_,_,_,_,_,_,_,_,_,hs=>by cases hs
theorem LQ {F0:Nat → Prop} {u0:World} {LP:Nat → Value} (KC:∀ k,k % 2 = 1 → κ k = LP k) {x:CV} {y z:AV} {v:Value} {Fh:List Nat} (h:bO aY w0 aX N bs Fz κ σ a w) (hx:fP F0 LP u0 x v) (hy:oL F0 u0 y v Fh) (hf:∀ b,F0 b → Fz b) (hw:∀ b,F0 b → w.heap[b]? = u0.heap[b]?) (hs:wV σ x y = some (z,σ')) :
  ∃ bA bx,bO aY w0 aX N (bx ++ bs) bA κ σ' a w ∧ (∀ b,Fz b → bA b) ∧ oL bA w z v bx:=by
 cases x with
 | one x =>
  cases y with
  | one y =>
   obtain ⟨p,h1,h2⟩:=zmm hs
   cases h2
   exact D6 h hx KC hy hf hw h1
  | agg ys=>cases hs
 | agg xs =>
  cases y with
  | one y=>cases hs
  | agg ys =>
   obtain ⟨p,h1,h2⟩:=zmm hs
   cases h2
   obtain ⟨cs,rfl,hx⟩:=hx
   obtain ⟨cs',hcs,hy⟩:=hy
   cases hcs
   obtain ⟨F1,b1,e1,e2,e3⟩:=Ae KC h hx hy hf hw h1
   exact ⟨F1,b1,e1,e2,cs,rfl,e3⟩
theorem Af {F0:Nat → Prop} {u0:World} {LP:Nat → Value} (KC:∀ k,k % 2 = 1 → κ k = LP k):∀ {xs:List CV} {ys zs:List AV} {vs:List Value} {bs Fh:List Nat} {Fz:Nat → Prop} {σ σ':St},bO aY w0 aX N bs Fz κ σ a w → dL F0 LP u0 xs vs → fB F0 u0 ys vs Fh → (∀ b,F0 b → Fz b) → (∀ b,F0 b → w.heap[b]? = u0.heap[b]?) → jV σ xs ys = some (zs,σ') →
  ∃ bA bx,bO aY w0 aX N (bx ++ bs) bA κ σ' a w ∧ (∀ b,Fz b → bA b) ∧ fB bA w zs vs bx
 | [],[],zs,[],bs,Fh,Fz,σ,σ',h,hx,hy,hf,hw,hs=>by cases hs;exact ⟨Fz,[],h,fun _ h=>h,rfl⟩
 | x :: xs,y :: ys,zs,v :: vs,bs,Fh,Fz,σ,σ',h,hx,hy,hf,hw,hs=>by
  obtain ⟨y1,y2,h1,h2,_⟩:=hy
  obtain ⟨p,h3,h4⟩:=zbm hs
  obtain ⟨r,h5,h6⟩:=zmm h4
  cases h6
  obtain ⟨F1,b1,e1,e2,e3⟩:=LQ KC h hx.1 h1 hf hw h3
  obtain ⟨F2,b2,e4,e5,e6⟩:=Af KC e1 hx.2 h2 (fun b hb=>e2 b (hf b hb)) hw h5
  refine ⟨F2,b1 ++ b2,e4.perm ?_,fun b hb=>e5 b (e2 b hb),b1,b2,e3.mono e5 (fun _ _=>rfl) (fun _ _=>rfl),e6,rfl⟩
  rw [← ajc]
  exact List.perm_append_comm.append_right bs
 | [],[],_,_ :: _,_,_,_,_,_,_,hx,_,_,_,_=>hx.elim
 | _ :: _,_ :: _,_,[],_,_,_,_,_,_,hx,_,_,_,_=>hx.elim
 | [],_ :: _,_,_,_,_,_,_,_,_,_,_,_,_,hs=>by cases hs
 | _ :: _,[],_,_,_,_,_,_,_,_,_,_,_,_,hs=>by cases hs
end
end
section
open Go
def mZ (P:Program):List ResultVar → Option (List Rs)
 | []=>some []
 | .tmp t :: l=>(mZ P l).map fun r=>.t t :: r
 | .cell a t :: l=>(uF P t).bind fun g=>(kZ P t).bind fun n=>(mZ P l).map fun r=>.cell a (if g then n else 1) g :: r
section
variable {P : Program} {Γ:Env} {aY Fz bA:Nat → Prop} {w0 w w':World} {aX bs:List Nat} {N:Fr} {F:Nat} {κ iJ:Nat → Value} {σ fG σ':St} {a:Act} {X:Hx}
def Ag (tmps:Array Value) (r:ResultVar):Sem Value:=match r with
 | .tmp t=>pure (tmps.getD t undef)
 | .cell a t=>do loadVar t (← asAddr (tmps.getD a undef))
theorem xL (h:Rel aY w0 aX N Fz κ σ a w):∀ {rv:List ResultVar} {rs:List Rs} {mP:List CV},mZ P rv = some rs → slots σ rs = some mP → ∃ vs,(rv.mapM (Ag a.tmps)).run P w = .ok vs w ∧ dL Fz κ w mP vs
 | [],rs,mP,hc,hs=>by cases hc;cases hs;exact ⟨[],by simp,trivial⟩
 | .tmp t :: l,rs,mP,hc,hs=>by
  obtain ⟨r,h1,rfl⟩:=zmm hc
  obtain ⟨x,h2,hs⟩:=zbm hs
  obtain ⟨m,h3,rfl⟩:=zmm hs
  obtain ⟨vs,e1,e2⟩:=xL h h1 h3
  have hv:=h.eval (x:=.tmp t) (y:=.t t) rfl h2
  refine ⟨a.tmps.getD t undef :: vs,?_,hv,e2⟩
  rw [List.mapM_cons]
  simp [Ag,e1]
 | .cell ad t :: l,rs,mP,hc,hs=>by
  obtain ⟨g,hg,hc⟩:=zbm hc
  obtain ⟨n,hn,hc⟩:=zbm hc
  obtain ⟨r,h1,rfl⟩:=zmm hc
  obtain ⟨x,h2,hs⟩:=zbm hs
  obtain ⟨m,h3,rfl⟩:=zmm hs
  obtain ⟨vs,e1,e2⟩:=xL h h1 h3
  simp only [slot] at h2
  split at h2
  ·rename_i key off hk
   split at h2
   ·rename_i xs fQ
    obtain ⟨sg,h5,h6⟩:=zbm h2
    have hv:iC Fz κ w (.c (.one (.ptr key off))) (a.tmps.getD ad undef):=h.val hk
    obtain ⟨b,g1,g2⟩:=hv
    obtain ⟨b',cs,e,g3,g4,g5⟩:=h.obj fQ
    rw [g1] at g3
    cases g3
    obtain ⟨e6,e7,e8⟩:=g5.seg h5
    obtain ⟨v,e9,e10⟩:=mW (P:=P) (b:=b) (o:=off) hg hn e6 (fun j v hj=>by
     have:=kN (w:=w) (b:=b) (o:=0) (off:=off) (vs:=cs.toList) (n:=if g then n else 1) (fun j v hj=>by
      rw [aiP]
      simp only [World.cell?,g4]
      simpa using hj) j v hj
     rwa [aiP] at this) e7 h6
    refine ⟨v :: vs,?_,e10,e2⟩
    have ha:(asAddr (a.tmps.getD ad undef)).run P w = .ok ⟨b,off,none⟩ w:=by rw [g2];rfl
    have hro:(Ag a.tmps (.cell ad t)).run P w = .ok v w:=by
     simp only [Ag,Sem.run_bind,ha,Result.andThen_ok]
     exact e9
    rw [List.mapM_cons]
    simp only [Sem.run_bind,hro,e1,Result.andThen_ok,Sem.run_pure]
   ·cases h2
  ·cases h2
theorem FQ (h:Rel aY w0 aX N Fz κ σ a w) {fn:Func} {rs:List Rs} {mP:List CV} (hc:mZ P fn.results.toList = some rs) (hs:slots σ rs = some mP):∃ vs,(results fn a.tmps).run P w = .ok (ret vs) w ∧ dL Fz κ w mP vs:=by
 obtain ⟨vs,h1,h2⟩:=xL h hc hs
 refine ⟨vs,?_,h2⟩
 have he:results fn a.tmps = (do let vs ← fn.results.mapM (Ag a.tmps);pure (if h:vs.size = 1 then vs[0] else .tuple vs)):=by
  unfold results Ag
  congr 1
 rw [he,Array.mapM_eq_mapM_toList]
 simp only [Sem.run_bind,Sem.run_map,h1,Result.andThen_ok,Sem.run_pure]
 match vs with
 | []=>rfl
 | [x]=>rfl
 | x :: y :: l=>simp [ret]
theorem LU {fn:Func} {cf:CF} {d9 rs pq:List AV} {vals:List Value} {mP:List CV} {N:Fr} (hr:mZ P fn.results.toList = some cf.res) (ha:fB Fz w d9 vals bs) (hap:∀ b ∈ bs,¬ Fz b ∧ b < w.heap.size) (hfz:∀ b,Fz b → b < w.heap.size) (g2:dL Fz iJ w mP vals) :
  ∀ a' w',Ok Fz w bs N iJ σ a' w' → ((jV σ mP d9).bind fun b=>(slots b.2 cf.res).bind fun l=>(l7 cf.ro b.2 l).map fun r=>(r.1,b.1)) = some (rs,pq) →
    a'.defers = N.ds ∧ ∃ v,(results fn a'.tmps).run P w' = .ok v w' ∧ ∃ bA sN b1 b2,Ending.returned v = .returned (ret sN) ∧ Post Fz w vals bs rs pq bA w' sN b1 b2:=by
 rintro a' w' ⟨F1,κ,hr1,hk⟩ hE
 obtain ⟨b,h3,hE⟩:=zbm hE
 obtain ⟨l,h4,hE⟩:=zbm hE
 obtain ⟨r,h5,h6⟩:=zmm hE
 cases h6
 have hmv:∀ b,Fz b → w'.heap[b]? = w.heap[b]?:=fun b hb=>hr1.ext b (hfz b hb) (fun hm=>(hap b hm).1 hb)
 obtain ⟨F2,b1,e1,e2,e3⟩:=Af hk hr1.x g2 ha (fun b hb=>hr1.zh b hb) hmv h3
 rw [ajm] at e1
 obtain ⟨sN,e4,e5⟩:=FQ e1.rel hr h4
 obtain ⟨F3,b2,e6,e7,e8⟩:=D5 e1 e5 h5
 have hpm:=e6.perm List.perm_append_comm
 refine ⟨hr1.lV,ret sN,e4,F3,sN,b1,b2,rfl,fun b hb=>e7 b (e2 b (hr1.zh b hb)),fun b hb=>e6.rel.fz b hb,hr1.big,hr1.ext,hr1.kp,e3.mono e7 (fun _ _=>rfl) (fun _ _=>rfl),e8,hpm.lV,fun b hb=>?_⟩
 have:=hpm.ap b hb
 exact ⟨this.1,this.2.1,this.2.2.1⟩
theorem fB.len : ∀ {xs:List AV} {vs:List Value} {b:List Nat},fB Fz w xs vs b → vs.length = xs.length
 | [],[],_,_=>rfl
 | [],_ :: _,_,h=>h.elim
 | _ :: _,[],_,h=>h.elim
 | x :: xs,v :: vs,_,⟨_,_,_,h2,_⟩=>by simp [fB.len h2]
theorem entered {bo:List Nat} {n:Nat} {d9:List AV} {vals:List Value} {mP:List CV} (ha:fB Fz w d9 vals bs) (hnd:bs.Nodup) (hap:∀ b ∈ bs,¬ Fz b ∧ b < w.heap.size) (hfz:∀ b,Fz b → b < w.heap.size)
  (hsz:(vals.toArray ++ Array.replicate (n - vals.toArray.size) undef).size = n) (h1:enter bo 0 [] ⟨[],[]⟩ d9 = some (mP,σ)) :
  ∃ iJ,Ok Fz w bs (Fr.of n) iJ σ { tmps:=vals.toArray ++ Array.replicate (n - vals.toArray.size) undef,defers:=[] } w ∧ dL Fz iJ w mP vals:=by
 have Y9:bO Fz w bs (Fr.of n) (bs ++ []) Fz (fun _=>undef) ⟨[],[]⟩ { tmps:=vals.toArray ++ Array.replicate (n - vals.toArray.size) undef,defers:=[] } w :=
  ⟨⟨fun p hp=>by simp at hp,hsz,rfl,fun d hd=>by
   rw [ai5,ajt (by rw [hsz];simpa [Fr.of,Bv] using hd)];rfl,fun p hp=>by simp at hp,fun p hp=>by simp at hp,fun p hp=>by simp at hp,fun b hb=>⟨hfz b hb,.inl hb⟩,fun _ h=>h,aiq _,fun _ _ _=>rfl,rfl,rfl⟩,by rw [ajm];exact hnd,fun b hb=>by
   rw [ajm] at hb
   exact ⟨(hap b hb).1,(hap b hb).2,.inl hb,fun p hp=>by simp at hp⟩⟩
 obtain ⟨iJ,g1,g2,_⟩:=DY Y9 ha (fun j v hj=>by
  rw [aiP,ai5,Array.getElem?_append_left (by
   have:=(ajb.mp hj).1
   simpa using this)]
  simp [hj]) (show aN Fz (fun _=>undef) w [] [] from trivial) h1
 exact ⟨iJ,⟨Fz,iJ,g1.rel,fun _ _=>rfl⟩,g2⟩
theorem Ah (hm:P.follows .mixedOrders = true) (heq:∀ t ∈ X.eqs,lg P t) (kJ:gW P Γ) (hC:dI P Γ) {f:FuncId} {fn:Func} {c:Code} (hf:P.funcs[f]? = some fn) (hb:fn.body = some c) {cf:CF} {hints rest:List Hi}
  (hc:comp P X (Bv fn.ntmps) c hints = some (cf.body,rest)) (hr:mZ P fn.results.toList = some cf.res) (hnp:cf.np ≤ fn.ntmps) (F:Nat):Sat P f (Jm Γ F cf):=by
 intro d9 rs pq hE Fz w vals bs ha hnd hap hfz
 unfold Jm at hE
 split at hE
 ·cases hE
 ·rename_i hlen
  have hlen':d9.length = cf.np:=ai3.mp hlen
  have hvl:vals.length = d9.length:=ha.len
  obtain ⟨e,h1,hE⟩:=zbm hE
  obtain ⟨p,h2,hE⟩:=zbm hE
  refine calls_of_wp hf hb ?_
  have hsz:(vals.toArray ++ Array.replicate (fn.ntmps - vals.toArray.size) undef).size = fn.ntmps:=by simp;omega
  obtain ⟨iJ,hok,g2⟩:=entered ha hnd hap hfz hsz h1
  have fin:=fun a' w'=>LU (σ:=p.2) (N:=Fr.of fn.ntmps) (rs:=rs) (pq:=pq) (cf:=cf) hr ha hap hfz g2 a' w'
  refine DX hm heq kJ hC c hc hok h2 fun a' w' hO=>?_
  cases hp:p.1 with
  | iV=>rw [hp] at hE;exact fin a' w' hO hE
  | ret=>rw [hp] at hE;exact fin a' w' hO hE
  | ext id=>rw [hp] at hE;cases hE
end
end
section
open Go
structure Tok {α:Type} (k:α → Prop):Type where
def W {α:Type} (k:α → Prop) (_:Tok k) (x:Option α):Prop:=∃ a,x = some a ∧ k a
section
variable {α β:Type} {k:α → Prop} {u:Tok k}
theorem gI {a:α}:W k u (some a) ↔ k a:=by simp [W]
theorem uK : W k u none ↔ False:=by simp [W]
theorem FR {x:Option β} {f:β → Option α}:W k u (x.bind f) ↔ W (fun a=>W k ⟨⟩ (f a)) ⟨⟩ x:=by
 cases x <;> simp [W]
theorem LV {x:Option β} {f:β → α}:W k u (x.map f) ↔ W (fun a=>k (f a)) ⟨⟩ x:=by
 cases x <;> simp [W]
theorem Za {c:Prop} [Decidable c] {a b:Option α}:W k u (if c then a else b) ↔ (c → W k u a) ∧ (¬ c → W k u b):=by
 by_cases h:c <;> simp [h]
theorem FT {c:Prop} [Decidable c] {a:Option α}:W k u (if c then a else none) ↔ c ∧ W k u a:=by
 by_cases h:c <;> simp [h,uK]
theorem FU {c:Prop} [Decidable c] {a:Option α}:W k u (if c then none else a) ↔ ¬ c ∧ W k u a:=by
 by_cases h:c <;> simp [h,uK]
theorem uL {j:α → Prop} {x:Option α} (h:W j ⟨⟩ x) (hi:∀ a,j a → k a):W k u x:=by
 obtain ⟨a,h1,h2⟩:=h;exact ⟨a,h1,hi a h2⟩
end
def V {α:Type} (k:α → Prop) (x:Option α):Prop:=∃ a,x = some a ∧ k a
section
variable {α β:Type} {k:α → Prop} {u:Tok k}
theorem dQ {x:Option α}:W k u x ↔ V k x:=aiu
theorem bq {a:α}:V k (some a) ↔ k a:=by simp [V]
theorem jq : V k none ↔ False:=by simp [V]
theorem aK {x:Option β} {f:β → Option α}:V k (x.bind f) ↔ V (fun a=>V k (f a)) x:=by
 cases x <;> simp [V]
theorem bQ {x:Option β} {f:β → α}:V k (x.map f) ↔ V (fun a=>k (f a)) x:=by
 cases x <;> simp [V]
theorem bI {c:Prop} [Decidable c] {a:Option α}:V k (if c then a else none) ↔ c ∧ V k a:=by
 by_cases h:c <;> simp [h,jq]
theorem cO {c:Prop} [Decidable c] {a:Option α}:V k (if c then none else a) ↔ ¬ c ∧ V k a:=by
 by_cases h:c <;> simp [h,jq]
theorem bU {j:β → Prop}:V k none ↔ V j none:=jq.trans jq.symm
theorem lG {j:β → Prop} {a:α} {b:β} (h:k a ↔ j b):V k (some a) ↔ V j (some b):=bq.trans (h.trans bq.symm)
theorem cB {x:Option α} {j:α → Prop} (h:∀ a,j a ↔ k a):V j x ↔ V k x:=by
 have:j = k:=funext fun a=>propext (h a)
 rw [this]
end
structure Zb (A B:Unit → Prop):Type where
def Br (b:Bool) (A B:Unit → Prop) (_:Zb A B):Prop:=(b = true → A ()) ∧ (b = false → B ())
theorem PS {A B:Unit → Prop} {u:Zb A B}:Br true A B u ↔ A ():=by simp [Br]
theorem LW {A B:Unit → Prop} {u:Zb A B}:Br false A B u ↔ B ():=by simp [Br]
theorem Ve {b:Bool} {A B:Unit → Prop} {u:Zb A B}:Br (!b) A B u ↔ Br b B A ⟨⟩:=by cases b <;> simp [Br]
theorem dM {b:Bool} {A B:Unit → Prop} {u:Zb A B} (h1:b = true → A ()) (h2:b = false → B ()):Br b A B u:=⟨h1,h2⟩
theorem Jz {α:Type} {x:Option α} {a:α} (h:W (fun b=>b = a) ⟨⟩ x):x = some a:=by
 obtain ⟨b,h1,rfl⟩:=h;exact h1
theorem Cg {body:St → Option (Out × St)} {rs:St → St} {k:Out × St → Prop} {u:Tok k} (I:Nat → St → Prop)
  (hstep:∀ m σ,I m σ → W (fun p=>match p.1 with
   | .iV=>∃ j,j < m ∧ I j p.2
   | o=>k (o,p.2)) ⟨⟩ (body (rs σ))):∀ (F m:Nat) (σ:St),m < F → I m σ → W k u (iter body rs F σ)
 | 0,m,σ,h,_=>by omega
 | F + 1,m,σ,h,hI=>by
  obtain ⟨p,h1,h2⟩:=hstep m σ hI
  unfold iter
  rw [h1,Option.bind_some]
  obtain ⟨o,s⟩:=p
  cases o with
  | iV =>
   obtain ⟨j,hj,hI'⟩:=h2
   exact Cg I hstep F j s (by omega) hI'
  | ext i=>exact gI.mpr h2
  | ret=>exact gI.mpr h2
theorem LX {body:St → Option (Out × St)} {rs:St → St} {k:Out × St → Prop} {u:Tok k} {F:Nat} (N:Nat) (S:Nat → St) (P:Nat → Prop) (hF:N < F) (h0:P 0)
  (step:∀ i,i < N → P i → W (fun p=>match p.1 with
   | .iV=>p.2 = S (i + 1) ∧ P (i + 1)
   | o=>k (o,p.2)) ⟨⟩ (body (rs (S i))))
  (last:P N → W (fun p=>match p.1 with
   | .iV=>False
   | o=>k (o,p.2)) ⟨⟩ (body (rs (S N)))):W k u (iter body rs F (S 0)):=by
 refine Cg (fun m σ=>∃ i,i ≤ N ∧ m = N - i ∧ σ = S i ∧ P i) ?_ F N (S 0) hF ⟨0,aiU _,rfl,rfl,h0⟩
 rintro m σ ⟨i,hi,rfl,rfl,hP⟩
 by_cases hlt:i < N
 ·refine uL (step i hlt hP) fun p hp=>?_
  obtain ⟨o,s⟩:=p
  cases o with
  | iV=>exact ⟨N - (i + 1),by omega,i + 1,by omega,rfl,hp.1,hp.2⟩
  | ext j=>exact hp
  | ret=>exact hp
 ·have:i = N:=by omega
  subst this
  refine uL (last hP) fun p hp=>?_
  obtain ⟨o,s⟩:=p
  cases o with
  | iV=>exact hp.elim
  | ext j=>exact hp
  | ret=>exact hp
def look : List (FuncId × CF) → FuncId → Option CF
 | [],_=>none
 | (k,c) :: l,f=>if k = f then some c else look l f
noncomputable def Gm (oM:List (FuncId × CF)) (ext:Env) (F:Nat):Nat → Env
 | 0=>fun _ _=>none
 | n + 1=>fun f d9=>match look oM f with
  | some cf=>Jm (Gm oM ext F n) F cf d9
  | none=>ext f d9
structure jD (P:Program) (f:FuncId) (cf:CF):Prop where
 ok:∃ fn c X hints rest,P.funcs[f]? = some fn ∧ (fn.name == "runtime.NumGoroutine") = false ∧ fn.body = some c ∧ (∀ t ∈ X.eqs,lg P t) ∧ comp P X (Bv fn.ntmps) c hints = some (cf.body,rest) ∧ mZ P fn.results.toList = some cf.res ∧ cf.np ≤ fn.ntmps
theorem xM : ∀ {l:List (FuncId × CF)} {f:FuncId} {c:CF},look l f = some c → (f,c) ∈ l
 | [],_,_,h=>by cases h
 | (k,d) :: l,f,c,h=>by
  unfold look at h
  split at h
  ·rename_i e;subst e;cases h;simp
  ·exact ajd _ (xM h)
theorem Ai {P:Program} {oM:List (FuncId × CF)} {ext:Env} {F:Nat} (hm:P.follows .mixedOrders = true) (ht:∀ p ∈ oM,jD P p.1 p.2) (he:gW P ext) (hec:dI P ext):∀ n,gW P (Gm oM ext F n) ∧ dI P (Gm oM ext F n)
 | 0=>⟨fun f d9 rs pq h=>by simp [Gm] at h,fun f d9 r h=>by simp [Gm] at h⟩
 | n + 1=>by
  obtain ⟨h1,h2⟩:=Ai hm ht he hec n
  constructor
  ·intro f
   cases hl:look oM f with
   | none =>
    have:Gm oM ext F (n + 1) f = ext f:=by funext d9;simp only [Gm,hl]
    rw [this];exact he f
   | some cf =>
    have:Gm oM ext F (n + 1) f = Jm (Gm oM ext F n) F cf:=by funext d9;simp only [Gm,hl]
    rw [this]
    obtain ⟨fn,c,X,hints,rest,e1,_,e2,e3,e4,e5,e6⟩:=(ht _ (xM hl)).ok
    exact Ah hm e3 h1 h2 e1 e2 e4 e5 e6 F
  ·intro f d9 r h
   cases hl:look oM f with
   | none=>exact hec f d9 r (by simpa only [Gm,hl] using h)
   | some cf =>
    obtain ⟨fn,c,X,hints,rest,e1,e0,e2,_⟩:=(ht _ (xM hl)).ok
    exact ⟨fn,e1,e0,by rw [e2];rfl⟩
theorem dB {oM:List (FuncId × CF)} {ext:Env} {F n:Nat} {f:FuncId} {cf:CF} {d9:List AV} {r:List AV × List AV} (hl:look oM f = some cf) (h:W (fun z=>z = r) ⟨⟩ (Jm (Gm oM ext F n) F cf d9)):Gm oM ext F (n + 1) f d9 = some r:=by
 simp only [Gm,hl]
 exact Jz h
theorem gY {oM:List (FuncId × CF)} {ext:Env} {F n:Nat} {f:FuncId} (hl:look oM f = none):Gm oM ext F (n + 1) f = ext f:=by
 funext d9;simp only [Gm,hl]
end
section
open Go
def F4 (P:Program):List Field → Nat → Bool
 | [],_=>true
 | f :: fs,i=>(f.name != "_") && (f.offset == i) && (Fg P f.type).isSome && F4 P fs (i + 1)
def okT (P:Program) (t:TypeId):Bool:=!P.eqGuardType P.depth t && match P.underlying t with
 | some (.struct fs)=>!P.stoodInHeld t && F4 P fs.toList 0
 | some (.int _)=>true
 | some .string=>true
 | some .bool=>true
 | _=>false
section
variable {P : Program} {t:TypeId} {w:World}
theorem uM {k:SK} (h:Fg P t = some k):(∃ i,P.underlying t = some (.int i) ∧ k = .int i) ∨ (P.underlying t = some .bool ∧ k = .bool) ∨ (P.underlying t = some .string ∧ k = .str):=by
 unfold Fg at h
 split at h <;> simp_all
theorem TF {d:Nat} {k:SK} (h:Fg P t = some k) {a b:SV} (ha:a.sk = k) (hb:b.sk = k):(Op.equalIn (d + 1) t (encS a) (encS b)).run P w = .ok (decide (a = b)) w:=by
 rcases uM h with ⟨i,hu,rfl⟩ | ⟨hu,rfl⟩ | ⟨hu,rfl⟩
 ·cases a <;> cases b <;> simp_all [SV.sk,encS,Op.equalIn,run_underlying hu]
  rw [Bool.eq_iff_iff];simp
 ·cases a <;> cases b <;> simp_all [SV.sk,encS,Op.equalIn,run_underlying hu]
  rw [Bool.eq_iff_iff];simp
 ·cases a <;> cases b <;> simp_all [SV.sk,encS,Op.equalIn,run_underlying hu]
  exact Mq.uD _ _
theorem Ci {k:SK} (h:Fg P t = some k) {xs:Array Value} {o:Nat} {v:Value} (hx:xs[o]? = some v):(part t xs o).run P w = .ok v w:=by
 rcases uM h with ⟨i,hu,rfl⟩ | ⟨hu,rfl⟩ | ⟨hu,rfl⟩ <;> simp [part,isAgg,run_underlying hu,hx]
theorem Aj {d:Nat} {xs ys:Array Value}:∀ {fs:List Field} {i:Nat} {ks:List SK} {ZZ9 bs:List SV},F4 P fs i = true → Jp P fs = some ks → ZZ9.map SV.sk = ks → bs.map SV.sk = ks → (∀ j:Nat,xs[i + j]? = ZZ9[j]?.map encS) → (∀ j:Nat,ys[i + j]? = bs[j]?.map encS) →
  (Op.eqFields (d + 1) xs ys fs).run P w = .ok (decide (ZZ9 = bs)) w
 | [],i,ks,ZZ9,bs,_,hk,ha,hb,_,_=>by
  cases hk
  simp only [List.map_eq_nil_iff] at ha hb
  subst ha;subst hb
  simp [Op.eqFields]
 | f :: fs,i,ks,ZZ9,bs,hf,hk,ha,hb,hx,hy=>by
  obtain ⟨k,h1,h2⟩:=zbm hk
  obtain ⟨l,h3,rfl⟩:=zmm h2
  unfold F4 at hf
  simp only [aiw,ajC,ne_eq,aiY] at hf
  obtain ⟨⟨⟨f1,f2⟩,f3⟩,f4⟩:=hf
  cases ZZ9 with
  | nil=>simp at ha
  | cons a ZZ9 =>
  cases bs with
  | nil=>simp at hb
  | cons b bs =>
  simp only [aiy,ajD] at ha hb
  have ex:xs[f.offset]? = some (encS a):=by rw [f2];simpa using hx 0
  have ey:ys[f.offset]? = some (encS b):=by rw [f2];simpa using hy 0
  have ih:=Aj (d:=d) f4 h3 ha.2 hb.2 (fun j=>by have:=hx (j + 1);rw [show i + 1 + j = i + (j + 1) from by omega];simpa using this) (fun j=>by have:=hy (j + 1);rw [show i + 1 + j = i + (j + 1) from by omega];simpa using this)
  unfold Op.eqFields
  rw [ail f1]
  simp only [Sem.run_bind,Ci h1 ex,Ci h1 ey,Result.andThen_ok,TF h1 ha.1 hb.1,ajD]
  by_cases hab:a = b
  ·subst hab;simp [ih]
  ·simp [hab]
theorem Qs {e:Bool} {n:Nat} {k:SK} (h:Fg P t = some k) {a:SV} (ha:a.sk = k):(Instr.checkKey e (n + 1) t (encS a)).run P w = .ok () w:=by
 rcases uM h with ⟨i,hu,rfl⟩ | ⟨hu,rfl⟩ | ⟨hu,rfl⟩ <;> cases a <;> simp_all [SV.sk,encS,Instr.checkKey,run_underlying hu]
theorem Ea {e:Bool} {n:Nat} {cs:Array Value}:∀ {fs:List Field} {i:Nat} {ks:List SK} {ZZ9:List SV},F4 P fs i = true → Jp P fs = some ks → ZZ9.map SV.sk = ks → (∀ j:Nat,cs[i + j]? = ZZ9[j]?.map encS) →
  (forIn fs PUnit.unit (fun (f:Field) (_:PUnit)=>(do
   if f.name ≠ "_" then Instr.checkKey e (n + 1) f.type (← part f.type cs f.offset)
   pure (ForInStep.yield PUnit.unit):Sem (ForInStep PUnit)))).run P w = .ok PUnit.unit w
 | [],i,ks,ZZ9,_,_,_,_=>by simp
 | f :: fs,i,ks,ZZ9,hf,hk,ha,hx=>by
  obtain ⟨k,h1,h2⟩:=zbm hk
  obtain ⟨l,h3,rfl⟩:=zmm h2
  unfold F4 at hf
  simp only [aiw,ajC,ne_eq,aiY] at hf
  obtain ⟨⟨⟨f1,f2⟩,f3⟩,f4⟩:=hf
  cases ZZ9 with
  | nil=>simp at ha
  | cons a ZZ9 =>
  simp only [aiy,ajD] at ha
  have ex:cs[f.offset]? = some (encS a):=by rw [f2];simpa using hx 0
  have ih:=Ea (e:=e) (n:=n) f4 h3 ha.2 (fun j=>by have:=hx (j + 1);rw [show i + 1 + j = i + (j + 1) from by omega];simpa using this)
  rw [List.forIn_cons]
  simp only [ail f1,Sem.run_bind,Ci h1 ex,Result.andThen_ok,Qs h1 ha.1,Sem.run_pure]
  exact ih
theorem Qt {e:Bool} {n:Nat} {fs:Array Field} {ks:List SK} {ZZ9:List SV} (hu:P.underlying t = some (.struct fs)) (hf:F4 P fs.toList 0 = true) (hk:Jp P fs.toList = some ks) (ha:ZZ9.map SV.sk = ks):(Instr.checkKey e (n + 2) t (.agg (ZZ9.map encS).toArray)).run P w = .ok () w:=by
 have:=Ea (w:=w) (e:=e) (n:=n) hf hk ha (cs:=(ZZ9.map encS).toArray) (fun j=>by simp)
 unfold Instr.checkKey
 simp only [Sem.run_bind,run_underlying hu,Result.andThen_ok]
 rw [← Array.forIn_toList]
 simp only [ne_eq,ite_not] at this ⊢
 simp at this ⊢
 rw [this]
 rfl
theorem Qu {n:Nat} {ZZ9:List SV} (hs:∀ (n:Nat) (a:SV),Instr.sameBits n (encS a) (encS a) = true):Instr.sameBits (n + 1) (.agg (ZZ9.map encS).toArray) (.agg (ZZ9.map encS).toArray) = true:=by
 unfold Instr.sameBits
 simp only [beq_self_eq_true,Bool.true_and,aiA]
 intro p hp
 have:∀ (l:List Value) (p:Value × Value),p ∈ l.zip l → p.1 = p.2 ∧ p.1 ∈ l:=by
  intro l
  induction l with
  | nil=>intro p hp;simp at hp
  | cons x l ih =>
   intro p hp
   rcases aiD.mp hp with rfl | hp
   ·exact ⟨rfl,by simp⟩
   ·exact ⟨(ih p hp).1,ajd _ (ih p hp).2⟩
 obtain ⟨h1,h2⟩:=this _ _ hp
 obtain ⟨x,y⟩:=p
 simp only at h1 h2
 subst h1
 simp only [aiM] at h2
 obtain ⟨s,_,rfl⟩:=h2
 exact hs _ s
theorem Ia {n:Nat} (a:SV):Instr.sameBits n (encS a) (encS a) = true:=by
 cases a <;> simp [encS,Instr.sameBits]
 rw [Mq.uD];simp
theorem Eb {ks:List SK} {a:KV} (h:a.ks = .agg ks):∃ ZZ9,a = .agg ZZ9 ∧ ZZ9.map SV.sk = ks:=by
 cases a with
 | one x=>cases h
 | agg ZZ9=>exact ⟨ZZ9,rfl,by simpa [KV.ks] using h⟩
theorem Ak {k:SK} {a:KV} (h:a.ks = .one k):∃ x,a = .one x ∧ x.sk = k:=by
 cases a with
 | one x=>exact ⟨x,rfl,by simpa [KV.ks] using h⟩
 | agg ZZ9=>cases h
theorem Qv {n:Nat} {d:TypeDesc} (hu:P.underlying t = some d) (hd:∀ ms,d ≠ .interface ms):(Op.eqGuardIn (n + 1) t .nilIface .nilIface).run P w = .ok false w:=by
 unfold Op.eqGuardIn
 simp only [Sem.run_bind,run_underlying hu,Result.andThen_ok]
 cases d <;> first | rfl | exact absurd rfl (hd _)
theorem Cj {d:TypeDesc} (hu:P.underlying t = some d) (hd:∀ ms,d ≠ .interface ms) (w:World):(Op.eqGuardIn Op.maxDepth t .nilIface .nilIface).run P w = .ok false w:=by
 unfold Op.maxDepth
 exact Qv hu hd
theorem VX (h:okT P t = true):lg P t:=by
 unfold okT at h
 rw [aiw] at h
 obtain ⟨hg,h⟩:=h
 have hg':P.eqGuardType P.depth t = false:=by simpa using hg
 have gd:(∀ w,(Op.eqGuardIn Op.maxDepth t .nilIface .nilIface).run P w = .ok false w) → ∀ op x y,∀ (a b:Value) (w:World),(eqGuard op t x y a b).run P w = .ok () w:=by
  intro hn op x y a b w
  have key:(Sem.run P (match a,b with
   | .nilIface,.nilIface=>do
    if (x matches .const _) || (y matches .const _) then return
    if ← Op.eqGuardIn Op.maxDepth t a b then unsupported (.noEntry "binop/eql: two nil values of an interface type with methods, neither of them the literal nil")
   | .agg _,.agg _=>do
    if !(← program).eqGuardType (← program).depth t then return
    if ← Op.eqGuardIn Op.maxDepth t a b then unsupported (.noEntry "binop/eql: two nil values of an interface type with methods, in a part of a struct or an array")
   | _,_=>pure ()) w) = .ok () w:=by
   cases a <;> cases b <;> first | rfl | (simp only [Sem.run_bind,run_program,Result.andThen_ok,hg'];rfl) | skip
   cases x <;> cases y <;> first | rfl | simp [hn]
  unfold eqGuard
  split
  ·exact key
  ·exact key
  ·rfl
 cases hu:P.underlying t with
 | none=>rw [hu] at h;cases h
 | some d =>
  rw [hu] at h
  have sc:∀ k,Fg P t = some k → wY P t = some (.one k) → (∀ w,(Op.eqGuardIn Op.maxDepth t .nilIface .nilIface).run P w = .ok false w) → (∀ a:SV,a.sk = k → MapKept.IsKey d (encS a)) → (∀ a b:SV,a.sk = k → b.sk = k → Instr.sameNow d (encS a) (encS b) = some (decide (a = b))) → lg P t:=by
   intro k hk hks hn h1 h2
   have hcase:∀ {sh},wY P t = some sh → sh = .one k:=fun e=>by rw [hks] at e;cases e;rfl
   refine ⟨fun sh e=>?_,fun sh e a b w ha hb=>?_,gd hn⟩
   ·obtain rfl:=hcase e
    refine Mq.Key.O9 hu (fun a ha=>?_) (fun a b ha hb=>?_) (fun a ha=>?_)
    ·obtain ⟨x,rfl,hx⟩:=Ak ha;exact h1 x hx
    ·obtain ⟨x,rfl,hx⟩:=Ak ha
     obtain ⟨y,rfl,hy⟩:=Ak hb
     simp only [nJ,KV.one.injEq]
     exact h2 x y hx hy
    ·obtain ⟨x,rfl,hx⟩:=Ak ha;exact Ia x
   ·obtain rfl:=hcase e
    obtain ⟨x,rfl,hx⟩:=Ak ha
    obtain ⟨y,rfl,hy⟩:=Ak hb
    simp only [nJ,KV.one.injEq]
    unfold Op.equal Op.maxDepth
    exact TF hk hx hy
  cases d with
  | int i =>
   refine sc (.int i) (by simp [Fg,hu]) (by simp [wY,Fg,hu]) (Cj hu (fun _ h=>by cases h)) (fun a ha=>?_) (fun a b ha hb=>?_)
   ·cases a <;> simp_all [SV.sk,encS,MapKept.IsKey]
   ·cases a <;> cases b <;> simp_all [SV.sk,encS,Instr.sameNow]
    rw [Bool.eq_iff_iff];simp
  | bool =>
   refine sc .bool (by simp [Fg,hu]) (by simp [wY,Fg,hu]) (Cj hu (fun _ h=>by cases h)) (fun a ha=>?_) (fun a b ha hb=>?_)
   ·cases a <;> simp_all [SV.sk,encS,MapKept.IsKey]
   ·cases a <;> cases b <;> simp_all [SV.sk,encS,Instr.sameNow]
    rw [Bool.eq_iff_iff];simp
  | string =>
   refine sc .str (by simp [Fg,hu]) (by simp [wY,Fg,hu]) (Cj hu (fun _ h=>by cases h)) (fun a ha=>?_) (fun a b ha hb=>?_)
   ·cases a <;> simp_all [SV.sk,encS,MapKept.IsKey]
   ·cases a <;> cases b <;> simp_all [SV.sk,encS,Instr.sameNow]
    exact Mq.uD _ _
  | struct fs =>
   simp only [aiw,Bool.not_eq_true'] at h
   have hcase:∀ {sh},wY P t = some sh → ∃ ks,Jp P fs.toList = some ks ∧ sh = .agg ks:=fun e=>by
    unfold wY at e
    rw [hu] at e
    obtain ⟨ks,h1,h2⟩:=zmm e
    exact ⟨ks,h1,h2.symm⟩
   have idx:∀ (ZZ9:List SV) (j:Nat),((ZZ9.map encS).toArray)[0 + j]? = ZZ9[j]?.map encS:=fun ZZ9 j=>by simp
   have heq:∀ sh,wY P t = some sh → ∀ (a b:KV) (w:World),a.ks = sh → b.ks = sh → (Op.equal t (nJ a) (nJ b)).run P w = .ok (decide (a = b)) w:=by
    intro sh e a b w ha hb
    obtain ⟨ks,hks,rfl⟩:=hcase e
    obtain ⟨ZZ9,rfl,ha1⟩:=Eb ha
    obtain ⟨bs,rfl,hb1⟩:=Eb hb
    have hf:P.fieldsOf t = fs:=by simp [Program.fieldsOf,hu]
    unfold Op.equal Op.maxDepth
    simp only [nJ,KV.agg.injEq]
    rw [run_equalIn_struct (P:=P) w _ t _ _ (by rw [hf];exact hu) h.1,hf]
    exact Aj h.2 hks ha1 hb1 (idx ZZ9) (idx bs)
   refine ⟨fun sh e=>?_,heq,gd (Cj hu (fun _ h=>by cases h))⟩
   ·obtain ⟨ks,hks,rfl⟩:=hcase e
    refine Mq.Key.KQ hu (fun e' a w ha=>?_) (fun a b w ha hb=>heq _ e a b w ha hb) (fun a ha=>?_) (fun a ha=>?_)
    ·obtain ⟨ZZ9,rfl,ha1⟩:=Eb ha
     exact Qt (n:=9998) hu h.2 hks ha1
    ·obtain ⟨ZZ9,rfl,ha1⟩:=Eb ha
     exact Qu (n:=9999) (fun n a=>Ia a)
    ·obtain ⟨ZZ9,rfl,ha1⟩:=Eb ha
     exact ⟨_,rfl⟩
  | _=>simp at h
end
end
section
open Go Go.RowKit
def Qw : SV → TV
 | .int k n=>.f (.int k n)
 | .bool b=>.f (.bool b)
 | .str s=>.f (.str s)
def Al (l:List SV):List AV:=l.map fun x=>.one (Qw x)
section
variable {P : Program} {Fz:Nat → Prop} {w:World}
theorem Ib {x:SV} {v:Value} {bs:List Nat}:mR Fz w (Qw x) v bs ↔ v = encS x ∧ bs = []:=by
 cases x <;> simp only [Qw,mR,fu,encS]
theorem sS : ∀ {l:List SV} {vs:List Value} {bs:List Nat},fB Fz w (Al l) vs bs → vs = l.map encS ∧ bs = []
 | [],[],_,h=>⟨rfl,h⟩
 | [],_ :: _,_,h=>h.elim
 | _ :: _,[],_,h=>h.elim
 | x :: l,v :: vs,_,⟨b1,b2,h1,h2,e⟩=>by
  obtain ⟨e1,e2⟩:=Ib.mp h1
  obtain ⟨e3,e4⟩:=sS (l:=l) h2
  subst e1;subst e2;subst e3;subst e4
  exact ⟨rfl,by rw [e];rfl⟩
theorem pO : ∀ {l:List SV},fB Fz w (Al l) (l.map encS) []
 | []=>rfl
 | x :: l=>⟨[],[],Ib.mpr ⟨rfl,rfl⟩,pO (l:=l),rfl⟩
theorem Sat.uz {f:FuncId} {g:List AV → Option (List AV × List AV)} (h:∀ d9 r,g d9 = some r → ∃ ZZ9 rs:List SV,d9 = Al ZZ9 ∧ r = (Al rs,Al ZZ9) ∧
  ∀ w:World,Calls P f (ZZ9.map encS).toArray w fun e w'=>e = .returned (ret (rs.map encS)) ∧ Below w.heap.size w w'):Sat P f g:=by
 intro d9 rs pq hg Fz w vals bs ha hnd hap hfz
 obtain ⟨ZZ9,rs',rfl,e,hc⟩:=h d9 _ hg
 cases e
 obtain ⟨rfl,rfl⟩:=sS ha
 refine (hc w).mono fun e w' ⟨h1,hb'⟩=>?_
 exact ⟨Fz,rs'.map encS,[],[],h1,fun _ h=>h,fun b hb=>⟨aiX (hfz b hb) hb'.size,.inl hb⟩,hb'.size,fun b hb _=>hb'.block b hb,⟨hb'.os,hb'.output⟩,pO,pO,by simp,fun b hb=>by simp at hb⟩
def jl : List (FuncId × (List AV → Option (List AV × List AV))) → Env
 | []=>fun _ _=>none
 | (k,g) :: l=>fun f d9=>if k = f then g d9 else jl l f d9
theorem sU : ∀ {l:List (FuncId × (List AV → Option (List AV × List AV)))},(∀ p ∈ l,Sat P p.1 p.2) → gW P (jl l)
 | [],_=>fun f d9 rs pq h=>by cases h
 | (k,g) :: l,h=>fun f d9 rs pq he=>by
  unfold jl at he
  split at he
  ·rename_i e;subst e;exact h (k,g) (by simp) d9 rs pq he
  ·exact sU (fun p hp=>h p (ajd _ hp)) f d9 rs pq he
theorem oh : ∀ {l:List (FuncId × (List AV → Option (List AV × List AV)))},(∀ p ∈ l,∃ fn,P.funcs[p.1]? = some fn ∧ (fn.name == "runtime.NumGoroutine") = false ∧ fn.body.isSome = true) → dI P (jl l)
 | [],_=>fun f d9 r h=>by cases h
 | (k,g) :: l,h=>fun f d9 r he=>by
  unfold jl at he
  split at he
  ·rename_i e;subst e;exact h (k,g) (by simp)
  ·exact oh (fun p hp=>h p (ajd _ hp)) f d9 r he
end
end
section
open Go
def TI (n:Nat) (ks:List Nat):Nat → Bool:=fun d=>decide (d < n) && !ks.contains d
noncomputable def MN (Γ:Env) (F:Nat) (ca cb:CC) (s:Nat) (D:St → Option St) (cf:CF) (d9:List AV):Option (List AV × List AV) :=
 if d9.length ≠ cf.np then none else (enter cf.bo 0 [] ⟨[],[]⟩ d9).bind fun e=>(ev Γ F ca e.2).bind fun p=>match p.1 with
  | .iV=>(ev Γ F cb ⟨put p.2.tm s (.c (.one .any)),p.2.ob⟩).bind fun q=>match q.1 with
   | .ext _=>none
   | _=>(D q.2).bind fun t=>(jV t e.1 d9).bind fun b=>(slots b.2 cf.res).bind fun l=>(l7 cf.ro b.2 l).map fun r=>(r.1,b.1)
  | _=>none
section
variable {P : Program} {Γ:Env} {aY Fz bA:Nat → Prop} {w0 w w':World} {aX bs:List Nat} {N:Fr} {F:Nat} {κ iJ:Nat → Value} {σ fG σ':St} {a:Act} {X:Hx}
theorem Ok.reN (h:Ok aY w0 aX N iJ σ a w) (N':Fr) (hn:N'.n = N.n) (hfs:∀ d,N'.ok d = false → a.tmps.getD d undef = N'.vs d):Ok aY w0 aX N' iJ σ { a with defers:=N'.ds } w:=by
 obtain ⟨Fz,κ,h,hk⟩:=h
 exact ⟨Fz,κ,⟨h.tm,h.sz.trans hn.symm,rfl,hfs,h.ob,h.uE,h.pos,h.fz,h.zh,h.big,h.ext,h.kp⟩,hk⟩
theorem F9 (hm:P.follows .mixedOrders = true) (heq:∀ t ∈ X.eqs,lg P t) (kJ:gW P Γ) (hC:dI P Γ) {f g:FuncId} {fn gn:Func} {a1 a2 r:Code} {id s c1 c2 t1 t2:Nat} {p1 p2:String} {FX FY:Array Edge} (hf:P.funcs[f]? = some fn)
  (hb:fn.body = some (.seq a1 (.seq a2 (.seq (.region id #[{ dst:=some s,op:=.makeFunc (.func g) #[] #[.tmp c1,.tmp c2],type:=t1,pos:=p1,after:=FX,guard:=none },{ dst:=none,op:=.defer { callee:=.value (.tmp s),args:=#[],argTypes:=#[] },type:=t2,pos:=p2,after:=FY,guard:=none }] false) r))))
  (hg:P.funcs[g]? = some gn) (hgn:(gn.name == "runtime.NumGoroutine") = false) (hgb:gn.body.isSome = true) {cf:CF} {ca cb:CC} {ha hb' ra rb:List Hi}
  (hca:comp P X (Bv fn.ntmps) (.seq a1 a2) ha = some (ca,ra)) (hcb:comp P X (TI fn.ntmps [c1,c2]) r hb' = some (cb,rb)) (hr:mZ P fn.results.toList = some cf.res) (hnp:cf.np ≤ fn.ntmps) (hs:s < fn.ntmps) (hs1:c1 ≠ s) (hs2:c2 ≠ s) {D:St → Option St}
  (hD:∀ (aY:Nat → Prop) (w0:World) (aX:List Nat) (N:Fr) (iJ:Nat → Value) (σ σ':St) (a:Act) (w:World),Ok aY w0 aX N iJ σ a w → D σ = some σ' → CallsD P g #[a.tmps.getD c1 undef,a.tmps.getD c2 undef] .returning w fun e u w'=>u = .returning ∧ (∃ v,e = .returned v) ∧ Ok aY w0 aX N iJ σ' a w')
  (F:Nat):Sat P f (MN Γ F ca cb s D cf):=by
 intro d9 rs pq hE Fz w vals bs Xu hnd hap hfz
 unfold MN at hE
 split at hE
 ·cases hE
 rename_i hlen
 have hlen':d9.length = cf.np:=ai3.mp hlen
 have hvl:vals.length = d9.length:=Xu.len
 obtain ⟨e,h1,hE⟩:=zbm hE
 obtain ⟨p,h2,hE⟩:=zbm hE
 refine calls_of_wp_defers hf hb ?_
 have hsz:(vals.toArray ++ Array.replicate (fn.ntmps - vals.toArray.size) undef).size = fn.ntmps:=by simp;omega
 obtain ⟨iJ,hok,g2⟩:=entered (bo:=cf.bo) Xu hnd hap hfz hsz h1
 cases hp:p.1 with
 | ext i=>rw [hp] at hE;cases hE
 | ret=>rw [hp] at hE;cases hE
 | iV =>
 rw [hp] at hE
 obtain ⟨q,h3,hEq⟩:=zbm hE
 obtain ⟨x1,hx1,hx2⟩:=zbm hca
 obtain ⟨x2,hx3,hx4⟩:=zmm hx2
 cases hx4
 obtain ⟨y1,hy1,hy2⟩:=zbm h2
 have hyn:y1.1 = .iV ∧ ev Γ F x2.1 y1.2 = some p:=by
  cases hy:y1.1 with
  | iV=>rw [hy] at hy2;exact ⟨rfl,hy2⟩
  | ext i=>rw [hy] at hy2;cases hy2;cases hp
  | ret=>rw [hy] at hy2;cases hy2;cases hp
 obtain ⟨hy3,hy4⟩:=hyn
 refine wp_seq (DX hm heq kJ hC a1 hx1 hok hy1 fun b1 u1 k1=>?_)
 rw [hy3]
 refine wp_seq (DX hm heq kJ hC a2 hx3 k1 hy4 fun b2 u2 k2=>?_)
 rw [hp]
 refine wp_seq ?_
 have hmk:∀ v1 v2:Value,(Instr.makeFunc (.func g) #[] #[v1,v2]).run P u2 = .ok (.func (.func g) #[] #[v1,v2]) u2:=fun _ _=>rfl
 obtain ⟨v1,hv1⟩:∃ v,v = b2.tmps.getD c1 undef:=⟨_,rfl⟩
 obtain ⟨v2,hv2⟩:∃ v,v = b2.tmps.getD c2 undef:=⟨_,rfl⟩
 obtain ⟨b3,hb3⟩:∃ b,b = b2.put (some s) (.func (.func g) #[] #[v1,v2]):=⟨_,rfl⟩
 have hdef:b2.defers = []:=by obtain ⟨_,_,hr2,_⟩:=k2;exact hr2.lV
 have hsz2:b2.tmps.size = fn.ntmps:=by obtain ⟨_,_,hr2,_⟩:=k2;exact hr2.sz
 have hk3:Ok Fz w bs (Fr.of fn.ntmps) iJ ⟨put p.2.tm s (.c (.one .any)),p.2.ob⟩ b3 u2:=by
  obtain ⟨F2,Fx,hr2,hk2⟩:=k2
  rw [hb3]
  exact ⟨F2,Fx,hr2.put (by simpa [Fr.of,Bv] using hs) (pv:=.c (.one .any)) trivial,hk2⟩
 have hts:∀ d,d ≠ s → b3.tmps.getD d undef = b2.tmps.getD d undef:=fun d hd=>by
  rw [hb3]
  simp only [Act.put,ai5,ajq]
  rw [ain (fun e=>hd e.symm)]
 obtain ⟨N1,hN1⟩:∃ N:Fr,N = ⟨fn.ntmps,[{ target:=.fn (.func g) #[v1,v2],args:=#[] }],TI fn.ntmps [c1,c2],fun d h=>by simp [TI] at h;omega,fun d=>b3.tmps.getD d undef⟩:=⟨_,rfl⟩
 have hk4:=hk3.reN N1 (by rw [hN1];rfl) (fun d _=>by rw [hN1])
 refine wp_region_lit (l:=[_,_]) ?_
 unfold wpList
 rw [ail (show Region.wanted _ _ = true from rfl)]
 left
 have r1:(execOp b2.eval { dst:=some s,op:=.makeFunc (.func g) #[] #[.tmp c1,.tmp c2],type:=t1,pos:=p1,after:=FX,guard:=none }).run P u2 = .ok (.value (.func (.func g) #[] #[v1,v2])) u2:=by
  unfold execOp
  simp [Act.eval,hmk,← hv1,← hv2]
 unfold Oper.wp
 rw [r1]
 show wpList P _ _ _ (b2.put (some s) _) u2
 rw [← hb3]
 unfold wpList
 rw [ail (show Region.wanted _ _ = true from rfl)]
 left
 have r2:(execOp b3.eval { dst:=none,op:=.defer { callee:=.value (.tmp s),args:=#[],argTypes:=#[] },type:=t2,pos:=p2,after:=FY,guard:=none }).run P u2 = .ok (.defer { target:=.fn (.func g) #[v1,v2],args:=#[] }) u2:=by
  have hvs:b3.eval (.tmp s) = .func (.func g) #[] #[v1,v2]:=by
   rw [hb3]
   simp only [Act.eval,Act.put,ai5,ajq]
   rw [ail trivial,ail (by rw [hsz2];exact hs)]
   rfl
  unfold execOp resolve
  simp only [hvs]
  simp [Deferred.ofValue]
 unfold Oper.wp
 rw [r2]
 show wpList P _ _ _ { b3 with defers:={ target:=.fn (.func g) #[v1,v2],args:=#[] } :: b3.defers } u2
 unfold wpList
 show r.wp P _ _ _
 have hd3:b3.defers = []:=by rw [hb3];exact hdef
 rw [hd3]
 rw [hN1] at hk4
 refine DX hm heq kJ hC r hcb hk4 h3 fun b4 u4 k4=>?_
 have hkeep:∀ d,(d = c1 ∨ d = c2) → b4.tmps.getD d undef = b3.tmps.getD d undef:=fun d hd=>by
  obtain ⟨_,_,hr4,_⟩:=k4
  exact hr4.fs d (by simp [TI];rcases hd with rfl | rfl <;> simp)
 have hds:b4.defers = [{ target:=.fn (.func g) #[v1,v2],args:=#[] }]:=by obtain ⟨_,_,hr4,_⟩:=k4;exact hr4.lV
 have fin:(∃ t,D q.2 = some t ∧ ((jV t e.1 d9).bind fun b=>(slots b.2 cf.res).bind fun l=>(l7 cf.ro b.2 l).map fun r=>(r.1,b.1)) = some (rs,pq)) → Leaves P fn b4.tmps (fun e w'=>∃ bA sN b1 b2,e = .returned (ret sN) ∧ Post Fz w vals bs rs pq bA w' sN b1 b2) b4.defers .returning u4:=by
  rintro ⟨t,d1,d2⟩
  rw [hds]
  refine leaves_cons (f:=g) (args:=#[v1,v2]) (by simp) ?_ ?_
  ·show (callFunc g (#[] ++ #[v1,v2])).run P u4 = _
   rw [oI hg hgn hgb]
   simp
  ·have hcd:=hD Fz w bs _ iJ q.2 t b4 u4 k4 d1
   rw [hkeep c1 (.inl rfl),hkeep c2 (.inr rfl),hts c1 hs1,hts c2 hs2,← hv1,← hv2] at hcd
   refine hcd.mono ?_
   rintro e' u' w' ⟨rfl,⟨v,rfl⟩,k5⟩
   show Leaves P fn b4.tmps _ [] (settle .returning) w'
   obtain ⟨_,v',g3,g4⟩:=LU hr Xu hap hfz g2 b4 w' k5 d2
   exact ⟨v',g3,g4⟩
 cases hq:q.1 with
 | ext i=>rw [hq] at hEq;cases hEq
 | iV =>
  rw [hq] at hEq
  obtain ⟨t,d1,d2⟩:=zbm hEq
  exact fin ⟨t,d1,d2⟩
 | ret =>
  rw [hq] at hEq
  obtain ⟨t,d1,d2⟩:=zbm hEq
  exact fin ⟨t,d1,d2⟩
noncomputable def Dcl (Γ:Env) (F:Nat) (cc:CC) (c1 c2:Nat) (σ:St):Option St:=match get σ.tm c1,get σ.tm c2 with
 | some x,some y=>(ev Γ F cc ⟨[(0,x),(1,y)],σ.ob⟩).bind fun p=>match p.1 with
  | .ext _=>none
  | _=>(get p.2.tm 0).map fun z=>⟨[(c1,z)],p.2.ob⟩
 | _,_=>none
theorem V8 (hm:P.follows .mixedOrders = true) (heq:∀ t ∈ X.eqs,lg P t) (kJ:gW P Γ) (hC:dI P Γ) {g:FuncId} {gn:Func} {c:Code} {cc:CC} {h1 h2:List Hi} {c1 c2:Nat} (hg:P.funcs[g]? = some gn) (hb:gn.body = some c) (hc:comp P X (TI gn.ntmps [0]) c h1 = some (cc,h2)) (hr:gn.results = #[]) (hn:2 ≤ gn.ntmps) (F:Nat)
  (aY:Nat → Prop) (w0:World) (aX:List Nat) (N:Fr) (iJ:Nat → Value) (σ σ':St) (a:Act) (w:World) (hO:Ok aY w0 aX N iJ σ a w) (hd:Dcl Γ F cc c1 c2 σ = some σ') :
  CallsD P g #[a.tmps.getD c1 undef,a.tmps.getD c2 undef] .returning w fun e u w'=>u = .returning ∧ (∃ v,e = .returned v) ∧ Ok aY w0 aX N iJ σ' a w':=by
 unfold Dcl at hd
 split at hd
 ·rename_i x y hx hy
  obtain ⟨p,h3,hd⟩:=zbm hd
  obtain ⟨b0,hb0⟩:∃ b:Act,b = { tmps:=#[a.tmps.getD c1 undef,a.tmps.getD c2 undef] ++ Array.replicate (gn.ntmps - 2) undef,defers:=[] }:=⟨_,rfl⟩
  have e0:b0.tmps.getD 0 undef = a.tmps.getD c1 undef:=by rw [hb0];simp [ai5,Array.getElem?_append]
  have e1:b0.tmps.getD 1 undef = a.tmps.getD c2 undef:=by rw [hb0];simp [ai5,Array.getElem?_append]
  obtain ⟨N',hN'⟩:∃ N:Fr,N = ⟨gn.ntmps,[],TI gn.ntmps [0],fun d h=>by simp [TI] at h;omega,fun d=>b0.tmps.getD d undef⟩:=⟨_,rfl⟩
  have Cc:Ok aY w0 aX N' iJ ⟨[(0,x),(1,y)],σ.ob⟩ b0 w:=by
   obtain ⟨Fz,κ,hr,hk⟩:=hO
   refine ⟨Fz,κ,⟨fun p hp=>?_,by rw [hb0,hN'];simp;omega,by rw [hb0,hN'],fun d _=>by rw [hN'],hr.ob,hr.uE,hr.pos,hr.fz,hr.zh,hr.big,hr.ext,hr.kp⟩,hk⟩
   simp only [aiD,aj1,or_false] at hp
   rcases hp with rfl | rfl
   ·rw [e0];exact hr.val hx
   ·rw [e1];exact hr.val hy
  have main:∀ b u,Ok aY w0 aX N' iJ p.2 b u → (∃ z,get p.2.tm 0 = some z ∧ σ' = ⟨[(c1,z)],p.2.ob⟩) → b.defers = [] ∧ ∃ v,(results gn b.tmps).run P u = .ok v u ∧ (∃ v',Ending.returned v = .returned v') ∧ Ok aY w0 aX N iJ σ' a u:=by
   rintro b u ⟨Fz,κ,hr2,hk2⟩ ⟨z,hz,rfl⟩
   refine ⟨by have:=hr2.lV;rw [this,hN'],.tuple #[],?_,⟨_,rfl⟩,?_⟩
   ·unfold results
    rw [hr]
    simp
   ·obtain ⟨_,_,hr,_⟩:=hO
    refine ⟨Fz,κ,⟨fun p hp=>?_,hr.sz,hr.lV,hr.fs,hr2.ob,hr2.uE,hr2.pos,hr2.fz,hr2.zh,hr2.big,hr2.ext,hr2.kp⟩,hk2⟩
    simp only [aiD,aj1,or_false] at hp
    subst hp
    have h5:b.tmps.getD 0 undef = N'.vs 0:=hr2.fs 0 (by rw [hN'];simp [TI])
    have h6:N'.vs 0 = a.tmps.getD c1 undef:=by rw [hN'];exact e0
    show iC Fz κ u z (a.tmps.getD c1 undef)
    rw [← h6,← h5]
    exact hr2.val hz
  refine callsD_of_wp hg hb ?_
  have hst:({ tmps:=#[a.tmps.getD c1 undef,a.tmps.getD c2 undef] ++ Array.replicate (gn.ntmps - (#[a.tmps.getD c1 undef,a.tmps.getD c2 undef]:Array Value).size) undef,defers:=[] }:Act) = b0:=by rw [hb0];rfl
  rw [hst]
  rw [hN'] at Cc
  refine DX hm heq kJ hC c hc Cc h3 fun b u hk=>?_
  rw [← hN'] at hk
  cases hp:p.1 with
  | ext i=>rw [hp] at hd;cases hd
  | iV =>
   rw [hp] at hd
   obtain ⟨z,hz,rfl⟩:=zmm hd
   exact main b u hk ⟨z,hz,rfl⟩
  | ret =>
   rw [hp] at hd
   obtain ⟨z,hz,rfl⟩:=zmm hd
   exact main b u hk ⟨z,hz,rfl⟩
 ·cases hd
end
end
end Go.Proofs.YtfokaoeinpnagaaGreat.Ev

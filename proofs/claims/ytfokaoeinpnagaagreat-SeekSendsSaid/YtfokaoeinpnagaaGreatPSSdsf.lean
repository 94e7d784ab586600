/- A part of the proof of SeekSends: cut, joined and given short names by a program of this session (wip/tools/pack.py); Lean checks it. No condition. -/
import Derived.Test.YtfokaoeinpnagaaGreatPSSdse
import Derived.Orders
import Derived.OrdersHeld
import Derived.Scope
import Derived.Test.YtfokaoeinpnagaaGreatPSSdsd
import Derived.Laws.StructEq
import Derived.Below
import Derived.Defers
set_option linter.unusedSectionVars false
set_option linter.unusedSimpArgs false
set_option linter.unusedVariables false
set_option maxHeartbeats 16000000
set_option maxRecDepth 100000
namespace Go.Proofs.YtfokaoeinpnagaaGreat.Ev
section
open Go
section
variable {Γ : Env} {d:Nat} {σ σ2 σ':St} {pv:PV}
theorem Gx {l:List CV}:∀ {caps:List (List FV)} {τ:St},lY true σ l = some (caps,τ) → τ = σ ∧ lY true σ2 l = some (caps,σ2):=by
 induction l with
 | nil=>intro caps τ h;simp only [lY] at h;cases h;exact ⟨rfl,by simp only [lY]⟩
 | cons y l ih =>
  intro caps τ h
  have one:∀ cs,y = .one (.fp cs) → τ = σ ∧ lY true σ2 (y :: l) = some (caps,σ2):=by
   intro cs hy
   subst hy
   simp only [lY] at h ⊢
   obtain ⟨r,g1,g2⟩:=zmm h
   cases g2
   obtain ⟨e1,e2⟩:=ih g1
   exact ⟨e1,by rw [e2];rfl⟩
  cases y with
  | one x =>
   cases x with
   | fp cs=>exact one cs rfl
   | ptr k o=>cases o <;> simp [lY] at h
   | _=>simp [lY] at h
  | agg xs=>simp [lY] at h
theorem Qu {i:I} (hi:Qt i = true) (hs:Same (nJ i) σ σ2) (ho:∀ k o,get σ.ob k = some o → get σ2.ob k = some o) (hE:bZ Γ true σ d i = some (pv,σ')):σ' = σ ∧ bZ Γ true σ2 d i = some (pv,σ2):=by
 cases i with
 | alloc e z=>cases hi
 | box e x=>cases hi
 | zN e sz len z ps=>cases hi
 | PU e sz len z ps=>cases hi
 | zQ f xs=>cases hi
 | store n x v=>cases hi
 | pQ sh=>cases hi
 | xE sh x k v=>cases hi
 | del sh x k=>cases hi
 | app e sz b x y=>cases hi
 | mv x =>
  simp only [nJ] at hs
  simp only [bZ] at hE ⊢
  rw [hs.sP]
  obtain ⟨v,h1,h2⟩:=zmm hE
  cases h2
  rw [h1];simp only [Option.map_some];exact ⟨trivial,trivial⟩
 | pick c x y =>
  simp only [nJ] at hs
  simp only [bZ] at hE ⊢
  obtain ⟨v,h1,h2⟩:=zbm hE
  obtain ⟨t,h3,h4⟩:=zbm h2
  obtain ⟨u,h5,h6⟩:=zmm h4
  cases h6
  rw [hs.l.l.val,h1]
  simp only [Option.bind_some,h3]
  have:Ev.val σ2 (if t then x else y) = Ev.val σ (if t then x else y):=by
   cases t
   ·exact hs.r.val
   ·exact hs.l.r.val
  rw [this,h5];exact ⟨trivial,rfl⟩
 | build z ps =>
  simp only [nJ] at hs
  simp only [bZ] at hE ⊢
  obtain ⟨v,h1,h2⟩:=zbm hE
  obtain ⟨u,h3,h4⟩:=zmm h2
  cases h4
  rw [hs.vals,h1]
  simp only [Option.bind_some,h3,Option.map_some]
  exact ⟨trivial,trivial⟩
 | load n g x =>
  simp only [nJ] at hs
  simp only [bZ] at hE ⊢
  obtain ⟨v,h1,h2⟩:=zbm hE
  rw [hs.val,h1]
  simp only [Option.bind_some]
  split at h2
  ·split at h2
   ·rename_i fV
    obtain ⟨l,h3,h4⟩:=zbm h2
    obtain ⟨u,h5,h6⟩:=zmm h4
    cases h6
    simp only [ho _ _ fV,h3,Option.bind_some,h5,Option.map_some]
    exact ⟨trivial,trivial⟩
   ·cases h2
  ·obtain ⟨l,h3,h4⟩:=zbm h2
   obtain ⟨u,h5,h6⟩:=zmm h4
   cases h6
   simp only [h3,Option.bind_some,h5,Option.map_some]
   exact ⟨trivial,trivial⟩
  ·split at h2
   ·rename_i fV
    split at h2
    ·cases h2
    ·rename_i hz
     obtain ⟨r,h7,h8⟩:=zbm h2
     obtain ⟨l,h3,h4⟩:=zbm h8
     obtain ⟨u,h5,h6⟩:=zmm h4
     cases h6
     simp only [ho _ _ fV,aje hz,h7,h3,Option.bind_some,h5,Option.map_some]
     exact ⟨trivial,trivial⟩
   ·cases h2
  ·cases h2
 | gY x =>
  simp only [nJ] at hs
  simp only [bZ] at hE ⊢
  obtain ⟨v,h1,h2⟩:=zbm hE
  rw [hs.val,h1]
  simp only [Option.bind_some]
  split at h2 <;> cases h2 <;> exact ⟨rfl,rfl⟩
 | xD neg x =>
  simp only [nJ] at hs
  simp only [bZ] at hE ⊢
  obtain ⟨v,h1,h2⟩:=zbm hE
  rw [hs.val,h1]
  simp only [Option.bind_some]
  split at h2 <;> cases h2 <;> exact ⟨rfl,rfl⟩
 | ar o x y =>
  simp only [nJ] at hs
  simp only [bZ] at hE ⊢
  obtain ⟨u,h1,hE⟩:=zbm hE
  obtain ⟨v,h2,hE⟩:=zbm hE
  obtain ⟨m,h3,hE⟩:=zbm hE
  obtain ⟨n,h4,hE⟩:=zbm hE
  split at hE
  ·rename_i hk
   obtain ⟨r,h5,hE⟩:=zbm hE
   cases hE
   rw [hs.l.val,hs.r.val]
   simp only [h1,h2,h3,h4,h5,Option.bind_some,ajd hk,one]
   exact ⟨trivial,trivial⟩
  ·cases hE
 | cmp o x y =>
  simp only [nJ] at hs
  simp only [bZ] at hE ⊢
  obtain ⟨u,h1,hE⟩:=zbm hE
  obtain ⟨v,h2,hE⟩:=zbm hE
  obtain ⟨m,h3,hE⟩:=zbm hE
  obtain ⟨n,h4,hE⟩:=zbm hE
  split at hE
  ·rename_i hk
   cases hE
   rw [hs.l.val,hs.r.val]
   simp only [h1,h2,h3,h4,Option.bind_some,ajd hk,one]
   exact ⟨trivial,trivial⟩
  ·cases hE
 | sG sh neg x y =>
  simp only [nJ] at hs
  simp only [bZ] at hE ⊢
  obtain ⟨u,h1,hE⟩:=zbm hE
  obtain ⟨v,h2,hE⟩:=zbm hE
  obtain ⟨m,h3,hE⟩:=zbm hE
  obtain ⟨n,h4,hE⟩:=zbm hE
  split at hE
  ·rename_i hk
   cases hE
   rw [hs.l.val,hs.r.val]
   simp only [h1,h2,h3,h4,Option.bind_some,ajd hk,one]
   exact ⟨trivial,trivial⟩
  ·cases hE
 | cat x y =>
  simp only [nJ] at hs
  simp only [bZ] at hE ⊢
  obtain ⟨u,h1,hE⟩:=zbm hE
  obtain ⟨v,h2,hE⟩:=zbm hE
  rw [hs.l.val,hs.r.val]
  simp only [h1,h2,Option.bind_some]
  split at hE
  ·split at hE
   ·rename_i hk;cases hE;simp only [ajd hk,one];exact ⟨trivial,trivial⟩
   ·cases hE
  ·cases hE
 | no x =>
  simp only [nJ] at hs
  simp only [bZ] at hE ⊢
  obtain ⟨u,h1,hE⟩:=zbm hE
  obtain ⟨v,h2,hE⟩:=zbm hE
  cases hE
  rw [hs.val]
  simp only [h1,h2,Option.bind_some,one]
  exact ⟨trivial,trivial⟩
 | ci k x =>
  simp only [nJ] at hs
  simp only [bZ] at hE ⊢
  obtain ⟨u,h1,hE⟩:=zbm hE
  obtain ⟨v,h2,hE⟩:=zbm hE
  cases hE
  rw [hs.val]
  simp only [h1,h2,Option.bind_some,one]
  exact ⟨trivial,trivial⟩
 | nA x =>
  simp only [nJ] at hs
  simp only [bZ] at hE ⊢
  obtain ⟨u,h1,hE⟩:=zbm hE
  rw [hs.val,h1]
  simp only [Option.bind_some]
  split at hE
  ·cases hE;exact ⟨rfl,rfl⟩
  ·cases hE
 | JW x lo hi =>
  simp only [nJ] at hs
  simp only [bZ] at hE ⊢
  obtain ⟨u,h1,hE⟩:=zbm hE
  rw [hs.l.l.val,h1]
  simp only [Option.bind_some]
  split at hE
  ·obtain ⟨p,h2,hE⟩:=zbm hE
   cases hE
   rw [Same.rng hs.l.r hs.r,h2]
   exact ⟨rfl,rfl⟩
  ·cases hE
 | cut sz x lo hi =>
  simp only [nJ] at hs
  simp only [bZ] at hE ⊢
  obtain ⟨u,h1,hE⟩:=zbm hE
  rw [hs.l.l.val,h1]
  simp only [Option.bind_some]
  split at hE
  ·split at hE
   ·cases hE
   ·rename_i hz
    obtain ⟨p,h2,hE⟩:=zbm hE
    cases hE
    rw [aje hz,Same.rng hs.l.r hs.r,h2]
    exact ⟨rfl,rfl⟩
  ·obtain ⟨p,h2,hE⟩:=zbm hE
   cases hE
   rw [Same.rng hs.l.r hs.r,h2]
   exact ⟨rfl,rfl⟩
  ·split at hE
   ·split at hE
    ·cases hE
    ·obtain ⟨p,h2,hE⟩:=zbm hE
     rw [ajd trivial] at hE
     cases hE
   ·cases hE
  ·cases hE
 | fa off x =>
  simp only [nJ] at hs
  simp only [bZ] at hE ⊢
  obtain ⟨v,h1,h2⟩:=zbm hE
  rw [hs.val,h1]
  simp only [Option.bind_some]
  split at h2 <;> cases h2 <;> exact ⟨rfl,rfl⟩
 | Yg off n g x =>
  simp only [nJ] at hs
  simp only [bZ] at hE ⊢
  obtain ⟨v,h1,h2⟩:=zbm hE
  rw [hs.val,h1]
  simp only [Option.bind_some]
  split at h2
  ·obtain ⟨l,h3,h4⟩:=zbm h2
   obtain ⟨u,h5,h6⟩:=zmm h4
   cases h6
   simp only [h3,Option.bind_some,h5,Option.map_some]
   exact ⟨trivial,trivial⟩
  ·cases h2
 | ia sz x i =>
  simp only [nJ] at hs
  simp only [bZ] at hE ⊢
  obtain ⟨v,h1,hE⟩:=zbm hE
  obtain ⟨j,h2,hE⟩:=zbm hE
  obtain ⟨p,h3,hE⟩:=zbm hE
  rw [hs.l.val,hs.r.val]
  simp only [h1,h2,h3,Option.bind_some]
  split at hE
  ·rename_i h0
   rw [ajd h0]
   split at hE
   ·obtain ⟨r,h4,hE⟩:=zbm hE
    split at hE
    ·rename_i hk;cases hE;simp only [h4,Option.bind_some,ajd hk];exact ⟨trivial,trivial⟩
    ·cases hE
   ·split at hE
    ·rename_i fV
     split at hE
     ·rename_i hk;cases hE;simp only [ho _ _ fV,ajd hk];exact ⟨trivial,trivial⟩
     ·cases hE
    ·cases hE
   ·cases hE
  ·cases hE
 | idx sz len g x i =>
  simp only [nJ] at hs
  simp only [bZ] at hE ⊢
  obtain ⟨v,h1,hE⟩:=zbm hE
  obtain ⟨j,h2,hE⟩:=zbm hE
  obtain ⟨p,h3,hE⟩:=zbm hE
  rw [hs.l.val,hs.r.val]
  simp only [h1,h2,h3,Option.bind_some]
  split at hE
  ·rename_i h0
   rw [ajd h0]
   split at hE
   ·obtain ⟨l,h4,hE⟩:=zbm hE
    obtain ⟨u,h5,h6⟩:=zmm hE
    cases h6
    simp only [h4,Option.bind_some,h5,Option.map_some]
    exact ⟨trivial,trivial⟩
   ·cases hE
  ·cases hE
 | chr x i =>
  simp only [nJ] at hs
  simp only [bZ] at hE ⊢
  obtain ⟨v,h1,hE⟩:=zbm hE
  obtain ⟨j,h2,hE⟩:=zbm hE
  obtain ⟨p,h3,hE⟩:=zbm hE
  rw [hs.l.val,hs.r.val]
  simp only [h1,h2,h3,Option.bind_some]
  split at hE
  ·split at hE
   ·rename_i h0
    obtain ⟨b,h4,hE⟩:=zbm hE
    cases hE
    simp only [ajd h0,h4,Option.bind_some,one]
    exact ⟨trivial,trivial⟩
   ·cases hE
  ·cases hE
 | look sh z ok x k =>
  simp only [nJ] at hs
  simp only [bZ] at hE ⊢
  obtain ⟨v,h1,hE⟩:=zbm hE
  obtain ⟨u,h2,hE⟩:=zbm hE
  obtain ⟨b,h3,hE⟩:=zbm hE
  rw [hs.l.val,hs.r.val]
  simp only [h1,h2,h3,Option.bind_some]
  split at hE
  ·cases hE
  ·rename_i hsh
   rw [aje hsh]
   obtain ⟨r,h4,h5⟩:=zmm hE
   cases h5
   split at h4
   ·cases h4;exact ⟨rfl,rfl⟩
   ·split at h4
    ·rename_i fV
     split at h4
     ·rename_i hk;cases h4;simp only [ho _ _ fV,ajd hk,Option.map_some];exact ⟨trivial,trivial⟩
     ·cases h4
    ·cases h4
   ·cases h4
 | ext x i =>
  simp only [nJ] at hs
  simp only [bZ] at hE ⊢
  rw [hs.sP]
  split at hE
  ·rename_i l hl
   obtain ⟨v,h1,h2⟩:=zmm hE
   cases h2
   simp only [h1,Option.map_some]
   exact ⟨trivial,trivial⟩
  ·cases hE
 | xG x =>
  simp only [nJ] at hs
  simp only [bZ] at hE ⊢
  obtain ⟨v,h1,h2⟩:=zbm hE
  rw [hs.val,h1]
  simp only [Option.bind_some]
  split at h2 <;> cases h2 <;> exact ⟨rfl,rfl⟩
 | iJ x =>
  simp only [nJ] at hs
  simp only [bZ] at hE ⊢
  obtain ⟨v,h1,h2⟩:=zbm hE
  rw [hs.val,h1]
  simp only [Option.bind_some]
  split at h2 <;> cases h2 <;> exact ⟨rfl,rfl⟩
 | JX x =>
  simp only [nJ] at hs
  simp only [bZ] at hE ⊢
  obtain ⟨v,h1,h2⟩:=zbm hE
  rw [hs.val,h1]
  simp only [Option.bind_some]
  split at h2
  ·cases h2;exact ⟨rfl,rfl⟩
  ·split at h2
   ·rename_i fV;cases h2;simp only [ho _ _ fV,one];exact ⟨trivial,trivial⟩
   ·cases h2
  ·cases h2
 | mn x y =>
  simp only [nJ] at hs
  simp only [bZ] at hE ⊢
  obtain ⟨u,h1,hE⟩:=zbm hE
  obtain ⟨v,h2,hE⟩:=zbm hE
  obtain ⟨m,h3,hE⟩:=zbm hE
  obtain ⟨n,h4,hE⟩:=zbm hE
  rw [hs.l.val,hs.r.val]
  simp only [h1,h2,h3,h4,Option.bind_some]
  split at hE
  ·rename_i hk;cases hE;rw [ajd hk];exact ⟨rfl,rfl⟩
  ·cases hE
 | mx x y =>
  simp only [nJ] at hs
  simp only [bZ] at hE ⊢
  obtain ⟨u,h1,hE⟩:=zbm hE
  obtain ⟨v,h2,hE⟩:=zbm hE
  obtain ⟨m,h3,hE⟩:=zbm hE
  obtain ⟨n,h4,hE⟩:=zbm hE
  rw [hs.l.val,hs.r.val]
  simp only [h1,h2,h3,h4,Option.bind_some]
  split at hE
  ·rename_i hk;cases hE;rw [ajd hk];exact ⟨rfl,rfl⟩
  ·cases hE
 | TI sz z x=>cases hi
 | call gv f xs =>
  simp only [nJ] at hs
  simp only [bZ] at hE ⊢
  obtain ⟨l,h1,hE⟩:=zbm hE
  rw [hs.jv,h1]
  simp only [Option.bind_some]
  exact yw ho hE
 | dyn x xs =>
  simp only [nJ] at hs
  simp only [bZ] at hE ⊢
  obtain ⟨v,h0,hE⟩:=zbm hE
  rw [hs.l.val,h0]
  simp only [Option.bind_some]
  split at hE
  ·obtain ⟨l,h1,hE⟩:=zbm hE
   simp only [hs.r.jv,h1,Option.bind_some]
   exact yw ho hE
  ·cases hE
 | P9 f xs =>
  simp only [nJ] at hs
  simp only [bZ] at hE ⊢
  obtain ⟨l,h1,hE⟩:=zbm hE
  rw [hs.jv,h1]
  simp only [Option.bind_some]
  obtain ⟨p,h2,h3⟩:=zmm hE
  cases h3
  obtain ⟨e1,e2⟩:=Gx (σ2:=σ2) h2
  rw [e2]
  exact ⟨e1,rfl⟩
 | zR neg x =>
  simp only [nJ] at hs
  simp only [bZ] at hE ⊢
  obtain ⟨v,h1,h2⟩:=zbm hE
  rw [hs.val,h1]
  simp only [Option.bind_some]
  split at h2 <;> cases h2 <;> exact ⟨rfl,rfl⟩
 | bit o x y =>
  simp only [nJ] at hs
  simp only [bZ] at hE ⊢
  obtain ⟨u,h1,hE⟩:=zbm hE
  obtain ⟨v,h2,hE⟩:=zbm hE
  obtain ⟨m,h3,hE⟩:=zbm hE
  obtain ⟨n,h4,hE⟩:=zbm hE
  rw [hs.l.val,hs.r.val]
  simp only [h1,h2,h3,h4,Option.bind_some]
  split at hE
  ·rename_i hk;cases hE;rw [ajd hk];exact ⟨rfl,rfl⟩
  ·cases hE
 | Vi o x y =>
  simp only [nJ] at hs
  simp only [bZ] at hE ⊢
  obtain ⟨u,h1,hE⟩:=zbm hE
  obtain ⟨v,h2,hE⟩:=zbm hE
  obtain ⟨m,h3,hE⟩:=zbm hE
  obtain ⟨n,h4,hE⟩:=zbm hE
  rw [hs.l.val,hs.r.val]
  simp only [h1,h2,h3,h4,Option.bind_some]
  split at hE
  ·rename_i hk;cases hE;rw [ajd hk];exact ⟨rfl,rfl⟩
  ·cases hE
 | D7 sz x y=>simp [bZ] at hE
 | cutV sz x y =>
  simp only [nJ] at hs
  simp only [bZ] at hE ⊢
  obtain ⟨v,h1,hE⟩:=zbm hE
  obtain ⟨j,h2,hE⟩:=zbm hE
  obtain ⟨p,h3,hE⟩:=zbm hE
  rw [hs.l.val,hs.r.val]
  simp only [h1,h2,h3,Option.bind_some]
  split at hE
  ·split at hE
   ·rename_i fV
    split at hE
    ·rename_i hk;cases hE;simp only [ho _ _ fV,ajd hk];exact ⟨trivial,trivial⟩
    ·cases hE
   ·cases hE
  ·cases hE
 | Yh x =>
  simp only [nJ] at hs
  simp only [bZ] at hE ⊢
  obtain ⟨v,h1,h2⟩:=zbm hE
  rw [hs.val,h1]
  simp only [Option.bind_some]
  split at h2
  ·obtain ⟨s,h3,h4⟩:=zbm h2
   cases h4
   simp only [h3,Option.bind_some,one]
   exact ⟨trivial,trivial⟩
  ·cases h2;exact ⟨rfl,rfl⟩
  ·split at h2
   ·rename_i fV
    split at h2
    ·rename_i hz
     obtain ⟨s,h3,h4⟩:=zbm h2
     cases h4
     simp only [ho _ _ fV,ajd hz,h3,Option.bind_some,one]
     exact ⟨trivial,trivial⟩
    ·cases h2
   ·cases h2
  ·cases h2
end
end
section
open Go
section
variable {Γ : Env} {d:Nat} {σ σ2 σ':St} {pv:PV}
theorem VI {α:Type} {l:List (Nat × α)} {k:Nat} (h:∀ p ∈ l,p.1 ≠ k):rem l k = l:=by
 induction l with
 | nil=>rfl
 | cons p l ih =>
  obtain ⟨j,u⟩:=p
  unfold rem
  rw [aje (h _ akw),ih (fun p hp=>h p (aj2 _ hp))]
theorem jG {key:Nat}:fresh σ key = true ↔ (∀ p ∈ σ.ob,p.1 ≠ key ∧ mF key p.2 = false) ∧ ∀ p ∈ σ.tm,rA key p.2 = false:=by
 simp [fresh]
theorem jl {key:Nat} (h:fresh σ key = true) (o:Ob):new σ key o = some ⟨σ.tm,(key,o) :: σ.ob⟩:=by
 obtain ⟨h1,h2⟩:=jG.mp h
 have hr:=VI (fun p hp=>(h1 p hp).1)
 unfold new Yi
 rw [hr,aje]
 ·simp only [Option.map_some]
  rw [List.filter_eq_self.mpr (fun p hp=>by rw [h2 p hp];rfl)]
 ·intro hc
  obtain ⟨p,hp,hm⟩:=ake.mp hc
  rw [(h1 p hp).2] at hm;cases hm
theorem Ka {x:PL} {y:FV} (hn:gB x = false) (h:vP σ x = some (y,σ')):σ' = σ ∧ vP σ2 x = some (y,σ2):=by
 cases x with
 | f x=>cases h;exact ⟨rfl,rfl⟩
 | bY=>cases h;exact ⟨rfl,rfl⟩
 | own k n=>cases hn
 | _=>cases h
theorem yx : ∀ {xs:List PL} {ys:List FV} {σ':St},xs.any gB = false → kI σ xs = some (ys,σ') → σ' = σ ∧ kI σ2 xs = some (ys,σ2)
 | [],ys,σ',_,h=>by cases h;exact ⟨rfl,rfl⟩
 | x :: xs,ys,σ',hn,h=>by
  obtain ⟨p,h1,h2⟩:=zbm h
  obtain ⟨r,h3,h4⟩:=zmm h2
  cases h4
  simp only [List.any_cons,akW] at hn
  obtain ⟨e1,e2⟩:=Ka (σ2:=σ2) hn.1 h1
  rw [e1] at h3
  obtain ⟨e3,e4⟩:=yx hn.2 h3
  exact ⟨e3,by unfold kI;rw [e2];simp only [Option.bind_some];rw [e4];rfl⟩
theorem ZO {i:I} (hi:gP i = true) (hs:Same (nJ i) σ σ2) (hf:fresh σ (dA d) = true) (hf2:fresh σ2 (dA d) = true) (hE:bZ Γ true σ d i = some (pv,σ')) :
  ∃ o,σ' = ⟨σ.tm,(dA d,o) :: σ.ob⟩ ∧ bZ Γ true σ2 d i = some (pv,⟨σ2.tm,(dA d,o) :: σ2.ob⟩):=by
 cases i <;> first | cases hi | skip
 ·rename_i e z
  simp only [bZ] at hE ⊢
  split at hE
  ·cases hE
  ·rename_i hm
   simp only [gN,jl hf,Option.map_some] at hE
   cases hE
   refine ⟨_,rfl,?_⟩
   rw [aje hm]
   simp only [gN,jl hf2,Option.map_some]
 ·rename_i e x
  simp only [nJ] at hs
  simp only [bZ] at hE ⊢
  obtain ⟨v,h1,h2⟩:=zbm hE
  split at h2
  ·cases h2
  ·rename_i hm
   simp only [gN,jl hf,Option.map_some] at h2
   cases h2
   refine ⟨_,rfl,?_⟩
   rw [hs.val,h1]
   simp only [Option.bind_some]
   rw [aje hm]
   simp only [gN,jl hf2,Option.map_some]
 ·rename_i e sz len z ps
  simp only [nJ] at hs
  simp only [bZ] at hE ⊢
  obtain ⟨v,h1,hE⟩:=zbm hE
  obtain ⟨u,h2,hE⟩:=zbm hE
  split at hE
  ·cases hE
  ·rename_i hm
   obtain ⟨p,h3,hE⟩:=zbm hE
   have hn:u.any gB = false:=by simpa using hm
   obtain ⟨e1,e2⟩:=yx (σ2:=σ2) hn h3
   rw [e1] at hE
   simp only [gN,jl hf,Option.map_some] at hE
   cases hE
   refine ⟨_,rfl,?_⟩
   rw [hs.vals,h1]
   simp only [Option.bind_some,h2]
   rw [aje hm,e2]
   simp only [Option.bind_some,gN,jl hf2,Option.map_some]
 ·rename_i sh
  simp only [bZ] at hE ⊢
  simp only [gN,jl hf,Option.map_some] at hE
  cases hE
  exact ⟨_,rfl,by simp only [gN,jl hf2,Option.map_some]⟩
 ·rename_i f xs
  simp only [nJ] at hs
  simp only [bZ,sO] at hE ⊢
  obtain ⟨l,h1,hE⟩:=zbm hE
  obtain ⟨dR,h2,hE⟩:=zbm hE
  obtain ⟨r,h3,hE⟩:=zbm hE
  obtain ⟨p,h4,hE⟩:=zbm hE
  simp only [jl hf,Option.map_some] at hE
  cases hE
  refine ⟨_,rfl,?_⟩
  rw [hs.jv,h1]
  simp only [Option.bind_some,h2,h3,h4,jl hf2,Option.map_some]
end
end
section
open Go
def rd (g:G):List Nat:=nJ g.i ++ match g.gd with
 | some (some s,_)=>[s]
 | _=>[]
section
variable {Γ : Env} {d:Nat} {σ σ2 σ':St} {pv:PV}
theorem ME {g:G} (hs:Same (rd g) σ σ2):zU σ2 g.gd = zU σ g.gd:=by
 unfold rd at hs
 have hr:=hs.r
 cases hg:g.gd with
 | none=>rfl
 | some p =>
  obtain ⟨s,want⟩:=p
  cases s with
  | none=>rfl
  | some s =>
   rw [hg] at hr
   simp only [zU]
   rw [hr s (by simp)]
theorem tN {g:G} (hi:Qt g.i = true) (hs:Same (rd g) σ σ2) (ho:∀ k o,get σ.ob k = some o → get σ2.ob k = some o) (hE:mG Γ true σ g = some (pv,σ')):σ' = σ ∧ mG Γ true σ2 g = some (pv,σ2):=by
 unfold mG at hE ⊢
 obtain ⟨t,h1,h2⟩:=zbm hE
 rw [ME hs,h1]
 simp only [Option.bind_some]
 cases t with
 | true =>
  rw [ajd rfl] at h2 ⊢
  exact Qu hi (by unfold rd at hs;exact hs.l) ho h2
 | false =>
  rw [aje (by decide)] at h2 ⊢
  cases h2
  exact ⟨rfl,rfl⟩
theorem MF {g:G} (hi:gP g.i = true) (hg:g.gd = none) (hs:Same (rd g) σ σ2) (hf:fresh σ (dA (g.dst.getD 999)) = true) (hf2:fresh σ2 (dA (g.dst.getD 999)) = true) (hE:mG Γ true σ g = some (pv,σ')) :
  ∃ o,σ' = ⟨σ.tm,(dA (g.dst.getD 999),o) :: σ.ob⟩ ∧ mG Γ true σ2 g = some (pv,⟨σ2.tm,(dA (g.dst.getD 999),o) :: σ2.ob⟩):=by
 unfold mG at hE ⊢
 rw [hg] at hE ⊢
 simp only [zU,Option.bind_some,ajL] at hE ⊢
 exact ZO hi (by unfold rd at hs;exact hs.l) hf hf2 hE
theorem get_put {α:Type} {l:List (Nat × α)} {i j:Nat} {v:α}:get (put l i v) j = if j = i then some v else get l j:=by
 have aeY:∀ {l:List (Nat × α)} {i j:Nat},j ≠ i → get (rem l i) j = get l j:=by
  intro l i j hj
  induction l with
  | nil=>rfl
  | cons p l ih =>
   obtain ⟨k,u⟩:=p
   unfold rem
   by_cases hk:k = i
   ·rw [ajd hk,ih]
    conv=>rhs;unfold get
    rw [aje (fun e=>hj (by omega))]
   ·rw [aje hk]
    unfold get
    rw [ih]
 induction l with
 | nil =>
  unfold put get
  by_cases h:j = i
  ·rw [ajd h,ajd h.symm]
  ·rw [aje h,aje (fun e=>h e.symm)];rfl
 | cons p l ih =>
  obtain ⟨k,u⟩:=p
  unfold put
  by_cases hk:k = i
  ·rw [ajd hk]
   unfold get
   by_cases h:j = i
   ·rw [ajd h,ajd h.symm]
   ·rw [aje h,aje (fun e=>h e.symm),aeY h,aje (fun e=>h (by omega))]
  ·rw [aje hk]
   unfold get
   by_cases hkj:k = j
   ·rw [ajd hkj,aje (by omega),ajd hkj]
   ·rw [aje hkj,ih,aje hkj]
theorem Ep {b:Bool} (h:¬ b = true):b = false:=ajX.mpr h
def jw (Γ:Env) (rD:List (Nat × Ob)) (pre:List (G × List Nat)) (zZ:List (Nat × PV)):Nat → List (Nat × PV)
 | 0=>zZ
 | i + 1=>match pre[i]? with
  | some g=>match mG Γ true ⟨jw Γ rD pre zZ i,rD⟩ g.1 with
   | some p=>sQ g.1.dst (jw Γ rD pre zZ i) p.1
   | none=>jw Γ rD pre zZ i
  | none=>jw Γ rD pre zZ i
structure Can (Γ:Env) (rD:List (Nat × Ob)) (pre:List (G × List Nat)) (zZ:List (Nat × PV)) (i:Nat) (pv:PV) (s:St):Prop where
 lt:i < pre.length
 ev:mG Γ true ⟨jw Γ rD pre zZ i,rD⟩ (pre[i]'lt).1 = some (pv,s)
 nx:jw Γ rD pre zZ (i + 1) = sQ (pre[i]'lt).1.dst (jw Γ rD pre zZ i) pv
 nk:∀ k ∈ (pre[i]'lt).2,rA k pv = false ∧ (gP (pre[i]'lt).1.i = true → ∀ r ∈ s.ob.take 1,r.1 ≠ k ∧ mF k r.2 = false)
theorem Er {rD:List (Nat × Ob)} {pre:List (G × List Nat)} {zZ:List (Nat × PV)}:∀ (n i:Nat) (obx:List (Nat × Ob)) (s:St),n + i = pre.length → Qe Γ rD (pre.drop i) ⟨jw Γ rD pre zZ i,obx⟩ = some s →
  (∀ j,i ≤ j → j < pre.length → ∃ pv st,Can Γ rD pre zZ j pv st) ∧ s.tm = jw Γ rD pre zZ pre.length ∧
  ∃ news,s.ob = news ++ obx ∧ ∀ p ∈ news,∃ j pv st,i ≤ j ∧ j < pre.length ∧ ∃ (h:Can Γ rD pre zZ j pv st),gP (pre[j]'h.lt).1.i = true ∧ p ∈ st.ob.take 1
 | 0,i,obx,s,hn,hE=>by
  rw [List.drop_eq_nil_of_le (by omega)] at hE
  cases hE
  refine ⟨fun j h1 h2=>by omega,by rw [show pre.length = i from by omega],[],rfl,fun p hp=>by simp at hp⟩
 | n + 1,i,obx,s,hn,hE=>by
  have hi:i < pre.length:=by omega
  rw [akH hi] at hE
  obtain ⟨g,nk,hp⟩:∃ g nk,pre[i] = (g,nk):=⟨_,_,rfl⟩
  rw [hp] at hE
  simp only [Qe] at hE
  obtain ⟨p,h1,h2⟩:=zbm hE
  split at h2
  ·cases h2
  ·rename_i hnk
   have hnx:jw Γ rD pre zZ (i + 1) = sQ g.dst (jw Γ rD pre zZ i) p.1:=by
    conv=>lhs;unfold jw
    rw [ajt hi,hp]
    simp only [h1]
   have hcan:Can Γ rD pre zZ i p.1 p.2:=⟨hi,by rw [hp];exact h1,by rw [hp];exact hnx,fun k hk=>by
    rw [hp] at hk ⊢
    have hk':¬ (rA k p.1 || (gP g.i && (p.2.ob.take 1).any (fun r=>r.1 == k || mF k r.2))) = true:=fun hc=>hnk (ake.mpr ⟨k,hk,hc⟩)
    rw [aj9,not_or] at hk'
    refine ⟨Ep hk'.1,fun hN r hr=>?_⟩
    have:=hk'.2
    rw [hN,Bool.true_and] at this
    have hr':¬ (r.1 == k || mF k r.2) = true:=fun hc=>this (ake.mpr ⟨r,hr,hc⟩)
    rw [aj9,not_or] at hr'
    exact ⟨by simpa using hr'.1,Ep hr'.2⟩⟩
   rw [← hnx] at h2
   obtain ⟨e1,e2,news,e3,e4⟩:=Er n (i + 1) _ s (by omega) h2
   refine ⟨fun j h3 h4=>?_,e2,news ++ (if gP g.i then p.2.ob.take 1 else []),?_,fun r hr=>?_⟩
   ·by_cases hj:j = i
    ·subst hj;exact ⟨_,_,hcan⟩
    ·exact e1 j (by omega) h4
   ·rw [e3]
    cases gP g.i <;> simp
   ·rcases ajJ.mp hr with h | h
    ·obtain ⟨j,pv,st,h3,h4,h5⟩:=e4 r h
     exact ⟨j,pv,st,by omega,h4,h5⟩
    ·split at h
     ·rename_i hN
      exact ⟨i,p.1,p.2,aji _,hi,hcan,by rw [hp];exact hN,h⟩
     ·simp at h
end
end
section
open Go
def iU (o:Oper):List Nat:=(o.after.toList.filter (fun e=>Region.binds .any e)).map (·.on)
inductive Ke (ops:Array Oper):Nat → Nat → Prop
 | dir {i e:Nat} (h:i < ops.size) (he:e ∈ iU ops[i]):Ke ops e i
 | step {i e j:Nat} (h:i < ops.size) (he:e ∈ iU ops[i]) (hj:Ke ops j e):Ke ops j i
def isLt (g:G):Bool:=g.dst.isNone && g.gd.isNone && (match g.i with
 | .store _ _ _=>true
 | _=>false)
structure MG (ops:Array Oper) (pre:List (G × List Nat)) (lX:List Nat) (jQ rest:List G):Prop where
 len:ops.size = pre.length + (jQ.length + rest.length)
 lt:∀ i (h:i < ops.size),∀ e ∈ iU ops[i],e < i
 data:∀ i (h:i < pre.length) (h':i < ops.size),∀ s ∈ rd pre[i].1,∀ j (hj:j < pre.length),pre[j].1.dst = some s → j ∈ iU ops[i]
 dst:∀ i j (h:i < pre.length) (hj:j < pre.length),i ≠ j → ∀ s,pre[i].1.dst = some s → pre[j].1.dst ≠ some s
 cls:∀ i (h:i < pre.length),Qt pre[i].1.i = true ∨ (gP pre[i].1.i = true ∧ pre[i].1.gd = none)
 nk:∀ i j (h:i < pre.length) (hj:j < pre.length),i ≠ j → gP pre[i].1.i = true → dA (pre[i].1.dst.getD 999) ∈ pre[j].2 ∨ Ke ops i j
 tl:∀ k,pre.length ≤ k → k < ops.size → ∀ j,j < k → Ke ops j k ∨ (j < pre.length ∧ j ∈ lX ∧ k < pre.length + jQ.length)
 fl:∀ j ∈ lX,∀ (h:j < pre.length),Qt pre[j].1.i = true
 lt':∀ g ∈ jQ,isLt g = true
 ld:∀ m (h:m < jQ.length) (h':pre.length + m < ops.size),∀ s ∈ rd jQ[m],∀ j (hj:j < pre.length),pre[j].1.dst = some s → j ∈ iU ops[pre.length + m]
def Dn (l:Array Bool) (i:Nat):Prop:=l.getD i false = true
section
variable {P : Program} {Γ:Env} {bn:Nat → Prop} {w0 w w':World} {bg:List Nat} {N:Fr} {iT:Nat → Value} {σ σ':St} {a:Act} {X:Hx} {ops:Array Oper} {pre:List (G × List Nat)} {lX:List Nat} {jQ rest:List G} {l:Array Bool} {Q:Exit → Act → World → Prop}
def Down (ops:Array Oper) (l:Array Bool):Prop:=∀ i (h:i < ops.size),Dn l i → ∀ e ∈ iU ops[i],Dn l e
theorem Down.ZP (hd:Down ops l) (hD:MG ops pre lX jQ rest) {i j:Nat} (hb:Ke ops j i):(∀ (h:i < ops.size),∀ e ∈ iU ops[i],Dn l e) → Dn l j:=by
 induction hb with
 | dir h he=>intro hr;exact hr h _ he
 | step h he hj ih =>
  intro hr
  exact ih (fun h'=>hd _ h' (hr h _ he))
theorem gq {i:Nat} (hl:l.size = ops.size):i ∈ Region.ready .any ops l ↔ ∃ (h:i < ops.size),¬ Dn l i ∧ ∀ e ∈ iU ops[i],Dn l e:=by
 unfold Region.ready
 rw [akG,ajQ]
 constructor
 ·rintro ⟨h,hh⟩
  refine ⟨h,?_⟩
  rw [ajk,ajK h] at hh
  simp only [Option.map_some,Option.getD_some] at hh
  refine ⟨fun hd=>?_,fun e he=>?_⟩
  ·have h1:=hh.1
   unfold Dn at hd
   rw [ajW,ajK (by omega)] at hd h1
   simp only [Option.getD_some] at hd h1
   rw [hd] at h1;cases h1
  ·obtain ⟨x,hx,rfl⟩:=ajD.mp he
   obtain ⟨hx1,hx2⟩:=akG.mp hx
   have:=(Array.all_eq_true_iff_forall_mem.mp hh.2) x (by simpa using hx1)
   rw [hx2] at this
   exact this
 ·rintro ⟨h,h1,h2⟩
  refine ⟨h,?_⟩
  rw [ajk,ajK h]
  simp only [Option.map_some,Option.getD_some]
  constructor
  ·unfold Dn at h1
   rw [ajW,ajK (by omega)] at h1 ⊢
   simp only [Option.getD_some] at h1 ⊢
   simpa using h1
  ·refine Array.all_eq_true_iff_forall_mem.mpr fun x hx=>?_
   cases hb:Region.binds .any x with
   | false=>rfl
   | true=>exact h2 x.on (ajD.mpr ⟨x,akG.mpr ⟨by simpa using hx,hb⟩,rfl⟩)
theorem Dn.set {i j:Nat} (hi:i < l.size):Dn (l.setIfInBounds i true) j ↔ j = i ∨ Dn l j:=by
 unfold Dn
 rw [ajW,ajW,akj]
 by_cases h:i = j
 ·subst h
  rw [ajd rfl,ajd hi]
  simp
 ·rw [aje h]
  constructor
  ·exact fun hh=>.inr hh
  ·rintro (hh | hh)
   ·exact absurd hh.symm h
   ·exact hh
def left (l:Array Bool):Nat:=(l.toList.filter (!·)).length
theorem oh {i:Nat} (hi:i < l.size) (hn:¬ Dn l i):left (l.setIfInBounds i true) + 1 = left l:=by
 unfold left
 rw [Array.toList_setIfInBounds]
 have hv:l.toList[i]? = some false:=by
  unfold Dn at hn
  rw [ajW,ajK hi] at hn
  simp only [Option.getD_some] at hn
  rw [akr,ajK hi]
  simpa using hn
 have key:∀ (l:List Bool) (i:Nat),l[i]? = some false → ((l.set i true).filter (!·)).length + 1 = (l.filter (!·)).length:=by
  intro l
  induction l with
  | nil=>intro i h;simp at h
  | cons b l ih =>
   intro i h
   cases i with
   | zero=>simp at h;subst h;simp
   | succ i =>
    have:=ih i (by simpa using h)
    cases b <;> simp_all
 exact key l.toList i hv
theorem p8 (hd:Down ops l) {i:Nat} (hl:l.size = ops.size) (hi:i < ops.size) (hr:∀ e ∈ iU ops[i],Dn l e):Down ops (l.setIfInBounds i true):=by
 intro j hj hD e he
 rcases (Dn.set (by omega)).mp hD with rfl | hD
 ·exact (Dn.set (by omega)).mpr (.inr (hr e he))
 ·exact (Dn.set (by omega)).mpr (.inr (hd j hj hD e he))
theorem p9 (hD:MG ops pre lX jQ rest) (hl:l.size = ops.size) {i:Nat} (hi:i < ops.size) (hn:¬ Dn l i):Region.ready .any ops l ≠ []:=by
 have key:∀ (n i:Nat),i ≤ n → (hi:i < ops.size) → ¬ Dn l i → ∃ j,j ∈ Region.ready .any ops l:=by
  intro n
  induction n with
  | zero =>
   intro i h0 hi hn
   exact ⟨i,(gq hl).mpr ⟨hi,hn,fun e he=>by have:=hD.lt i hi e he;omega⟩⟩
  | succ n ih =>
   intro i h0 hi hn
   by_cases hall:∀ e ∈ iU ops[i],Dn l e
   ·exact ⟨i,(gq hl).mpr ⟨hi,hn,hall⟩⟩
   ·have:∃ e,e ∈ iU ops[i] ∧ ¬ Dn l e:=by
     apply ajV
     intro hc
     exact hall (fun e he=>ajV fun hne=>hc ⟨e,he,hne⟩)
    obtain ⟨e,he,hne⟩:=this
    have:=hD.lt i hi e he
    exact ih e (by omega) (by omega) hne
 obtain ⟨j,hj⟩:=key i i (aji _) hi hn
 intro e
 rw [e] at hj
 simp at hj
end
end
section
open Go
section
variable {P : Program} {Γ:Env} {bn:Nat → Prop} {w0 w w':World} {bg:List Nat} {N:Fr} {iT:Nat → Value} {σ σ':St} {a:Act} {X:Hx} {ops:Array Oper} {pre:List (G × List Nat)} {lX:List Nat} {jQ rest:List G} {l:Array Bool} {Q:Exit → Act → World → Prop}
theorem iX : ∀ {l:List Oper} {gs:List G},j5 P X ops N.ok l = some gs → l.length = gs.length ∧ ∀ i (h:i < l.length) (h':i < gs.length),tu P X ops N.ok l[i] = some gs[i]
 | [],gs,h=>by cases h;exact ⟨rfl,fun i h=>by simp at h⟩
 | o :: l,gs,h=>by
  obtain ⟨g,h1,h2⟩:=zbm h
  obtain ⟨r,h3,rfl⟩:=zmm h2
  obtain ⟨e1,e2⟩:=iX h3
  refine ⟨by simp [e1],fun i hi hi'=>?_⟩
  cases i with
  | zero=>exact h1
  | succ i=>exact e2 i (by simpa using hi) (by simpa using hi')
theorem kV {fuel:Nat}:wpAny P .any ops Q (fuel + 1) l a w = ((Region.ready .any ops l = [] → Q .normal a w) ∧ ∀ i ∈ Region.ready .any ops l,wpOp P ops Q i (wpAny P .any ops Q fuel (l.setIfInBounds i true)) a w):=rfl
theorem VJ (hD:MG ops pre lX jQ rest) (heq:∀ t ∈ X.eqs,lJ P t) (kR:iy P Γ) (hC:dN P Γ) (hc:j5 P X ops N.ok ops.toList = some (pre.map (·.1) ++ (jQ ++ rest))) (hQ:∀ a' w',Ok bn w0 bg N iT σ' a' w' → Q .normal a' w') :
  ∀ (fuel k:Nat) (l:Array Bool) (σ:St) (a:Act) (w:World),l.size = ops.size → pre.length + jQ.length ≤ k → k ≤ ops.size → (∀ i,i < ops.size → (Dn l i ↔ i < k)) → Down ops l → left l ≤ fuel → Ok bn w0 bg N iT σ a w → wL Γ false (rest.drop (k - (pre.length + jQ.length))) σ = some σ' → wpAny P .any ops Q fuel l a w:=by
 intro fuel
 have hcg:=iX hc
 have hlen:=hD.len
 have nil:∀ {k:Nat} {l:Array Bool},l.size = ops.size → k = ops.size → (∀ i,i < ops.size → (Dn l i ↔ i < k)) → Region.ready .any ops l = []:=by
  intro k l hl hk hd
  refine List.eq_nil_iff_forall_not_mem.mpr fun i hi=>?_
  obtain ⟨h1,h2,_⟩:=(gq hl).mp hi
  exact h2 ((hd i h1).mpr (by omega))
 have pos:∀ {k:Nat} {l:Array Bool},l.size = ops.size → k < ops.size → (∀ i,i < ops.size → (Dn l i ↔ i < k)) → 0 < left l:=by
  intro k l hl hk hd
  have:=oh (l:=l) (i:=k) (by omega) (fun h=>by have:=(hd k hk).mp h;omega)
  omega
 induction fuel with
 | zero =>
  intro k l σ a w hl h1 h2 hd hdn hf h hE
  by_cases hk:k = ops.size
  ·refine ⟨nil hl hk hd,?_⟩
   rw [List.drop_eq_nil_of_le (by omega)] at hE
   cases hE
   exact hQ a w h
  ·have:=pos hl (by omega) hd
   omega
 | succ fuel ih =>
  intro k l σ a w hl h1 h2 hd hdn hf h hE
  rw [kV]
  by_cases hk:k = ops.size
  ·have hn:=nil hl hk hd
   refine ⟨fun _=>?_,fun i hi=>by rw [hn] at hi;simp at hi⟩
   rw [List.drop_eq_nil_of_le (by omega)] at hE
   cases hE
   exact hQ a w h
  ·have hk':k < ops.size:=by omega
   have hnk:¬ Dn l k:=fun hh=>by have:=(hd k hk').mp hh;omega
   refine ⟨fun hn=>absurd hn (p9 hD hl hk' hnk),fun i hi=>?_⟩
   obtain ⟨hi1,hi2,hi3⟩:=(gq hl).mp hi
   have hik:i = k:=by
    have hge:k ≤ i:=by
     apply ajV
     intro hlt
     exact hi2 ((hd i hi1).mpr (by omega))
    apply ajV
    intro hne
    rcases hD.tl i (by omega) hi1 k (by omega) with hb | ⟨_,_,hb⟩
    ·exact hnk (hdn.ZP hD hb (fun _=>hi3))
    ·omega
   subst hik
   unfold wpOp
   rw [ajK hi1]
   have ht:i - (pre.length + jQ.length) < rest.length:=by omega
   rw [akH ht] at hE
   obtain ⟨s,h4,h5⟩:=zbm hE
   have hg:=hcg.2 i (by simpa using hi1) (by simp;omega)
   rw [List.getElem_append_right (by simp;omega),List.getElem_append_right (by simp;omega)] at hg
   simp only [ajg,Array.getElem_toList,Nat.sub_sub] at hg
   refine CJ heq kR hC hg h h4 fun a' w' h'=>?_
   refine ih (i + 1) _ s a' w' (by simp [hl]) (by omega) (by omega) (fun j hj=>?_) (p8 hdn hl hi1 hi3) ?_ h' (by rw [show i + 1 - (pre.length + jQ.length) = i - (pre.length + jQ.length) + 1 from by omega];exact h5)
   ·rw [Dn.set (by omega)]
    rw [hd j hj]
    omega
   ·have:=oh (l:=l) (i:=i) (by omega) hnk
    omega
end
end
section
open Go
structure MH (Γ:Env) (pre:List (G × List Nat)) (fH:St) (l:Array Bool) (σ:St):Prop where
 tg1:∀ i pv st (h:Can Γ fH.ob pre fH.tm i pv st),Dn l i → ∀ s,(pre[i]'h.lt).1.dst = some s → get σ.tm s = some pv
 tg2:∀ s,(∀ i (h:i < pre.length),Dn l i → pre[i].1.dst ≠ some s) → get σ.tm s = get fH.tm s
 ob1:∃ news,σ.ob = news ++ fH.ob ∧ ∀ p ∈ news,∃ i,∃ (h:i < pre.length),gP pre[i].1.i = true ∧ p.1 = dA (pre[i].1.dst.getD 999)
 ob2:∀ i pv st (h:Can Γ fH.ob pre fH.tm i pv st),Dn l i → gP (pre[i]'h.lt).1.i = true → ∀ p ∈ st.ob.take 1,p ∈ σ.ob
 fr:∀ i (h:i < pre.length),gP pre[i].1.i = true → ¬ Dn l i → fresh σ (dA (pre[i].1.dst.getD 999)) = true
section
variable {Γ : Env} {σ fH σ':St} {ops:Array Oper} {pre:List (G × List Nat)} {lX:List Nat} {jQ rest:List G} {l:Array Bool}
theorem Can.uniq {rD:List (Nat × Ob)} {zZ:List (Nat × PV)} {i:Nat} {pv pv':PV} {s s':St} (h:Can Γ rD pre zZ i pv s) (h':Can Γ rD pre zZ i pv' s'):pv = pv' ∧ s = s':=by
 have:=h.ev.symm.trans h'.ev
 simp only [ajq,ajr] at this
 exact this
theorem qg {d:Option Nat} {tm:List (Nat × PV)} {v:PV} {s:Nat}:get (sQ d tm v) s = if d = some s then some v else get tm s:=by
 cases d with
 | none=>simp [sQ]
 | some d =>
  simp only [sQ,get_put,ajq]
  by_cases h:s = d
  ·rw [ajd h,ajd h.symm]
  ·rw [aje h,aje (fun e=>h e.symm)]
theorem Es {d:Option Nat} {tm:List (Nat × PV)} {v:PV} {p:Nat × PV} (h:p ∈ sQ d tm v):p.2 = v ∨ p ∈ tm:=by
 cases d with
 | none=>exact .inr h
 | some d =>
  rcases iE h with rfl | ⟨h,_⟩
  ·exact .inl rfl
  ·exact .inr h
theorem tO (hD:MG ops pre lX jQ rest) (hall:∀ j,j < pre.length → ∃ pv st,Can Γ fH.ob pre fH.tm j pv st):∀ i,i ≤ pre.length →
  (∀ j pv st (h:Can Γ fH.ob pre fH.tm j pv st),j < i → ∀ s,(pre[j]'h.lt).1.dst = some s → get (jw Γ fH.ob pre fH.tm i) s = some pv) ∧
  (∀ s,(∀ j (h:j < pre.length),j < i → pre[j].1.dst ≠ some s) → get (jw Γ fH.ob pre fH.tm i) s = get fH.tm s) ∧
  ∀ p ∈ jw Γ fH.ob pre fH.tm i,p ∈ fH.tm ∨ ∃ j pv st,j < i ∧ Can Γ fH.ob pre fH.tm j pv st ∧ p.2 = pv
 | 0,_=>⟨fun j _ _ _ h=>by omega,fun s _=>rfl,fun p hp=>.inl hp⟩
 | i + 1,hi=>by
  obtain ⟨e1,e2,e3⟩:=tO hD hall i (by omega)
  obtain ⟨pv,st,hc⟩:=hall i (by omega)
  rw [hc.nx]
  refine ⟨fun j pv' st' h hj s hs=>?_,fun s hs=>?_,fun p hp=>?_⟩
  ·rw [qg]
   by_cases hji:j = i
   ·subst hji
    rw [ajd hs,(h.uniq hc).1]
   ·rw [aje (hD.dst j i h.lt hc.lt hji s hs),e1 j pv' st' h (by omega) s hs]
  ·rw [qg,aje (hs i hc.lt (by omega))]
   exact e2 s (fun j h hj=>hs j h (by omega))
  ·rcases Es hp with h | h
   ·exact .inr ⟨i,pv,st,by omega,hc,h⟩
   ·rcases e3 p h with h | ⟨j,pv',st',h1,h2,h3⟩
    ·exact .inl h
    ·exact .inr ⟨j,pv',st',by omega,h2,h3⟩
theorem Ke.lt (hD:MG ops pre lX jQ rest) {i j:Nat} (h:Ke ops j i):j < i:=by
 induction h with
 | dir h he=>exact hD.lt _ h _ he
 | step h he hj ih=>have:=hD.lt _ h _ he;omega
theorem IW {α:Type} {l m:List (Nat × α)} {k:Nat} (h:∀ p ∈ l,p.1 ≠ k):get (l ++ m) k = get m k:=by
 induction l with
 | nil=>rfl
 | cons p l ih =>
  obtain ⟨j,u⟩:=p
  rw [List.cons_append]
  conv=>lhs;unfold get
  rw [aje (h _ akw),ih (fun p hp=>h p (aj2 _ hp))]
theorem CK : ∀ {i:I},Qt i = true → gP i = true → False:=by
 intro i h1 h2
 cases i <;> simp [Qt,gP] at h1 h2
theorem ZR (hD:MG ops pre lX jQ rest) (hall:∀ j,j < pre.length → ∃ pv st,Can Γ fH.ob pre fH.tm j pv st) (hfr:∀ i (h:i < pre.length),gP pre[i].1.i = true → fresh fH (dA (pre[i].1.dst.getD 999)) = true)
  (hI:MH Γ pre fH l σ) (hl:l.size = ops.size) (hdn:Down ops l) {i:Nat} (hi:i < pre.length) (hi':i < ops.size) (hn:¬ Dn l i) (hr:∀ e ∈ iU ops[i],Dn l e) :
  ∃ pv σ1,mG Γ true σ pre[i].1 = some (pv,σ1) ∧ MH Γ pre fH (l.setIfInBounds i true) (qW σ1 pre[i].1.dst pv):=by
 obtain ⟨pv,st,hc⟩:=hall i hi
 obtain ⟨c1,c2,c3⟩:=tO hD hall i (by omega)
 have hset:∀ {j},Dn (l.setIfInBounds i true) j ↔ j = i ∨ Dn l j:=fun {j}=>Dn.set (by omega)
 have hsame:Same (rd pre[i].1) ⟨jw Γ fH.ob pre fH.tm i,fH.ob⟩ σ:=by
  intro s hs
  by_cases hw:∃ j,∃ (h:j < pre.length),pre[j].1.dst = some s
  ·obtain ⟨j,hj,hjs⟩:=hw
   have hje:=hD.data i hi hi' s hs j hj hjs
   obtain ⟨pv',st',hc'⟩:=hall j hj
   rw [hI.tg1 j pv' st' hc' (hr j hje) s hjs,c1 j pv' st' hc' (hD.lt i hi' j hje) s hjs]
  ·have hw':∀ j (h:j < pre.length),pre[j].1.dst ≠ some s:=fun j h e=>hw ⟨j,h,e⟩
   rw [hI.tg2 s (fun j h _=>hw' j h),c2 s (fun j h _=>hw' j h)]
 have hnk:∀ j (h:j < pre.length),gP pre[j].1.i = true → ¬ Dn l j → j ≠ i → dA (pre[j].1.dst.getD 999) ∈ pre[i].2:=by
  intro j h hN hdj hji
  rcases hD.nk j i h hi hji hN with h1 | h1
  ·exact h1
  ·exact absurd (hdn.ZP hD h1 (fun _=>hr)) hdj
 obtain ⟨news,ho1,ho2⟩:=hI.ob1
 have hkey:∀ k o,get fH.ob k = some o → get σ.ob k = some o:=by
  intro k o hk
  rw [ho1,IW]
  ·exact hk
  ·intro p hp e
   obtain ⟨j,hj,hN,hpk⟩:=ho2 p hp
   have:=(jG.mp (hfr j hj hN)).1 _ (get_mem hk)
   exact this.1 (by show k = _;rw [← e,hpk])
 have fin:∀ (σ1:St) (new:List (Nat × Ob)),σ1.tm = σ.tm → σ1.ob = new ++ σ.ob → (∀ p ∈ new,gP pre[i].1.i = true ∧ p.1 = dA (pre[i].1.dst.getD 999)) → (gP pre[i].1.i = true → new = st.ob.take 1) → MH Γ pre fH (l.setIfInBounds i true) (qW σ1 pre[i].1.dst pv):=by
  intro σ1 new ht fV hnew hst
  have TR:(qW σ1 pre[i].1.dst pv).tm = sQ pre[i].1.dst σ.tm pv:=by
   unfold qW sQ
   cases pre[i].1.dst <;> simp [ht]
  have VK:(qW σ1 pre[i].1.dst pv).ob = new ++ σ.ob:=by
   unfold qW
   cases pre[i].1.dst <;> simp [fV]
  refine ⟨fun j pv' st' h hd s hs=>?_,fun s hs=>?_,⟨new ++ news,by rw [VK,ho1,aj0],fun p hp=>?_⟩,fun j pv' st' h hd hN p hp=>?_,fun j h hN hd=>?_⟩
  ·rw [TR,qg]
   rcases hset.mp hd with rfl | hd
   ·rw [ajd hs,(h.uniq hc).1]
   ·have hji:j ≠ i:=fun e=>hn (e ▸ hd)
    rw [aje (hD.dst j i h.lt hi hji s hs)]
    exact hI.tg1 j pv' st' h hd s hs
  ·rw [TR,qg,aje (hs i hi (hset.mpr (.inl rfl)))]
   exact hI.tg2 s (fun j h hd=>hs j h (hset.mpr (.inr hd)))
  ·rcases ajJ.mp hp with hp | hp
   ·exact ⟨i,hi,hnew p hp⟩
   ·exact ho2 p hp
  ·rw [VK]
   rcases hset.mp hd with rfl | hd
   ·refine List.mem_append_left _ ?_
    rw [hst hN,(hc.uniq h).2];exact hp
   ·exact List.mem_append_right _ (hI.ob2 j pv' st' h hd hN p hp)
  ·have hji:j ≠ i:=fun e=>hd (hset.mpr (.inl e))
   have hdj:¬ Dn l j:=fun e=>hd (hset.mpr (.inr e))
   have hk:=hnk j h hN hdj hji
   obtain ⟨f1,f2⟩:=jG.mp (hI.fr j h hN hdj)
   obtain ⟨g1,g2⟩:=hc.nk _ hk
   refine jG.mpr ⟨fun p hp=>?_,fun p hp=>?_⟩
   ·rw [VK] at hp
    rcases ajJ.mp hp with hp | hp
    ·have hNi:=(hnew p hp).1
     exact g2 hNi p (by rw [← hst hNi];exact hp)
    ·exact f1 p hp
   ·rw [TR] at hp
    rcases Es hp with h | h
    ·rw [h];exact g1
    ·exact f2 p h
 rcases hD.cls i hi with hV | ⟨hN,hgd⟩
 ·obtain ⟨e1,e2⟩:=tN hV hsame hkey hc.ev
  refine ⟨pv,σ,e2,fin σ [] rfl rfl (fun p hp=>by simp at hp) (fun hN=>?_)⟩
  exact (CK hV hN).elim
 ·have hfc:fresh ⟨jw Γ fH.ob pre fH.tm i,fH.ob⟩ (dA (pre[i].1.dst.getD 999)) = true:=by
   obtain ⟨f1,f2⟩:=jG.mp (hfr i hi hN)
   refine jG.mpr ⟨f1,fun p hp=>?_⟩
   rcases c3 p hp with h | ⟨j,pv',st',h1,h2,h3⟩
   ·exact f2 p h
   ·rcases hD.nk i j hi h2.lt (by omega) hN with h4 | h4
    ·rw [h3];exact (h2.nk _ h4).1
    ·have:=h4.lt hD;omega
  obtain ⟨o,e1,e2⟩:=MF hN hgd hsame hfc (hI.fr i hi hN hn) hc.ev
  refine ⟨pv,_,e2,fin _ [(dA (pre[i].1.dst.getD 999),o)] rfl rfl (fun p hp=>by simp at hp;exact ⟨hN,by rw [hp]⟩) (fun _=>by rw [e1];rfl)⟩
end
end
section
open Go
section
variable {P : Program} {Γ:Env} {bn:Nat → Prop} {w0 w w':World} {bg:List Nat} {N:Fr} {d:Nat} {iT:Nat → Value} {σ fH σ':St} {a:Act} {X:Hx} {ops:Array Oper} {pre:List (G × List Nat)} {lX:List Nat} {jQ rest:List G} {l:Array Bool} {Q:Exit → Act → World → Prop} {pv:PV}
theorem VL {tm tm2:List (Nat × PV)} {ob:List (Nat × Ob)} {n key off:Nat} {x y:dM} {s:St} (hv:val ⟨tm,ob⟩ x = some (.one (.ptr key off))) (hE:bZ Γ true ⟨tm,ob⟩ d (.store n x y) = some (pv,s)) :
  s.tm = tm ∧ (Same (nJ (.store n x y)) ⟨tm,ob⟩ ⟨tm2,ob⟩ → ∀ q d,bZ Γ q ⟨tm2,ob⟩ d (.store n x y) = some (pv,⟨tm2,s.ob⟩)) ∧ ∀ k o,k ≠ key → get ob k = some o → get s.ob k = some o:=by
 simp only [bZ] at hE
 rw [hv] at hE
 simp only [Option.bind_some] at hE
 obtain ⟨u,h1,h2⟩:=zbm hE
 split at h2
 ·rename_i hc
  split at h2
  ·rename_i xs fV
   obtain ⟨l,h3,h4⟩:=zmm h2
   cases h4
   refine ⟨rfl,fun hs q d=>?_,fun k o hk hg=>?_⟩
   ·simp only [bZ]
    simp only [nJ] at hs
    rw [hs.l.val,hv,Option.bind_some,hs.r.val,h1,Option.bind_some,ajd hc]
    simp only [fV]
    simp only [h3,Option.map_some,jy]
   ·simp only [jy,get_put,aje hk]
    exact hg
  ·cases h2
 ·cases h2
theorem VN {tm:List (Nat × PV)} {ob ob':List (Nat × Ob)} {x:dM}:val ⟨tm,ob⟩ x = val ⟨tm,ob'⟩ x:=by
 cases x <;> rfl
theorem get_filter {α:Type} {l:List (Nat × α)} {p:Nat → Bool} {k:Nat} {o:α} (h:get (l.filter fun x=>p x.1) k = some o):p k = true ∧ get l k = some o:=by
 induction l with
 | nil=>cases h
 | cons q l ih =>
  obtain ⟨j,u⟩:=q
  rw [List.filter_cons] at h
  by_cases hp:p j = true
  ·rw [ajd hp] at h
   unfold get at h ⊢
   by_cases hj:j = k
   ·rw [ajd hj] at h ⊢
    exact ⟨hj ▸ hp,h⟩
   ·rw [aje hj] at h ⊢
    exact ih h
  ·rw [aje hp] at h
   obtain ⟨h1,h2⟩:=ih h
   refine ⟨h1,?_⟩
   unfold get
   rw [aje (by intro e;subst e;exact hp h1)]
   exact h2
theorem Ok.less (h:Ok bn w0 bg N iT σ a w) (ht:∀ p ∈ σ'.tm,p ∈ σ.tm) (ho:∀ p ∈ σ'.ob,p ∈ σ.ob):Ok bn w0 bg N iT σ' a w:=by
 obtain ⟨Fz,κ,hr,hk⟩:=h
 exact ⟨Fz,κ,hr.less ht ho,hk⟩
def Vis (pre:List (G × List Nat)) (l:Array Bool) (s:Nat):Prop:=∀ j (h:j < pre.length),¬ Dn l j → pre[j].1.dst ≠ some s
theorem VO (hD:MG ops pre lX jQ rest) (heq:∀ t ∈ X.eqs,lJ P t) (kR:iy P Γ) (hC:dN P Γ) (hc:j5 P X ops N.ok ops.toList = some (pre.map (·.1) ++ (jQ ++ rest))) (hQ:∀ a' w',Ok bn w0 bg N iT σ' a' w' → Q .normal a' w')
  {tm:List (Nat × PV)} {obS Qv:List (Nat × Ob)} (TR:∀ p ∈ tm,get tm p.1 = some p.2)
  (hpv:∀ j (h:j < pre.length),j ∈ lX → ∃ pv s,mG Γ true ⟨tm,obS.filter (fun p=>!(jQ.flatMap (sS tm)).contains p.1)⟩ pre[j].1 = some (pv,s) ∧ ∀ s,pre[j].1.dst = some s → get tm s = some pv)
  (hE:wL Γ false rest ⟨tm,Qv⟩ = some σ') :
  ∀ (fuel m:Nat) (l:Array Bool) (Et:List (Nat × PV)) (ob:List (Nat × Ob)) (a:Act) (w:World),l.size = ops.size → m ≤ jQ.length → (∀ i,i < ops.size → pre.length ≤ i → (Dn l i ↔ i < pre.length + m)) → (∀ j,j < pre.length → j ∉ lX → Dn l j) → Down ops l → left l ≤ fuel →
   LP Γ tm (jQ.drop m) ob = some Qv → (∀ k o,(jQ.flatMap (sS tm)).contains k = false → get obS k = some o → get ob k = some o) → (∀ s,Vis pre l s → get Et s = get tm s) → Ok bn w0 bg N iT ⟨Et,ob⟩ a w → wpAny P .any ops Q fuel l a w:=by
 intro fuel
 have hcg:=iX hc
 have hlen:=hD.len
 have over:∀ (fuel m:Nat) (l:Array Bool) (Et:List (Nat × PV)) (ob:List (Nat × Ob)) (a:Act) (w:World),l.size = ops.size → m = jQ.length → (∀ i,i < ops.size → pre.length ≤ i → (Dn l i ↔ i < pre.length + m)) → (∀ j,j < pre.length → Dn l j) → Down ops l → left l ≤ fuel →
   LP Γ tm (jQ.drop m) ob = some Qv → (∀ s,Vis pre l s → get Et s = get tm s) → Ok bn w0 bg N iT ⟨Et,ob⟩ a w → wpAny P .any ops Q fuel l a w:=by
  intro fuel m l Et ob a w hl hm hd hall hdn hf hL hv h
  subst hm
  rw [List.drop_of_length_le (aji _)] at hL
  cases hL
  refine VJ hD heq kR hC hc hQ fuel (pre.length + jQ.length) l ⟨tm,Qv⟩ a w hl (aji _) (by omega) (fun i hi=>?_) hdn hf (h.less (fun p hp=>?_) (fun _ hp=>hp)) (by rw [Nat.sub_self,akf];exact hE)
  ·by_cases hi':i < pre.length
   ·exact ⟨fun _=>by omega,fun _=>hall i hi'⟩
   ·exact hd i hi (by omega)
  ·have:=hv p.1 (fun j hj hnd=>absurd (hall j hj) hnd)
   rw [TR p hp] at this
   exact get_mem this
 induction fuel with
 | zero =>
  intro m l Et ob a w hl hm hd hfl hdn hf hL fV hv h
  have hdone:∀ i,i < ops.size → Dn l i:=by
   intro i hi
   apply ajV
   intro hn
   have:=oh (l:=l) (i:=i) (by omega) hn
   omega
  refine over 0 m l Et ob a w hl ?_ hd (fun j hj=>hdone j (by omega)) hdn hf hL hv h
  apply ajV
  intro hne
  have:=(hd (pre.length + m) (by omega) (by omega)).mp (hdone _ (by omega))
  omega
 | succ fuel ih =>
  intro m l Et ob a w hl hm hd hfl hdn hf hL fV hv h
  by_cases hfin:m = jQ.length ∧ ∀ j,j < pre.length → Dn l j
  ·exact over (fuel + 1) m l Et ob a w hl hfin.1 hd hfin.2 hdn hf hL hv h
  ·have hex:∃ i,i < pre.length + jQ.length ∧ i < ops.size ∧ ¬ Dn l i:=by
    apply ajV
    intro hno
    have hall:∀ i,i < pre.length + jQ.length → i < ops.size → Dn l i:=fun i h1 h2=>ajV fun hn=>hno ⟨i,h1,h2,hn⟩
    refine hfin ⟨?_,fun j hj=>hall j (by omega) (by omega)⟩
    apply ajV
    intro hne
    have:=(hd (pre.length + m) (by omega) (by omega)).mp (hall _ (by omega) (by omega))
    omega
   obtain ⟨i0,hi0,aeZ,hn0⟩:=hex
   rw [kV]
   refine ⟨fun hn=>absurd hn (p9 hD hl aeZ hn0),fun i hi=>?_⟩
   obtain ⟨hi1,hi2,hi3⟩:=(gq hl).mp hi
   have hset:∀ {j},Dn (l.setIfInBounds i true) j ↔ j = i ∨ Dn l j:=fun {j}=>Dn.set (by omega)
   have hleft:=oh (l:=l) (i:=i) (by omega) hi2
   unfold wpOp
   rw [ajK hi1]
   have hg:=hcg.2 i (by simpa using hi1) (by simp;omega)
   by_cases VP:i < pre.length
   ·
    have hif:i ∈ lX:=ajV fun hn=>hi2 (hfl i VP hn)
    rw [List.getElem_append_left (by simpa using VP)] at hg
    simp only [akp,Array.getElem_toList] at hg
    obtain ⟨pv,s,h1,h2⟩:=hpv i VP hif
    have hsame:Same (rd pre[i].1) ⟨tm,obS.filter (fun p=>!(jQ.flatMap (sS tm)).contains p.1)⟩ ⟨Et,ob⟩:=fun s hs=>hv s (fun j hj hnd he=>hnd (hi3 j (hD.data i VP hi1 s hs j hj he)))
    obtain ⟨e1,e2⟩:=tN (σ2:=⟨Et,ob⟩) (hD.fl i hif VP) hsame (fun k o hk=>by
     obtain ⟨g1,g2⟩:=get_filter (p:=fun k=>!(jQ.flatMap (sS tm)).contains k) hk
     exact fV k o (by simpa using g1) g2) h1
    refine wY heq kR hC hg h e2 fun a' w' h'=>?_
    refine ih m _ (sQ pre[i].1.dst Et pv) ob a' w' (by simp [hl]) hm (fun j hj hj'=>?_) (fun j hj hjf=>hset.mpr (.inr (hfl j hj hjf))) (p8 hdn hl hi1 hi3) (by omega) hL fV (fun s hs=>?_) ?_
    ·rw [hset,hd j hj hj']
     omega
    ·rw [qg]
     split
     ·rename_i he
      exact (h2 s he).symm
     ·rename_i he
      refine hv s (fun j hj hnd hjs=>?_)
      by_cases hji:j = i
      ·subst hji;exact he hjs
      ·exact hs j hj (fun hdj=>by rcases hset.mp hdj with h | h;exact hji h;exact hnd h) hjs
    ·cases hdst:pre[i].1.dst with
     | none=>rw [hdst] at h';exact h'
     | some s=>rw [hdst] at h';exact h'
   ·
    have him:i = pre.length + m ∧ m < jQ.length:=by
     have hge:pre.length + m ≤ i:=by
      apply ajV
      intro hlt
      exact hi2 ((hd i hi1 (by omega)).mpr (by omega))
     have hlt':i < pre.length + jQ.length:=by
      apply ajV
      intro hnl
      rcases hD.tl i (by omega) hi1 i0 (by omega) with hb | ⟨_,_,hb⟩
      ·exact hn0 (hdn.ZP hD hb (fun _=>hi3))
      ·omega
     refine ⟨?_,by omega⟩
     apply ajV
     intro hne
     have hnm:¬ Dn l (pre.length + m):=fun hh=>by have:=(hd (pre.length + m) (by omega) (by omega)).mp hh;omega
     rcases hD.tl i (by omega) hi1 (pre.length + m) (by omega) with hb | ⟨hb,_,_⟩
     ·exact hnm (hdn.ZP hD hb (fun _=>hi3))
     ·omega
    obtain ⟨rfl,hml⟩:=him
    rw [List.getElem_append_right (by simp),List.getElem_append_left (by simpa using hml)] at hg
    simp only [ajg,Array.getElem_toList,Nat.add_sub_cancel_left] at hg
    rw [akH hml] at hL
    have hlg:=hD.lt' _ (ak1 hml)
    have hld:=hD.ld m hml hi1
    have hkey:∀ k,k ∈ sS tm jQ[m] → (jQ.flatMap (sS tm)).contains k = true:=fun k hk=>by
     rw [List.contains_iff_mem]
     exact List.mem_flatMap.mpr ⟨_,ak1 hml,hk⟩
    generalize jQ[m] = g at hg hL hlg hld hkey
    obtain ⟨gd,gg,gi⟩:=g
    unfold isLt at hlg
    simp only [ajk] at hlg
    obtain ⟨⟨hl1,hl2⟩,hl3⟩:=hlg
    have hgd:gd = none:=by cases gd <;> simp_all
    have hgg:gg = none:=by cases gg <;> simp_all
    subst hgd
    subst hgg
    cases gi with
    | store n x y =>
     simp only [LP] at hL
     split at hL
     ·rename_i key off hval
      obtain ⟨p,h1,h2⟩:=zbm hL
      obtain ⟨pv,s⟩:=p
      have hsame:Same (nJ (.store n x y)) ⟨tm,ob⟩ ⟨Et,ob⟩:=fun s hs=>hv s (fun j hj hnd he=>hnd (hi3 j (hld s (by unfold rd;exact List.mem_append_left _ hs) j hj he)))
      obtain ⟨e1,e2,e3⟩:=VL (tm2:=Et) hval h1
      have e2':=e2 hsame true 999
      refine wY (q:=true) (pv:=pv) (σ':=⟨Et,s.ob⟩) heq kR hC hg h (by simp only [mG,zU,Option.bind_some,ajL];exact e2') fun a' w' h'=>?_
      refine ih (m + 1) _ Et s.ob a' w' (by simp [hl]) (by omega) (fun j hj hj'=>?_) (fun j hj hjf=>hset.mpr (.inr (hfl j hj hjf))) (p8 hdn hl hi1 hi3) (by omega) h2 (fun k o hk hg'=>?_) (fun s hs=>hv s (fun j hj hnd=>hs j hj (fun hdj=>by rcases hset.mp hdj with h | h;omega;exact hnd h))) h'
      ·rw [hset,hd j hj hj']
       omega
      ·refine e3 k o (fun e=>?_) (fV k o hk hg')
       subst e
       have hv0:val ⟨tm,[]⟩ x = some (.one (.ptr k off)):=(VN (ob':=ob)).trans hval
       have:=hkey k (by simp only [sS,hv0,aj3])
       rw [this] at hk;cases hk
     ·cases hL
    | _=>simp at hl3
end
end
section
open Go
section
variable {P : Program} {Γ:Env} {bn:Nat → Prop} {w0 w w':World} {bg:List Nat} {N:Fr} {iT:Nat → Value} {σ fH σ':St} {a:Act} {X:Hx} {ops:Array Oper} {pre:List (G × List Nat)} {lX:List Nat} {jQ rest:List G} {l:Array Bool} {Q:Exit → Act → World → Prop}
theorem CO {α:Type} {ks:List Nat} {l:List (Nat × α)} {p:Nat × α} (h:p ∈ pick ks l):get l p.1 = some p.2:=by
 unfold pick at h
 obtain ⟨i,_,h2⟩:=List.mem_filterMap.mp h
 obtain ⟨v,h3,h4⟩:=zmm h2
 subst h4
 exact h3
theorem Eu {α:Type} {l:List (Nat × α)} {s:Nat}:∀ {ks:List Nat},get (pick ks l) s = if s ∈ ks then get l s else none
 | []=>rfl
 | k :: ks=>by
  have ih:=Eu (l:=l) (s:=s) (ks:=ks)
  unfold pick at ih ⊢
  rw [List.filterMap_cons]
  cases hg:get l k with
  | none =>
   simp only [Option.map_none]
   rw [ih]
   by_cases hk:s = k
   ·subst hk;simp [hg]
   ·simp [hk]
  | some v =>
   simp only [Option.map_some]
   conv=>lhs;unfold get
   by_cases hk:k = s
   ·subst hk;simp [hg]
   ·rw [aje hk,ih]
    have:¬ s = k:=fun e=>hk e.symm
    simp [this]
theorem get_none {α:Type} {l:List (Nat × α)} {s:Nat} (h:s ∉ l.map (·.1)):get l s = none:=by
 cases hg:get l s with
 | none=>rfl
 | some v=>exact absurd (ajD.mpr ⟨_,get_mem hg,rfl⟩) h
theorem Qw {α:Type} {l:List (Nat × α)} {s:Nat}:get (pick (l.map (·.1)) l) s = get l s:=by
 rw [Eu]
 split
 ·rfl
 ·rename_i h;exact (get_none h).symm
theorem ae0 (hD:MG ops pre lX jQ rest) (hall:∀ j,j < pre.length → ∃ pv st,Can Γ fH.ob pre fH.tm j pv st) (hfr:∀ i (h:i < pre.length),gP pre[i].1.i = true → fresh fH (dA (pre[i].1.dst.getD 999)) = true)
  {i:Nat} {pv:PV} {st:St} (hc:Can Γ fH.ob pre fH.tm i pv st) (hN:gP (pre[i]'hc.lt).1.i = true):∀ p ∈ st.ob.take 1,p.1 = dA ((pre[i]'hc.lt).1.dst.getD 999):=by
 have hi:=hc.lt
 obtain ⟨c1,c2,c3⟩:=tO hD hall i (by omega)
 have hgd:pre[i].1.gd = none:=by
  rcases hD.cls i hi with h | h
  ·exact (CK h hN).elim
  ·exact h.2
 have hfc:fresh ⟨jw Γ fH.ob pre fH.tm i,fH.ob⟩ (dA (pre[i].1.dst.getD 999)) = true:=by
  obtain ⟨f1,f2⟩:=jG.mp (hfr i hi hN)
  refine jG.mpr ⟨f1,fun p hp=>?_⟩
  rcases c3 p hp with h | ⟨j,pv',st',h1,h2,h3⟩
  ·exact f2 p h
  ·rcases hD.nk i j hi h2.lt (by omega) hN with h4 | h4
   ·rw [h3];exact (h2.nk _ h4).1
   ·have:=h4.lt hD;omega
 obtain ⟨o,e1,_⟩:=MF (σ2:=⟨jw Γ fH.ob pre fH.tm i,fH.ob⟩) hN hgd (fun _ _=>rfl) hfc hfc hc.ev
 intro p hp
 rw [e1] at hp
 simp at hp
 rw [hp]
theorem VQ (hD:MG ops pre lX jQ rest) (heq:∀ t ∈ X.eqs,lJ P t) (kR:iy P Γ) (hC:dN P Γ) (hc:j5 P X ops N.ok ops.toList = some (pre.map (·.1) ++ (jQ ++ rest))) (hQ:∀ a' w',Ok bn w0 bg N iT σ' a' w' → Q .normal a' w')
  (hall:∀ j,j < pre.length → ∃ pv st,Can Γ fH.ob pre fH.tm j pv st) (hfr:∀ i (h:i < pre.length),gP pre[i].1.i = true → fresh fH (dA (pre[i].1.dst.getD 999)) = true)
  {tm:List (Nat × PV)} {sob Qv news':List (Nat × Ob)} (TR:tm = pick ((jw Γ fH.ob pre fH.tm pre.length).map (·.1)) (jw Γ fH.ob pre fH.tm pre.length))
  (ZT:sob = news' ++ fH.ob) (hnews:∀ p ∈ news',∃ j pv st,∃ (h:Can Γ fH.ob pre fH.tm j pv st),gP (pre[j]'h.lt).1.i = true ∧ p ∈ st.ob.take 1)
  (Qx:lX.all (fun j=>(mG Γ true ⟨tm,fH.ob.filter (fun p=>!(jQ.flatMap (sS tm)).contains p.1)⟩ (pre.getD j default).1).isSome) = true)
  (hL:LP Γ tm jQ sob = some Qv) (hE:wL Γ false rest ⟨tm,Qv⟩ = some σ') :
  ∀ (fuel:Nat) (l:Array Bool) (σ:St) (a:Act) (w:World),l.size = ops.size → (∀ i,pre.length ≤ i → ¬ Dn l i) → Down ops l → left l ≤ fuel → Ok bn w0 bg N iT σ a w → MH Γ pre fH l σ → wpAny P .any ops Q fuel l a w:=by
 intro fuel
 have hcg:=iX hc
 have hlen:=hD.len
 obtain ⟨c1,c2,c3⟩:=tO (Γ:=Γ) hD hall pre.length (aji _)
 have htg:∀ s,get tm s = get (jw Γ fH.ob pre fH.tm pre.length) s:=fun s=>by rw [TR];exact Qw
 have ae1:∀ p ∈ tm,get tm p.1 = some p.2:=fun p hp=>by
  rw [htg]
  rw [TR] at hp
  exact CO hp
 have hpv:∀ j (h:j < pre.length),j ∈ lX → ∃ pv s,mG Γ true ⟨tm,fH.ob.filter (fun p=>!(jQ.flatMap (sS tm)).contains p.1)⟩ pre[j].1 = some (pv,s) ∧ ∀ s,pre[j].1.dst = some s → get tm s = some pv:=by
  intro j h hj
  have h1:=aju.mp Qx j hj
  rw [ajB,ajt h,Option.getD_some] at h1
  obtain ⟨q,hq⟩:=akB.mp h1
  obtain ⟨pv',s'⟩:=q
  refine ⟨pv',s',hq,fun s hs=>?_⟩
  obtain ⟨pv,st,hcj⟩:=hall j h
  obtain ⟨d1,d2,d3⟩:=tO (Γ:=Γ) hD hall j (by omega)
  have hV:=hD.fl j hj h
  obtain ⟨_,g1⟩:=tN (σ:=⟨tm,fH.ob.filter (fun p=>!(jQ.flatMap (sS tm)).contains p.1)⟩) (σ2:=⟨tm,fH.ob⟩) hV (fun _ _=>rfl) (fun k o hk=>(get_filter (p:=fun k=>!(jQ.flatMap (sS tm)).contains k) hk).2) hq
  have hsame:Same (rd pre[j].1) ⟨jw Γ fH.ob pre fH.tm j,fH.ob⟩ ⟨tm,fH.ob⟩:=by
   intro s hs
   show get tm s = get (jw Γ fH.ob pre fH.tm j) s
   rw [htg]
   by_cases hw:∃ i,∃ (hi:i < pre.length),pre[i].1.dst = some s
   ·obtain ⟨i,hi,his⟩:=hw
    have hie:=hD.data j h (by omega) s hs i hi his
    obtain ⟨pv',st',hc'⟩:=hall i hi
    rw [c1 i pv' st' hc' hi s his,d1 i pv' st' hc' (hD.lt j (by omega) i hie) s his]
   ·have hw':∀ i (h:i < pre.length),pre[i].1.dst ≠ some s:=fun i h e=>hw ⟨i,h,e⟩
    rw [c2 s (fun i h _=>hw' i h),d2 s (fun i h _=>hw' i h)]
  obtain ⟨_,g2⟩:=tN (σ2:=⟨tm,fH.ob⟩) hV hsame (fun k o hk=>hk) hcj.ev
  rw [g1] at g2
  simp only [ajq,ajr] at g2
  rw [htg,c1 j pv st hcj h s hs,g2.1]
 have over:∀ (fuel:Nat) (l:Array Bool) (σ:St) (a:Act) (w:World),l.size = ops.size → (∀ i,pre.length ≤ i → ¬ Dn l i) → Down ops l → left l ≤ fuel → Ok bn w0 bg N iT σ a w → MH Γ pre fH l σ → (∀ i,i < pre.length → i ∉ lX → Dn l i) → wpAny P .any ops Q fuel l a w:=by
  intro fuel l σ a w hl hno hdn hf h hI hdone
  refine VO (tm:=tm) (obS:=fH.ob) (Qv:=Qv) hD heq kR hC hc hQ ae1 hpv hE fuel 0 l σ.tm sob a w hl (ajT _) (fun i hi VP=>⟨fun hd=>absurd hd (hno i VP),fun hd=>by omega⟩) hdone hdn hf (by rw [akf];exact hL) (fun k o _ hk=>?_) (fun s hs=>?_) (h.less (fun _ hp=>hp) (fun p hp=>?_))
  ·rw [ZT,IW]
   ·exact hk
   ·intro p hp e
    obtain ⟨j,pv,st,hcj,hN,hpt⟩:=hnews p hp
    have hk':=ae0 hD hall hfr hcj hN p hpt
    have:=(jG.mp (hfr j hcj.lt hN)).1 _ (get_mem hk)
    exact this.1 (by show k = _;rw [← e,hk'])
  ·rw [htg]
   by_cases hw:∃ j,∃ (h:j < pre.length),pre[j].1.dst = some s
   ·obtain ⟨j,hj,hjs⟩:=hw
    obtain ⟨pv,st,hcj⟩:=hall j hj
    have hdj:Dn l j:=ajV fun hn=>hs j hj hn hjs
    rw [c1 j pv st hcj hj s hjs]
    exact hI.tg1 j pv st hcj hdj s hjs
   ·have hw':∀ j (h:j < pre.length),pre[j].1.dst ≠ some s:=fun j h e=>hw ⟨j,h,e⟩
    rw [c2 s (fun j h _=>hw' j h)]
    exact hI.tg2 s (fun j h _=>hw' j h)
  ·rw [ZT] at hp
   rcases ajJ.mp hp with hp | hp
   ·obtain ⟨j,pv,st,hcj,hN,hpt⟩:=hnews p hp
    refine hI.ob2 j pv st hcj (hdone j hcj.lt (fun hj=>?_)) hN p hpt
    exact CK (hD.fl j hj hcj.lt) hN
   ·obtain ⟨news,ho,_⟩:=hI.ob1
    rw [ho]
    exact List.mem_append_right _ hp
 induction fuel with
 | zero =>
  intro l σ a w hl hno hdn hf h hI
  refine over 0 l σ a w hl hno hdn hf h hI fun i hi _=>?_
  apply ajV
  intro hn
  have:=oh (l:=l) (i:=i) (by omega) hn
  omega
 | succ fuel ih =>
  intro l σ a w hl hno hdn hf h hI
  by_cases hdone:∀ i,i < pre.length → i ∉ lX → Dn l i
  ·exact over (fuel + 1) l σ a w hl hno hdn hf h hI hdone
  ·have:∃ i,i < pre.length ∧ i ∉ lX ∧ ¬ Dn l i:=by
    apply ajV
    intro hc
    exact hdone fun i hi hif=>ajV fun hn=>hc ⟨i,hi,hif,hn⟩
   obtain ⟨i0,hi0,ae2,hn0⟩:=this
   rw [kV]
   refine ⟨fun hn=>absurd hn (p9 hD hl (by omega) hn0),fun i hi=>?_⟩
   obtain ⟨hi1,hi2,hi3⟩:=(gq hl).mp hi
   have him:i < pre.length:=by
    apply ajV
    intro hge
    rcases hD.tl i (by omega) hi1 i0 (by omega) with hb | ⟨_,hb,_⟩
    ·exact hn0 (hdn.ZP hD hb (fun _=>hi3))
    ·exact ae2 hb
   obtain ⟨pv,σ1,h1,h2⟩:=ZR hD hall hfr hI hl hdn him hi1 hi2 hi3
   unfold wpOp
   rw [ajK hi1]
   have hg:=hcg.2 i (by simpa using hi1) (by simp;omega)
   rw [List.getElem_append_left (by simpa using him)] at hg
   simp only [akp,Array.getElem_toList] at hg
   refine wY heq kR hC hg h h1 fun a' w' h'=>?_
   refine ih _ _ a' w' (by simp [hl]) (fun j hj hd=>?_) (p8 hdn hl hi1 hi3) ?_ h' h2
   ·rcases (Dn.set (by omega)).mp hd with rfl | hd
    ·omega
    ·exact hno j hj hd
   ·have:=oh (l:=l) (i:=i) (by omega) hi2
    omega
theorem VR {id:Nat} (hm:P.follows .mixedOrders = true) (hD:MG ops pre lX jQ rest) (heq:∀ t ∈ X.eqs,lJ P t) (kR:iy P Γ) (hC:dN P Γ) (hc:j5 P X ops N.ok ops.toList = some (pre.map (·.1) ++ (jQ ++ rest))) (h:Ok bn w0 bg N iT σ a w) (hE:Yl Γ pre lX jQ rest σ = some σ')
  (hQ:∀ a' w',Ok bn w0 bg N iT σ' a' w' → Q .normal a' w'):(Code.region id ops true).wp P Q a w:=by
 refine wp_region_any hm ?_
 unfold Yl at hE
 split at hE
 ·rename_i hfr
  obtain ⟨s,h1,h2⟩:=zbm hE
  split at h2
  ·rename_i Qx
   obtain ⟨ob,h3,h4⟩:=zbm h2
   obtain ⟨e1,e2,news,e3,e4⟩:=Er (Γ:=Γ) (rD:=σ.ob) (pre:=pre) (zZ:=σ.tm) pre.length 0 σ.ob s (by omega) (by rw [akf];exact h1)
   have hall:∀ j,j < pre.length → ∃ pv st,Can Γ σ.ob pre σ.tm j pv st:=fun j hj=>e1 j (by omega) hj
   have ZU:∀ i (h:i < pre.length),gP pre[i].1.i = true → fresh σ (dA (pre[i].1.dst.getD 999)) = true:=by
    intro i hi hN
    have:=aju.mp hfr pre[i] (ak1 hi)
    rw [hN] at this
    exact this
   have hoff:∀ i,¬ Dn (Array.replicate ops.size false) i:=by
    intro i hd
    unfold Dn at hd
    rw [ajW,Array.getElem?_replicate] at hd
    split at hd <;> simp at hd
   rw [e2] at Qx h3 h4
   refine VQ (fH:=σ) hD heq kR hC hc hQ hall ZU rfl e3 (fun p hp=>?_) Qx h3 h4 ops.size _ σ a _ (by simp) (fun i _=>hoff i) (fun i hi hd=>absurd hd (hoff i)) ?_ ?_ ⟨fun i pv st h hd=>absurd hd (hoff i),fun s _=>rfl,⟨[],rfl,fun p hp=>by simp at hp⟩,fun i pv st h hd=>absurd hd (hoff i),fun i hi hN _=>ZU i hi hN⟩
   ·obtain ⟨j,pv,st,_,_,h5,h6,h7⟩:=e4 p hp
    exact ⟨j,pv,st,h5,h6,h7⟩
   ·unfold left
    exact ajA (List.length_filter_le _ _) (by simp)
   ·obtain ⟨Fz,κ,hr,hk⟩:=h
    exact ⟨Fz,κ,hr.grow (w':={ w with drawn:=w.drawn + 1 }) (aji _) (fun _ _=>rfl) ⟨rfl,rfl⟩,hk⟩
  ·cases h2
 ·cases hE
end
end
section
open Go
def Ext (w w':World):Prop:=w.heap.size ≤ w'.heap.size ∧ ∀ b,b < w.heap.size → w'.heap[b]? = w.heap[b]?
theorem Ext.refl (w:World):Ext w w:=⟨aji _,fun _ _=>rfl⟩
theorem Ext.trans {w w1 w2:World} (h:Ext w w1) (h':Ext w1 w2):Ext w w2:=⟨ajA h.1 h'.1,fun b hb=>(h'.2 b (ajP hb h.1)).trans (h.2 b hb)⟩
theorem Ext.cell {w w':World} (h:Ext w w') {b o:Nat} {v:Value} (hc:w.cell? ⟨b,o,none⟩ = some v):w'.cell? ⟨b,o,none⟩ = some v:=by
 have hb:b < w.heap.size:=by
  apply ajV
  intro hn
  have:w.heap[b]? = none:=akl (by omega)
  simp [World.cell?,this] at hc
 rw [cell_of (h.2 b hb),hc]
section
variable {P : Program} {Γ:Env} {bn Fz:Nat → Prop} {w0 w:World} {bg:List Nat} {N:Fr} {d:Nat} {q:Bool} {κ:Nat → Value} {σ σ':St} {a:Act} {pv:PV} {o:Oper}
theorem qh {t:TypeId} {g:Bool} {n b o:Nat} {xs:List PL} {vs:List Value} {u:CV} (hg:uT P t = some g) (hn:lI P t = some n) (hx:aT Fz κ w xs vs) (hc:∀ j v,vs[j]? = some v → w.cell? ⟨b,o + j,none⟩ = some v)
  (hl:vs.length = if g then n else 1) (hm:mk g xs = some u):∃ v,(∀ w',Ext w w' → (loadVar t ⟨b,o,none⟩).run P w' = .ok v w') ∧ fU Fz κ w u v:=by
 unfold loadVar
 cases g with
 | true =>
  cases hm
  refine ⟨.agg vs.toArray,fun w' hw=>?_,vs.toArray,rfl,hx⟩
  have:=vS (P:=P) (w:=w') b o vs (fun j v h=>hw.cell (hc j v h))
  rw [hl,ajd rfl] at this
  simp only [Sem.run_bind,mh hg,nT hn,this,Result.andThen_ok,ajL,Sem.run_pure]
 | false =>
  simp only [mk,ajF,ajy] at hm
  split at hm
  ·rename_i x
   cases hm
   cases vs with
   | nil=>exact hx.elim
   | cons v vs =>
    have h1:=hc 0 v rfl
    rw [Nat.add_zero] at h1
    refine ⟨v,fun w' hw=>?_,hx.1⟩
    simp only [Sem.run_bind,mh hg,Result.andThen_ok,ajF,ajy]
    rw [run_load,hw.cell h1]
  ·cases hm
theorem MI (h:Rel bn w0 bg N Fz κ σ a w) {t:TypeId} {x:Operand} {x':dM} {g:Bool} {n:Nat} (hg:uT P t = some g) (hn:lI P t = some n) (hx:fB x = some x') (hE:bZ Γ q σ d (.load (if g then n else 1) g x') = some (pv,σ')) :
  σ' = σ ∧ ∃ v,(∀ w',Ext w w' → (Instr.loadAt t (a.eval x)).run P w' = .ok v w') ∧ iH Fz κ w pv v:=by
 obtain ⟨v,h1,h2⟩:=zbm hE
 have hv:=h.eval hx h1
 split at h2
 ·rename_i key off
  split at h2
  ·rename_i xs fV
   obtain ⟨l,h3,h4⟩:=zbm h2
   obtain ⟨u,h5,h6⟩:=zmm h4
   cases h6
   obtain ⟨b,e1,e2⟩:=hv
   obtain ⟨b',cs,e,e3,e4,e5⟩:=h.obj fV
   rw [e1] at e3
   cases e3
   obtain ⟨e6,e7,e8⟩:=e5.seg h3
   obtain ⟨r,e9,e10⟩:=qh (P:=P) (b:=b) (o:=off) hg hn e6 (fun j v hj=>by
    have:=kU (w:=w) (b:=b) (o:=0) (off:=off) (vs:=cs.toList) (n:=if g then n else 1) (fun j v hj=>by
     rw [ajI]
     simp only [World.cell?,e4]
     simpa using hj) j v hj
    rwa [ajI] at this) e7 h5
   exact ⟨rfl,r,fun w' hw=>by rw [e2];exact e9 w' hw,e10⟩
  ·cases h2
 ·rename_i cs
  obtain ⟨l,h3,h4⟩:=zbm h2
  obtain ⟨u,h5,h6⟩:=zmm h4
  cases h6
  obtain ⟨b,o,e1,e2,e3⟩:=hv
  obtain ⟨vs,e4,e5⟩:=e3.cells
  obtain ⟨e6,e7,e8⟩:=e4.seg h3
  obtain ⟨r,e9,e10⟩:=qh (P:=P) (b:=b) (o:=o) hg hn (e6.Yn (κ:=κ)) (fun j v hj=>by
    have:=kU (w:=w) (b:=b) (o:=o) (off:=0) e5 j v hj
    rwa [Nat.add_zero] at this) e7 h5
  exact ⟨rfl,r,fun w' hw=>by rw [e1];exact e9 w' hw,e10⟩
 ·rename_i key z i off
  split at h2
  ·rename_i sz rows fV
   split at h2
   ·cases h2
   ·rename_i hz
    obtain ⟨rr,h3,h4⟩:=zbm h2
    obtain ⟨l,h5,h6⟩:=zbm h4
    obtain ⟨u,h7,h8⟩:=zmm h6
    cases h8
    obtain ⟨b,n',c,e1,e2⟩:=hv
    obtain ⟨e3,vs,e4,e5⟩:=Iu (h.obj fV) e1 h3
    have hz':sz = z:=ajU.mp hz
    subst hz'
    obtain ⟨e6,e7,e8⟩:=e4.seg h5
    obtain ⟨r,e9,e10⟩:=qh (P:=P) (b:=b) (o:=i * sz + off) hg hn (e6.Yn (κ:=κ)) (kU e5) e7 h7
    exact ⟨rfl,r,fun w' hw=>by rw [e2];exact e9 w' hw,e10⟩
  ·cases h2
 ·cases h2
theorem MJ (h:Rel bn w0 bg N Fz κ σ a w) {x:Operand} {x':dM} (hx:fB x = some x') (hE:bZ Γ q σ d (.gY x') = some (pv,σ')) (ho:o.op = .nilCheck x) :
  σ' = σ ∧ ∃ v,(∀ w',(execOp a.eval o).run P w' = .ok (.value v) w') ∧ iH Fz κ w pv v:=by
 obtain ⟨v,h1,h2⟩:=zbm hE
 have hv:=h.eval hx h1
 have key:∀ ad,a.eval x = .pointer (some ad) → σ' = σ → pv = .c v → σ' = σ ∧ ∃ v,(∀ w',(execOp a.eval o).run P w' = .ok (.value v) w') ∧ iH Fz κ w pv v:=by
  intro ad he e1 e2
  subst e1 e2
  refine ⟨rfl,.pointer (some ad),fun w'=>?_,by rw [← he];exact hv⟩
  unfold execOp
  simp only [ho,he]
  rfl
 split at h2
 ·cases h2;obtain ⟨b,_,e⟩:=hv;exact key _ e rfl rfl
 ·cases h2;obtain ⟨b,_,e,_⟩:=hv;exact key _ e rfl rfl
 ·cases h2;obtain ⟨b,_,_,_,e⟩:=hv;exact key _ e rfl rfl
 ·cases h2
theorem VT (h:Rel bn w0 bg N Fz κ σ a w) {op:BinOp} {c:Ar} {t:TypeId} {x y:Operand} {x' y':dM} (ho:Ym op = some c) (hx:fB x = some x') (hy:fB y = some y') (hE:bZ Γ q σ d (.ar c x' y') = some (pv,σ')) :
  σ' = σ ∧ ∃ v,(∀ w',(do eqGuard op t x y (a.eval x) (a.eval y);binOp op t (a.eval x) (a.eval y):Sem Value).run P w' = .ok v w') ∧ iH Fz κ w pv v:=by
 obtain ⟨u,h1,h2⟩:=zbm hE
 obtain ⟨v,h3,h4⟩:=zbm h2
 obtain ⟨m,h5,h6⟩:=zbm h4
 obtain ⟨n,h7,h8⟩:=zbm h6
 split at h8
 ·rename_i hk
  obtain ⟨r,h9,h10⟩:=zbm h8
  cases h10
  have e1:=iA h5 (h.eval hx h1)
  have e2:=iA h7 (h.eval hy h3)
  obtain ⟨k,m⟩:=m
  obtain ⟨k',n⟩:=n
  simp only at hk e1 e2 h9
  subst hk
  refine ⟨rfl,.int k r,fun w'=>?_,rfl⟩
  rw [e1,e2]
  exact jZ nS (Av ho h9)
 ·cases h8
theorem VU (h:Rel bn w0 bg N Fz κ σ a w) {t e:TypeId} {sz:Nat} {x y:Operand} {x' y':dM} (hu:TL P t = some e) (hn:lI P e = some sz) (hx:fB x = some x') (hy:fB y = some y') (hE:bZ Γ q σ d (.ia sz x' y') = some (pv,σ')) :
  σ' = σ ∧ ∃ v,(∀ w',(Instr.indexAt t (a.eval x) (a.eval y)).run P w' = .ok v w') ∧ iH Fz κ w pv v:=by
 obtain ⟨v,h1,h2⟩:=zbm hE
 obtain ⟨j,h3,h4⟩:=zbm h2
 obtain ⟨p,h5,h6⟩:=zbm h4
 have hv:=h.eval hx h1
 have hj:=iA h5 (h.eval hy h3)
 have run:∀ b o len c,a.eval x = .slice (some ⟨b,o,none⟩) len c → 0 ≤ p.2 → p.2 < len → ∀ w',(Instr.indexAt t (a.eval x) (a.eval y)).run P w' = .ok (.pointer (some ⟨b,o + p.2.toNat * sz,none⟩)) w':=by
  intro b o len c he h0 hl w'
  rw [he,hj]
  unfold Instr.indexAt
  simp only [Sem.run_bind,iV,run_underlying (uV hu),Result.andThen_ok,Sem.run_pure]
  simp only [ajd (And.intro h0 hl),Sem.run_bind,nT hn,Result.andThen_ok,Sem.run_pure,mJ]
 split at h6
 ·rename_i h0
  split at h6
  ·rename_i rows
   obtain ⟨r,h7,h8⟩:=zbm h6
   split at h8
   ·rename_i hl
    cases h8
    simp only [fU,eu,fA] at hv
    obtain ⟨A,c,e1,e2,e3,e4⟩:=hv
    rcases e4 with e4 | ⟨b,o,sz',rfl,e5,e6⟩
    ·subst e4;simp at h7
    ·obtain ⟨e7,e8⟩:=e6.get h7
     have hlt:p.2.toNat < rows.length:=(aj5.mp h7).1
     have:sz' = sz:=by omega
     subst this
     exact ⟨rfl,_,run b o _ c e1 h0 (by omega),b,_,rfl,e5,e8⟩
   ·cases h8
  ·rename_i key n
   split at h6
   ·rename_i sz' rows fV
    split at h6
    ·rename_i hc
     cases h6
     obtain ⟨e1,A,c,e2⟩:=hv
     obtain ⟨h00,e,inner,A',c',e3,e4,e5⟩:=h.obj fV
     obtain ⟨e6,e7⟩:=e4
     rcases e7 with ⟨e7,e8⟩ | ⟨g,cap,cur,e7,e8⟩
     ·exfalso
      rw [hc.2.2,e8] at hc
      have:=hc.2.1
      omega
     ·rw [e2] at e1
      rw [e7] at e1
      injection e1 with e9 e10 e11
      subst e9
      refine ⟨rfl,_,run g 0 n c e2 h0 hc.2.1,g,_,_,e7,?_⟩
      simp
    ·cases h6
   ·cases h6
  ·cases h6
 ·cases h6
end
section
variable {P : Program} {ops:Array Oper} {Q:Exit → Act → World → Prop} {M:Nat → Bool} {S:World → Prop}
def VW (P:Program) (ops:Array Oper) (Q:Exit → Act → World → Prop) (M:Nat → Bool) (S:World → Prop):Nat → Array Bool → Act → World → Prop
 | 0,l,a,w=>Region.ready .any ops l = [] ∧ Q .normal a w
 | n + 1,l,a,w=>(Region.ready .any ops l = [] → Q .normal a w) ∧ ∀ i ∈ Region.ready .any ops l,wpOp P ops Q i (fun a' w'=>(M i = true → S w → S w') ∧ VW P ops Q M S n (l.setIfInBounds i true) a' w') a w
theorem IX : ∀ (n:Nat) (l:Array Bool) (a:Act) (w:World),VW P ops Q M S n l a w → wpAny P .any ops Q n l a w
 | 0,_,_,_,h=>h
 | n + 1,_,_,_,h=>⟨h.1,fun i hi=>wpOp_mono (fun a' w' h'=>IX n _ a' w' h'.2) (h.2 i hi)⟩
theorem Kg {i:Nat} {oi:Oper} {v:Value} (hi:ops[i]? = some oi) (hsel:∀ (j:Nat) (o:Oper) cs b,ops[j]? = some o → o.op ≠ .select cs b) (hQ:∀ c a w,¬ Q (.panic c) a w)
  (hM:∀ l j,l.size = ops.size → Down ops l → j ∈ Region.ready .any ops l → ¬ Dn l i → j ≠ i → M j = true) :
  ∀ (n:Nat) (l:Array Bool) (a:Act) (w:World),l.size = ops.size → Down ops l → (∀ j oj,ops[j]? = some oj → j ≠ i → l.getD j true = false → (∀ e ∈ oj.after,Region.binds .any e = true → e.on ≠ i) → oi.apart ops oj = true) →
   i ∈ Region.ready .any ops l → YieldsIf P ops S oi v a → S w → VW P ops Q M S n (l.setIfInBounds i true) (a.put oi.dst v) w → VW P ops Q M S (n + 1) l a w:=by
 intro n
 induction n with
 | zero =>
  intro l a w _ _ _ hr hy hS H
  refine ⟨fun h=>(by rw [h] at hr;cases hr),fun j hj=>?_⟩
  by_cases hji:j = i
  ·subst hji;exact hy.wpOp hi hS ⟨fun _ _=>hS,H⟩
  ·have:=ready_mono hj hji
   rw [H.1] at this
   cases this
 | succ n ih =>
  intro l a w hl hdn hfree hr hy hS H
  refine ⟨fun h=>(by rw [h] at hr;cases hr),fun j hj=>?_⟩
  by_cases hji:j = i
  ·subst hji;exact hy.wpOp hi hS ⟨fun _ _=>hS,H⟩
  ·have h1:=H.2 j (ready_mono hj hji)
   obtain ⟨hjun,oj,hoj,hall⟩:=mem_ready.1 hj
   have hnot:∀ e ∈ oj.after,Region.binds .any e = true → e.on ≠ i:=fun e he hb heq=>by
    have h1:=hall e he hb
    have h0:=(mem_ready.1 hr).1
    rw [heq] at h1
    rcases akt i l.size with h' | h'
    ·simp [h'] at h0 h1;rw [h0] at h1;cases h1
    ·simp [akl h'] at h1
   have hap:=hfree j oj hoj hji hjun hnot
   obtain ⟨hj1,hj2,hj3⟩:=(gq hl).mp hj
   have hMj:=hM l j hl hdn hj ((gq hl).mp hr).2.1 hji
   have h2:=wpOp_putIf hoj hap (fun cs b=>hsel i oi cs b hi) (fun cs b=>hsel j oj cs b hoj) (fun c a w h=>absurd h (hQ _ _ _)) hy h1
   have hfree':∀ k ok,ops[k]? = some ok → k ≠ i → (l.setIfInBounds j true).getD k true = false → (∀ e ∈ ok.after,Region.binds .any e = true → e.on ≠ i) → oi.apart ops ok = true:=fun k ok hk hki hun hno=>by
    refine hfree k ok hk hki ?_ hno
    by_cases hjk:j = k
    ·subst hjk;exact hjun
    ·rw [getD_set_ne true hjk] at hun;exact hun
   refine wpOp_mono (fun a' w' h3=>⟨fun _ _=>h3.2.1 hMj hS,ih (l.setIfInBounds j true) a' w' (by simp [hl]) (p8 hdn hl hj1 hj3) hfree' (ready_mono hr (Ne.symm hji)) h3.1 (h3.2.1 hMj hS) ?_⟩) h2
   rw [Array.setIfInBounds_comm _ _ hji]
   exact h3.2.2
theorem Gy {i:Nat} {o:Oper} {e:TypeId} {z:List PL} (hi:ops[i]? = some o) (ho:o.op = .alloc e) (hz:Ap P e = some z) {w1:World} {K:Act → World → Prop} {a:Act} {w:World} (h:wpOp P ops Q i K a w) :
  wpOp P ops Q i (fun a' w'=>(Ext w1 w → Ext w1 w') ∧ K a' w') a w:=by
 unfold wpOp at *
 simp only [hi] at *
 split
 ·rename_i hw
  rw [ajd hw] at h
  rcases h with h | h
  ·refine .inl ?_
   unfold Oper.wp at *
   have hr:∃ v x,(execOp a.eval o).run P w = .ok (.value v) (w.alloc x):=by
    obtain ⟨i,h3,h4⟩:=zbm hz
    obtain ⟨zv,h5,h6⟩:=zbm h4
    unfold execOp
    simp only [ho]
    unfold Instr.alloc
    simp only [Sem.run_bind,zeroValue,typeInfo]
    simp [h3,h5,newVar,newRow]
    exact ⟨_,rfl⟩
   obtain ⟨v,x,hr⟩:=hr
   rw [hr] at h ⊢
   simp only [Oper.upon] at h ⊢
   obtain ⟨_,g1,g2⟩:=mq w x
   exact ⟨fun hx=>hx.trans ⟨by omega,g1⟩,h⟩
  ·exact .inr h
 ·rename_i hw
  rw [aje hw] at h
  exact ⟨id,h⟩
end
end
section
open Go
def jL : List (List Nat) → List (List Nat) → List (List Nat)
 | acc,[]=>acc
 | acc,es :: l=>jL (acc ++ [(List.range acc.length).filter fun x=>es.any fun e=>e == x || (acc.getD e []).contains x]) l
def CP : List G → Nat
 | []=>0
 | g :: l=>if Qt g.i || (gP g.i && g.gd.isNone) then CP l + 1 else 0
def VX {α:Type} (n:Nat) (k:Nat → α):α:=match n with
 | 0=>k 0
 | j + 1=>k (j + 1)
theorem Gz {α:Type} {n:Nat} {k:Nat → α}:VX n k = k n:=by cases n <;> rfl
def ZV : Nat → List (List Nat) → Nat
 | i,[]=>i
 | i,es :: l=>VX (ZV (i + 1) l) fun r=>if r == i + 1 && es.length == i then i else r
def ZW (C:List (List Nat)) (gs:List G):Nat:=min (CP gs) (ZV 0 C)
def MK (gs:List G) (C:List (List Nat)) (m j:Nat):List Nat:=((List.range m).filter fun i=>i != j && gP (gs.getD i default).i && !(C.getD j []).contains i).map fun i=>dA ((gs.getD i default).dst.getD 999)
def TS : List G → Nat
 | []=>0
 | g :: l=>if isLt g then TS l + 1 else 0
def ZX (C:List (List Nat)) (m nl:Nat):List Nat:=(List.range m).filter fun j=>(List.range nl).any fun t=>!(C.getD (m + t) []).contains j
def ae3 (lX:List Nat) (n:Nat):Nat:=if lX.isEmpty then 0 else n
def VY (E C:List (List Nat)) (gs:List G) (n m:Nat) (lX:List Nat) (nl:Nat):Bool :=
 (List.range n).all (fun i=>(E.getD i []).all (· < i)) &&
 (List.range m).all (fun i=>(rd (gs.getD i default)).all fun s=>(List.range m).all fun j=>!((gs.getD j default).dst == some s) || (E.getD i []).contains j) &&
 (List.range m).all (fun i=>(List.range m).all fun j=>i == j || (gs.getD i default).dst.isNone || !((gs.getD i default).dst == (gs.getD j default).dst)) &&
 (List.range m).all (fun i=>Qt (gs.getD i default).i || (gP (gs.getD i default).i && (gs.getD i default).gd.isNone)) &&
 (List.range n).all (fun k=>k < m || (List.range k).all fun j=>(C.getD k []).contains j || (j < m && lX.contains j && k < m + nl)) &&
 lX.all (fun j=>Qt (gs.getD j default).i) &&
 ((gs.drop m).take nl).all isLt &&
 (List.range nl).all (fun t=>(rd (gs.getD (m + t) default)).all fun s=>(List.range m).all fun j=>!((gs.getD j default).dst == some s) || (E.getD (m + t) []).contains j)
structure Hi where
 ks:List Nat
 BX:List Nat
 rws:List (Nat × Nat)
def ZY (k:Array Bool → Option (List (List Nat))) (l:Array Bool):List Nat → Option (List (List Nat))
 | []=>some []
 | i :: is=>(k (l.setIfInBounds i true)).bind fun a=>(ZY k l is).map fun b=>a.map (i :: ·) ++ b
def ML (ops:Array Oper) (i:Nat):Bool:=match ops[i]? with
 | some o=>(match o.op with
  | .move _=>true
  | .assign _=>true
  | .fieldAddr _ _ _=>true
  | .build _ _=>true
  | .extract _ _=>true
  | _=>false)
 | none=>false
def exts (ops:Array Oper):Nat → Array Bool → Option (List (List Nat))
 | 0,l=>if Region.ready .any ops l = [] then some [[]] else none
 | n + 1,l=>match Region.ready .any ops l with
  | []=>some [[]]
  | i :: is=>match (i :: is).find? (fun j=>ML ops j && Region.free .any ops l j) with
   | some j=>(exts ops n (l.setIfInBounds j true)).map fun a=>a.map (j :: ·)
   | none=>ZY (exts ops n) l (i :: is)
def Z0 : Nat → List Nat → Nat
 | i,[]=>i
 | i,j :: l=>if i == j then Z0 (i + 1) l else i
def Ew (C:List (List Nat)):Nat → Nat → Nat
 | 0,_=>C.length
 | n + 1,k=>VX (Ew C n (k + 1)) fun r=>VX (Z0 0 (C.getD k [])) fun p=>if p < k then min p r else r
def IY (E C:List (List Nat)) (n h:Nat):Bool:=(List.range n).all (fun i=>(E.getD i []).all (· < i)) && (List.range n).all fun k=>(C.getD k []).take (min k h) == List.range (min k h)
def mask (h n:Nat):Array Bool:=(List.replicate h true ++ List.replicate (n - h) false).toArray
def MN (ops:Array Oper):Option (List (List Nat)) :=
 let E:=ops.toList.map iU
 let C:=jL [] E
 VX (Ew C ops.size 0) fun h=>if h ≤ ops.size ∧ IY E C ops.size h = true then (exts ops (ops.size - h) (mask h ops.size)).map fun a=>a.map (List.range h ++ ·) else none
def Qy (ops:Array Oper) (i:Nat):Bool:=ML ops i || match ops[i]? with
 | some o=>(match o.op with
  | .load _ _=>true
  | .nilCheck _=>true
  | .binOp .sub _ _ _ _=>true
  | .indexAddr _ _ (.tmp _)=>true
  | _=>false)
 | none=>false
def GA (ops:Array Oper) (i:Nat):Bool:=match ops[i]? with
 | some o=>(match o.op with
  | .alloc _=>true
  | _=>false)
 | none=>false
def MO (ops:Array Oper):Nat → Nat → Nat
 | 0,i=>i
 | n + 1,i=>if Qy ops i then MO ops n (i + 1) else i
def GD (E C:List (List Nat)) (ops:Array Oper) (h:Nat):Bool:=(List.range ops.size).all (fun i=>(E.getD i []).all (· < i)) && ((List.range h).all (fun i=>Qy ops i && Region.free .any ops (mask i ops.size) i) && (List.range ops.size).all fun k=>decide (k < h) || GA ops k || (C.getD k []).take h == List.range h)
def MP (ops:Array Oper):Option (List (List Nat)) :=
 let E:=ops.toList.map iU
 let C:=jL [] E
 VX (MO ops ops.size 0) fun h=>if h ≤ ops.size ∧ GD E C ops h = true then (exts ops (ops.size - h) (mask h ops.size)).map fun a=>a.map (List.range h ++ ·) else none
def Z4 (P:Program) (X:Hx) (N:Nat → Bool) (ops:Array Oper) (draw:Bool) (ks BX:List Nat):Option CC :=
 (j5 P X ops N ops.toList).bind fun gs=>match draw with
  | false=>some (.reg gs ks)
  | true=>match BX with
   | 0 :: _=>if Region.noSelect ops then (MP ops).map fun o=>.any gs o ks BX else none
   | _ :: _=>if Region.noSelect ops then (MN ops).map fun o=>.any gs o ks BX else none
   | [] =>
   let E:=ops.toList.map iU
   let C:=jL [] E
   VX (ZW C gs) fun m =>
   let nl0:=TS (gs.drop m)
   let lX:=ZX C m nl0
   let nl:=ae3 lX nl0
   if VY E C gs ops.size m lX nl then some (.sH ((List.range m).map fun j=>(gs.getD j default,MK gs C m j)) lX ((gs.drop m).take nl) ((gs.drop m).drop nl) ks) else none
def comp (P:Program) (X:Hx) (N:Nat → Bool):Code → List Hi → Option (CC × List Hi)
 | .skip,h=>some (.skip,h)
 | .region _ ops draw,h=>match h with
  | []=>none
  | k :: h=>(Z4 P X N ops draw k.ks k.BX).map fun c=>(c,h)
 | .seq x y,h=>(comp P X N x h).bind fun p=>(comp P X N y p.2).map fun r=>(.seq p.1 r.1,r.2)
 | .cond c x y,h=>(fB c).bind fun o=>(comp P X N x h).bind fun p=>(comp P X N y p.2).map fun r=>(.cond o p.1 r.1,r.2)
 | .block id c,h=>(comp P X N c h).map fun p=>(.block id p.1,p.2)
 | .loop c,h=>match h with
  | []=>none
  | k :: h=>(comp P X N c h).map fun p=>(.loop k.ks k.BX k.rws p.1,p.2)
 | .exit id,h=>some (.exit id,h)
 | .ret,h=>some (.ret,h)
 | .scope c,h=>comp P X N c h
 | .label _,h=>some (.skip,h)
 | _,_=>none
section
variable {P : Program} {Γ:Env} {bn:Nat → Prop} {w0 w w':World} {bg:List Nat} {N:Fr} {F:Nat} {iT:Nat → Value} {σ fH σ':St} {a:Act} {X:Hx} {ops:Array Oper} {gs:List G} {Q:Exit → Act → World → Prop}
theorem yA : ∀ (l acc:List (List Nat)),(∀ j,∀ x ∈ acc.getD j [],Ke ops x j) → (∀ k,k < l.length → ∃ h:acc.length + k < ops.size,l[k]? = some (iU ops[acc.length + k])) → ∀ j,∀ x ∈ (jL acc l).getD j [],Ke ops x j
 | [],acc,h,_=>h
 | es :: l,acc,h,hl=>by
  unfold jL
  obtain ⟨h0,h1⟩:=hl 0 (by simp)
  simp only [List.getElem?_cons_zero,ajq,Nat.add_zero] at h1
  refine yA l _ (fun j x hx=>?_) (fun k hk=>?_)
  ·rw [ajB,akX] at hx
   split at hx
   ·rename_i hj
    exact h j x (by rw [ajB];exact hx)
   ·by_cases hj:j - acc.length = 0
    ·have hje:j = acc.length:=by omega
     subst hje
     simp only [Nat.sub_self,List.getElem?_cons_zero,Option.getD_some] at hx
     obtain ⟨_,hx⟩:=akG.mp hx
     obtain ⟨e,he,hor⟩:=ake.mp hx
     rw [h1] at he
     rw [aj9] at hor
     rcases hor with hor | hor
     ·have:e = x:=by simpa using hor
      subst this
      exact .dir h0 he
     ·exact .step h0 he (h e x (by simpa using hor))
    ·rw [akC (by simp;omega)] at hx
     simp at hx
  ·obtain ⟨h2,h3⟩:=hl (k + 1) (by simpa using hk)
   simp only [ajl,List.length_cons,List.length_nil]
   refine ⟨by omega,?_⟩
   simp only [List.getElem?_cons_succ] at h3
   rw [h3]
   congr 3
   omega
theorem AQ : ∀ (gs:List G),CP gs ≤ gs.length
 | []=>aji _
 | g :: l=>by
  unfold CP
  have:=AQ l
  split <;> simp <;> omega
theorem Qz (C:List (List Nat)) (gs:List G):ZW C gs ≤ gs.length:=by
 exact ajA (Nat.min_le_left _ _) (AQ gs)
theorem Kh {lX:List Nat} {nl m:Nat} (hm:m ≤ gs.length) (h:j5 P X ops N.ok ops.toList = some gs) (hb:VY (ops.toList.map iU) (jL [] (ops.toList.map iU)) gs ops.size m lX nl = true) :
  MG ops ((List.range m).map fun j=>(gs.getD j default,MK gs (jL [] (ops.toList.map iU)) m j)) lX ((gs.drop m).take nl) ((gs.drop m).drop nl) ∧
  ((List.range m).map fun j=>(gs.getD j default,MK gs (jL [] (ops.toList.map iU)) m j)).map (·.1) ++ ((gs.drop m).take nl ++ (gs.drop m).drop nl) = gs:=by
 obtain ⟨hlen,_⟩:=iX h
 rw [Array.length_toList] at hlen
 unfold VY at hb
 simp only [ajk] at hb
 obtain ⟨⟨⟨⟨⟨⟨⟨b1,b2⟩,b3⟩,b4⟩,b5⟩,b6⟩,b7⟩,b8⟩:=hb
 have hE:∀ i (hi:i < ops.size),(ops.toList.map iU).getD i [] = iU ops[i]:=by
  intro i hi
  rw [ajB,ajo,akr,ajK hi]
  rfl
 have hC:∀ j,∀ x ∈ (jL [] (ops.toList.map iU)).getD j [],Ke ops x j:=yA _ _ (fun j x hx=>by simp at hx) (fun k hk=>by
  have hk':k < ops.size:=by simpa using hk
  refine ⟨by simpa using hk',?_⟩
  rw [ajo,akr,ajK hk']
  simp)
 refine ⟨⟨?_,fun i hi e he=>?_,fun i hi hi' s hs j hj hjs=>?_,fun i j hi hj hne s h1 h2=>?_,fun i hi=>?_,fun i j hi hj hne hN=>?_,fun k h1 h2 j hj=>?_,fun j hj h=>?_,fun g hg=>aju.mp b7 g hg,fun t ht ht' s hs j hj hjs=>?_⟩,?_⟩
 ·simp only [ajg,akD,ajG,ajv]
  omega
 ·have:=aju.mp b1 i (ajQ.mpr hi)
  rw [hE i hi] at this
  have:=aju.mp this e he
  simpa using this
 ·simp only [ajg,akD] at hi hj
  simp only [akp,akT] at hs hjs
  have:=aju.mp b2 i (ajQ.mpr hi)
  have:=aju.mp this s hs
  have:=aju.mp this j (ajQ.mpr hj)
  rw [hjs,hE i hi'] at this
  simpa using this
 ·simp only [ajg,akD] at hi hj
  simp only [akp,akT] at h1 h2
  have:=aju.mp b3 i (ajQ.mpr hi)
  have:=aju.mp this j (ajQ.mpr hj)
  rw [h1,h2] at this
  simp [hne] at this
 ·simp only [ajg,akD] at hi
  have:=aju.mp b4 i (ajQ.mpr hi)
  simp only [akp,akT]
  rw [aj9,ajk] at this
  rcases this with h | h
  ·exact .inl h
  ·exact .inr ⟨h.1,by simpa using h.2⟩
 ·simp only [ajg,akD] at hi hj
  simp only [akp,akT] at hN ⊢
  cases hcc:((jL [] (ops.toList.map iU)).getD j []).contains i with
  | true=>exact .inr (hC j i (by simpa using hcc))
  | false =>
   left
   unfold MK
   refine ajD.mpr ⟨i,akG.mpr ⟨ajQ.mpr hi,?_⟩,rfl⟩
   rw [hN,hcc]
   simp [hne]
 ·simp only [ajg,akD] at h1 ⊢
  have:=aju.mp b5 k (ajQ.mpr h2)
  rw [aj9] at this
  rcases this with h | h
  ·have:k < m:=by simpa using h
   omega
  ·have:=aju.mp h j (ajQ.mpr hj)
   rw [aj9,ajk,ajk] at this
   rcases this with h | ⟨⟨g1,g2⟩,g3⟩
   ·exact .inl (hC k j (by simpa using h))
   ·refine .inr ⟨by simpa using g1,by simpa using g2,?_⟩
    have g3':k < m + nl:=by simpa using g3
    simp only [ajv,ajG]
    omega
 ·simp only [ajg,akD] at h
  simp only [akp,akT]
  exact aju.mp b6 j hj
 ·simp only [ajg,akD] at hj ht' ⊢
  simp only [ajv,ajG] at ht
  simp only [akp,akT] at hjs
  have h1:=aju.mp b8 t (ajQ.mpr (by omega))
  have hgt:((gs.drop m).take nl)[t]'(by simp only [ajv,ajG];omega) = gs.getD (m + t) default:=by
   rw [List.getElem_take,List.getElem_drop,ajB,ajt (by omega)]
   rfl
  rw [hgt] at hs
  have h2:=aju.mp h1 s hs
  have h3:=aju.mp h2 j (ajQ.mpr hj)
  rw [hjs,hE _ ht'] at h3
  simpa using h3
 ·rw [akz]
  have:((List.range m).map ((fun x:G × List Nat=>x.1) ∘ fun j=>(gs.getD j default,MK gs (jL [] (ops.toList.map iU)) m j))) = gs.take m:=by
   refine List.ext_getElem (by simp;omega) fun i h1 h2=>?_
   simp only [ajg,akD] at h1
   simp only [akp,akT,Function.comp,List.getElem_take]
   rw [ajB,ajt (by omega)]
   rfl
  rw [this,ak0,ak0]
def CQ : Out → Exit
 | .jf=>.normal
 | .ext id=>.exit id
 | .ret=>.ret
theorem Rel.put' {Fz:Nat → Prop} {κ:Nat → Value} (h:Rel bn w0 bg N Fz κ σ a w) {d:Nat} {pv:PV} (hv:iH Fz κ w pv (a.tmps.getD d undef)):Rel bn w0 bg N Fz κ ⟨Ev.put σ.tm d pv,σ.ob⟩ a w where
 tm:=fun p hp=>by
  rcases iE hp with rfl | ⟨hp,_⟩
  ·exact hv
  ·exact h.tm p hp
 sz:=h.sz
 mg:=h.mg
 fs:=h.fs
 ob:=h.ob
 uS:=h.uS
 pos:=h.pos
 fz:=h.fz
 zP:=h.zP
 big:=h.big
 ext:=h.ext
 kp:=h.kp
theorem Ok.keep (h:Ok bn w0 bg N iT σ a w) (ks:List Nat):Ok bn w0 bg N iT ⟨pick ks σ.tm,σ.ob⟩ a w:=h.less (fun _ hp=>kJ hp) (fun _ hp=>hp)
theorem Ok.jf : ∀ (l:List (Nat × Nat)) {σ:St},Ok bn w0 bg N iT σ a w → Ok bn w0 bg N iT (Ev.jf σ l) a w
 | [],σ,h=>h
 | (s,sz) :: l,σ,h=>by
  unfold Ev.jf
  split
  ·rename_i hg
   split
   ·exact Ok.jf l h
   ·rename_i hz
    split
    ·rename_i t hn
     refine Ok.jf l ?_
     obtain ⟨Fz,κ,hr,hk⟩:=h
     have hv:a.tmps.getD s undef = .slice none 0 0:=hr.val hg
     have hnew:=hr.new (w':=w) (v:=.slice none 0 0) hn (aji _) (fun _ _=>rfl) (fun b hb=>by cases hb) ⟨rfl,rfl⟩ ⟨by omega,0,[],none,0,by rw [bO];rfl,by rw [bO];exact World.ownsRow_nil w _ _ _,rfl⟩
     refine ⟨Fz,pO κ (dA s) (.slice none 0 0),hnew.put' ⟨?_,none,0,hv⟩,fun k hk'=>?_⟩
     ·rw [bO];exact hv
     ·rw [eG (fun e=>by unfold dA at e;omega)];exact hk k hk'
    ·exact Ok.jf l h
  ·exact Ok.jf l h
theorem Ok.res (h:Ok bn w0 bg N iT σ a w) (ks os:List Nat) (rws:List (Nat × Nat)):Ok bn w0 bg N iT (Ev.res ks os rws σ) a w :=
 (Ok.jf rws h).less (fun _ hp=>kJ hp) (fun _ hp=>kJ hp)
theorem qF : ∀ (n:Nat) (l:Array Bool),exts ops n l ≠ some []
 | 0,l,h=>by unfold exts at h;split at h <;> simp at h
 | n + 1,l,h=>by
  unfold exts at h
  split at h
  ·simp at h
  ·split at h
   ·obtain ⟨A,h1,h2⟩:=zmm h
    have:A = []:=by
     cases A with
     | nil=>rfl
     | cons _ _=>simp at h2
    subst this
    exact qF n _ h1
   ·obtain ⟨A,h1,h2⟩:=zbm h
    obtain ⟨B,_,h3⟩:=zmm h2
    have:A = []:=by
     cases A with
     | nil=>rfl
     | cons _ _=>simp at h3
    subst this
    exact qF n _ h1
theorem kT.app {ks mE:List Nat} {r:St}:∀ {A B:List (List Nat)},kT Γ gs ks mE σ r (A ++ B) → kT Γ gs ks mE σ r A ∧ kT Γ gs ks mE σ r B
 | [],_,h=>⟨trivial,h⟩
 | _ :: A,_,h=>⟨⟨h.1,(kT.app (A:=A) h.2).1⟩,(kT.app (A:=A) h.2).2⟩
theorem kT.step {ks mE:List Nat} {r:St} {i:Nat}:∀ {A:List (List Nat)},kT Γ gs ks mE σ r (A.map (i :: ·)) → A ≠ [] → ∃ s,PW Γ false σ (gs.getD i default) = some s ∧ kT Γ gs ks mE s r A
 | [],_,h=>absurd rfl h
 | x :: A,h,_=>by
  obtain ⟨⟨s,h1,h2⟩,h3⟩:=h
  obtain ⟨s1,h4,h5⟩:=zbm h1
  refine ⟨s1,h4,⟨s,h5,h2⟩,?_⟩
  by_cases hA:A = []
  ·subst hA;trivial
  ·obtain ⟨s2,g1,g2⟩:=kT.step h3 hA
   rw [h4] at g1;cases g1
   exact g2
theorem Ki {Fz:Nat → Prop} {κ:Nat → Value} (h:Rel bn w0 bg N Fz κ σ a w) {t:TypeId} {ps:Array (Nat × Operand)} {z:List PL} {l:List (Nat × Nat × dM)} {d:Nat} {p:PV × St} (hz:Ap P t = some z) (hp:(∃ fs,P.underlying t = some (.struct fs) ∧ fs.toList.all (fun (f:Field)=>(lI P f.type).isSome) = true ∧ parts P fs ps.toList = some l) ∨ ∃ n e sz,P.underlying t = some (.array n e) ∧ lI P e = some sz ∧ oK sz ps.toList = some l) (hE:bZ Γ false σ d (.build z l) = some p) :
  p.2 = σ ∧ ∃ v,(∀ w',(Instr.build t (ps.map fun (i,x)=>(i,a.eval x))).run P w' = .ok v w') ∧ iH Fz κ w p.1 v:=by
 obtain ⟨vs,h1,h2⟩:=zbm hE
 obtain ⟨z',h3,h4⟩:=zmm h2
 cases h4
 obtain ⟨i,zv,e1,e2,e3⟩:=uW (Fz:=Fz) (κ:=κ) (w:=w) hz
 refine ⟨rfl,?_⟩
 rcases hp with ⟨fs,hu,hall,hp⟩ | ⟨n,e,sz,hu,hn,hp⟩
 ·have hpl:∃ places:List (Nat × Nat),fs.toList.mapM (fun (f:Field)=>(P.info? f.type).map fun i=>(f.offset,i.size)) = some places ∧ ∀ i:Nat,places.toArray[i]? = (fs[i]?.bind fun (f:Field)=>(lI P f.type).map fun n=>(f.offset,n)):=by
   have key:∀ (l:List Field),l.all (fun (f:Field)=>(lI P f.type).isSome) = true → ∃ places:List (Nat × Nat),l.mapM (fun (f:Field)=>(P.info? f.type).map fun i=>(f.offset,i.size)) = some places ∧ ∀ i:Nat,places[i]? = (l[i]?.bind fun (f:Field)=>(lI P f.type).map fun n=>(f.offset,n)):=by
    intro l
    induction l with
    | nil=>intro _;exact ⟨[],rfl,fun i=>by simp⟩
    | cons f l ih =>
     intro ha
     simp only [List.all_cons,ajk] at ha
     obtain ⟨pl,e1,e2⟩:=ih ha.2
     obtain ⟨n,hn⟩:=akB.mp ha.1
     obtain ⟨inf,hi,hs⟩:=zmm hn
     refine ⟨(f.offset,n) :: pl,by simp [List.mapM_cons,hi,hs,e1],fun i=>?_⟩
     cases i with
     | zero=>simp [hn]
     | succ i=>simpa using e2 i
   obtain ⟨pl,e1,e2⟩:=key fs.toList hall
   exact ⟨pl,e1,fun i=>by have:=e2 i;simpa using this⟩
  obtain ⟨places,e4,e5⟩:=hpl
  obtain ⟨cs',e6,e7,_⟩:=nI h (place:=(places.toArray[·]?)) (ps:=ps.toList) (cs:=zv.cells) (fun _=>trivial) (by
   refine (xY hp).imp fun {p r} hpr=>⟨?_,hpr.2⟩
   rw [e5];exact hpr.1) h1 h3 e3
  refine ⟨.agg cs',fun w'=>run_build w' t _ cs' ?_,cs',rfl,e7⟩
  unfold Program.built
  rw [e1,hu]
  simp only [e2,e4]
  rw [aks]
  exact e6
 ·obtain ⟨ie,g1,g2⟩:=zmm hn
  obtain ⟨cs',e6,e7,_⟩:=nI h (place:=fun i=>some (i * sz,sz)) (ps:=ps.toList) (cs:=zv.cells) (fun _=>trivial) (qD hp) h1 h3 e3
  refine ⟨.agg cs',fun w'=>run_build w' t _ cs' ?_,cs',rfl,e7⟩
  unfold Program.built
  rw [e1,hu]
  simp only [e2,g1]
  rw [aks,g2]
  exact e6
theorem QA {Fz:Nat → Prop} {κ:Nat → Value} (h:Rel bn w0 bg N Fz κ σ a w) {x:Operand} {x':dM} {i d:Nat} {p:PV × St} (hx:fB x = some x') (hE:bZ Γ false σ d (.ext x' i) = some p) :
  p.2 = σ ∧ ∃ v,(∀ w',(Instr.extract (a.eval x) i).run P w' = .ok v w') ∧ iH Fz κ w p.1 v:=by
 simp only [bZ] at hE
 split at hE
 ·rename_i l hl
  obtain ⟨v,h1,h2⟩:=zmm hE
  cases h2
  obtain ⟨vs,e1,e2⟩:=h.Iq hx hl
  have key:∀ (l:List CV) (us:List Value) (i:Nat) (v:CV),dO Fz κ w l us → l[i]? = some v → ∃ u,us[i]? = some u ∧ fU Fz κ w v u:=by
   intro l
   induction l with
   | nil=>intro us i v _ h;simp at h
   | cons x l ih =>
    intro us i v h h2
    cases us with
    | nil=>exact h.elim
    | cons u us =>
     cases i with
     | zero=>simp at h2;subst h2;exact ⟨u,rfl,h.1⟩
     | succ i=>simp at h2;exact ih us i v h.2 h2
  obtain ⟨u,h3,h4⟩:=key _ _ _ _ e2 h1
  refine ⟨rfl,u,fun w'=>?_,h4⟩
  rw [e1]
  rw [akr] at h3
  simp [Instr.extract,h3]
 ·cases hE
theorem IZ {i:Nat} {o:Oper} {g:G} (ho:ops[i]? = some o) (hp:ML ops i = true) (hg:tu P X ops N.ok o = some g) (h:Ok bn w0 bg N iT σ a w) (hE:PW Γ false σ g = some σ'):∃ v,Yields P ops o v a ∧ Ok bn w0 bg N iT σ' (a.put o.dst v) w:=by
 obtain ⟨Fz,κ,hr,hk⟩:=h
 obtain ⟨p,h1,rfl⟩:=zmm hE
 obtain ⟨i',hi,h2⟩:=zbm hg
 split at h2
 ·rename_i hd
  cases h2
  have hput:∀ {pv v},iH Fz κ w pv v → Ok bn w0 bg N iT (qW σ o.dst pv) (a.put o.dst v) w:=by
   intro pv v hv
   refine ⟨Fz,κ,?_,hk⟩
   cases hdst:o.dst with
   | none=>exact hr.LV v
   | some d =>
    rw [hdst] at hd
    exact hr.put (by simpa using hd) hv
  obtain ⟨t,h3,h4⟩:=zbm h1
  cases t with
  | false =>
   rw [aje (by decide)] at h4
   cases h4
   exact ⟨undef,.inr ⟨Eo hr h3,rfl⟩,hput rfl⟩
  | true =>
   rw [ajd rfl] at h4
   have hw:=Eo hr h3
   unfold ML at hp
   rw [ho] at hp
   simp only at hp
   have mv:∀ x,(o.op = .move x ∨ o.op = .assign x) → ∃ v,Yields P ops o v a ∧ Ok bn w0 bg N iT (qW p.2 o.dst p.1) (a.put o.dst v) w:=by
    intro x hx
    have hi2:(fB x).map I.mv = some i':=by
     unfold tq sZ jM at hi
     rcases hx with hx | hx <;> simp only [hx] at hi <;> (split at hi <;> first | (split at hi <;> first | (cases hi;assumption) | cases hi) | cases hi)
    obtain ⟨y,h5,rfl⟩:=zmm hi2
    obtain ⟨v,h6,h7⟩:=zmm h4
    cases h7
    refine ⟨a.eval x,.inl ⟨hw,fun w'=>?_⟩,hput (hr.Iq h5 h6)⟩
    unfold execOp
    rcases hx with hx | hx <;> simp only [hx] <;> rfl
   split at hp
   ·rename_i x hx;exact mv x (.inl hx)
   ·rename_i x hx;exact mv x (.inr hx)
   ·rename_i s x f hx
    have hi2:jM P X o = some i':=by
     unfold tq sZ at hi
     simp only [hx] at hi
     split at hi
     ·split at hi
      ·cases hi
      ·cases hi;assumption
     ·cases hi
    unfold jM at hi2
    simp only [hx] at hi2
    obtain ⟨fl,h5,hi2⟩:=zbm hi2
    obtain ⟨n,h6,hi2⟩:=zbm hi2
    split at hi2
    ·cases hi2
    ·rename_i h0
     obtain ⟨y,h7,rfl⟩:=zmm hi2
     obtain ⟨v,h8,h9⟩:=zbm h4
     have hv:=hr.eval h7 h8
     obtain ⟨fs,hu,hfi⟩:=Cn h5
     have run:∀ b o' (w':World),a.eval x = .pointer (some ⟨b,o',none⟩) → (execOp a.eval o).run P w' = .ok (.value (.pointer (some ⟨b,o' + fl.offset,none⟩))) w':=by
      intro b o' w' he
      unfold execOp
      simp only [hx,he]
      unfold Instr.fieldAt
      simp only [Sem.run_bind,run_underlying hu,Result.andThen_ok,hfi]
      simp only [Instr.sureAddr,Sem.run_bind,Sem.run_pure,Result.andThen_ok,pU h6 h0]
     split at h9
     ·cases h9;obtain ⟨b,e1,e2⟩:=hv;exact ⟨_,.inl ⟨hw,fun w'=>run _ _ w' e2⟩,hput ⟨b,e1,rfl⟩⟩
     ·cases h9;obtain ⟨b,o',e1,e2,e3⟩:=hv;exact ⟨_,.inl ⟨hw,fun w'=>run _ _ w' e1⟩,hput ⟨b,_,rfl,e2,e3.drop _⟩⟩
     ·cases h9;obtain ⟨b,n',c,e1,e2⟩:=hv;exact ⟨_,.inl ⟨hw,fun w'=>run _ _ w' e2⟩,hput ⟨b,n',c,e1,by rw [Nat.add_assoc]⟩⟩
     ·cases h9
   ·rename_i s t ps hx
    have hi2:jM P X o = some i':=by
     unfold tq sZ at hi
     simp only [hx] at hi
     split at hi
     ·split at hi
      ·cases hi
      ·cases hi;assumption
     ·cases hi
    unfold jM at hi2
    simp only [hx] at hi2
    have hb:∃ z l,Ap P t = some z ∧ i' = .build z l ∧ ((∃ fs,P.underlying t = some (.struct fs) ∧ fs.toList.all (fun (f:Field)=>(lI P f.type).isSome) = true ∧ parts P fs ps.toList = some l) ∨ ∃ n e sz,P.underlying t = some (.array n e) ∧ lI P e = some sz ∧ oK sz ps.toList = some l):=by
     split at hi2
     ·rename_i fs hu
      split at hi2
      ·rename_i hall
       obtain ⟨z,g1,g2⟩:=zbm hi2
       obtain ⟨l,g3,rfl⟩:=zmm g2
       exact ⟨z,l,g1,rfl,.inl ⟨fs,hu,hall,g3⟩⟩
      ·cases hi2
     ·rename_i n e hu
      obtain ⟨sz,g0,g00⟩:=zbm hi2
      obtain ⟨z,g1,g2⟩:=zbm g00
      obtain ⟨l,g3,rfl⟩:=zmm g2
      exact ⟨z,l,g1,rfl,.inr ⟨n,e,sz,hu,g0,g3⟩⟩
     ·cases hi2
    obtain ⟨z,l,g1,rfl,g2⟩:=hb
    obtain ⟨g3,v,g4,g5⟩:=Ki hr g1 g2 h4
    refine ⟨v,.inl ⟨hw,fun w'=>?_⟩,by rw [g3];exact hput g5⟩
    unfold execOp
    simp only [hx,Sem.run_bind,g4,Result.andThen_ok,Sem.run_pure]
   ·rename_i s x n hx
    have hi2:jM P X o = some i':=by
     unfold tq sZ at hi
     simp only [hx] at hi
     split at hi
     ·split at hi
      ·cases hi
      ·cases hi;assumption
     ·cases hi
    unfold jM at hi2
    simp only [hx] at hi2
    obtain ⟨y,g1,rfl⟩:=zmm hi2
    obtain ⟨g3,v,g4,g5⟩:=QA (P:=P) hr g1 h4
    refine ⟨v,.inl ⟨hw,fun w'=>?_⟩,by rw [g3];exact hput g5⟩
    unfold execOp
    simp only [hx,Sem.run_bind,g4,Result.andThen_ok,Sem.run_pure]
   ·cases hp
 ·cases h2
theorem CS (heq:∀ t ∈ X.eqs,lJ P t) (kR:iy P Γ) (hC:dN P Γ) {ks mE:List Nat} {r:St} {Q:Exit → Act → World → Prop} (hns:Region.noSelect ops = true) (hg:j5 P X ops N.ok ops.toList = some gs) (Yp:∀ c a w,¬ Q (.panic c) a w) (hQ:∀ a' w',Ok bn w0 bg N iT r a' w' → Q .normal a' w'):∀ (n:Nat) (l:Array Bool) (os:List (List Nat)) {σ:St} {a:Act} {w:World},l.size = ops.size → exts ops n l = some os → kT Γ gs ks mE σ r os → Ok bn w0 bg N iT σ a w → wpAny P .any ops Q n l a w
 | 0,l,os,σ,a,w,hl,he,hA,hO=>by
  unfold exts at he
  split at he
  ·rename_i hn
   cases he
   obtain ⟨⟨s,h1,h2⟩,_⟩:=hA
   cases h1
   exact ⟨hn,hQ a w (h2 ▸ hO.less (fun _ hp=>kJ hp) (fun _ hp=>kJ hp))⟩
  ·cases he
 | n + 1,l,os,σ,a,w,hl,he,hA,hO=>by
  unfold exts at he
  obtain ⟨e1,e2⟩:=iX hg
  have hgd:∀ i (hi1:i < ops.size),tu P X ops N.ok ops[i] = some (gs.getD i default):=by
   intro i hi1
   have hgi:=e2 i (by simpa using hi1) (by rw [← e1];simpa using hi1)
   rw [ajB,ajt (by rw [← e1];simpa using hi1)]
   simpa using hgi
  split at he
  ·rename_i hn
   cases he
   obtain ⟨⟨s,h1,h2⟩,_⟩:=hA
   cases h1
   rw [kV]
   exact ⟨fun _=>hQ a w (h2 ▸ hO.less (fun _ hp=>kJ hp) (fun _ hp=>kJ hp)),fun i hi=>by rw [hn] at hi;simp at hi⟩
  ·rename_i i0 is0 hn
   split at he
   ·rename_i j hf
    obtain ⟨A,h1,rfl⟩:=zmm he
    have hj:=List.find?_some hf
    rw [ajk] at hj
    have hjr:j ∈ Region.ready .any ops l:=by rw [hn];exact ak7 hf
    obtain ⟨hj1,hj2,hj3⟩:=(gq hl).mp hjr
    obtain ⟨s,g1,g2⟩:=hA.step (fun e=>qF n _ (e ▸ h1))
    obtain ⟨v,hy,CU⟩:=IZ (ajK hj1) hj.1 (hgd j hj1) hO g1
    exact wpAny_take (ajK hj1) hns hj.2 (by simpa using hjr) (fun c a w h=>absurd h (Yp c _ w)) hy (CS heq kR hC hns hg Yp hQ n _ A (by simp [hl]) h1 g2 CU)
   ·rw [kV]
    refine ⟨fun h=>(by rw [hn] at h;cases h),?_⟩
    rw [hn]
    have hall:∀ i ∈ i0 :: is0,i ∈ Region.ready .any ops l:=fun i hi=>by rw [hn];exact hi
    rename_i hfn
    clear hfn
    generalize i0 :: is0 = is at he hall
    clear hn
    induction is generalizing os with
    | nil=>intro i hi;simp at hi
    | cons j is ih =>
     obtain ⟨A,h1,h2⟩:=zbm he
     obtain ⟨B,h3,rfl⟩:=zmm h2
     obtain ⟨hA1,hA2⟩:=hA.app
     intro i hi
     rcases ajw.mp hi with rfl | hi
     ·obtain ⟨hi1,hi2,hi3⟩:=(gq hl).mp (hall i (by simp))
      obtain ⟨s,g1,g2⟩:=hA1.step (fun e=>qF n _ (e ▸ h1))
      unfold wpOp
      rw [ajK hi1]
      exact CJ heq kR hC (hgd i hi1) hO g1 fun a' w' h'=>CS heq kR hC hns hg Yp hQ n _ A (by simp [hl]) h1 g2 h'
     ·exact ih B hA2 h3 (fun i hi=>hall i (aj2 _ hi)) i hi
theorem kT.pre {ks mE:List Nat} {r:St}:∀ {p:List Nat} {A:List (List Nat)} {σ:St},kT Γ gs ks mE σ r (A.map (p ++ ·)) → A ≠ [] → ∃ s,wL Γ false (p.map fun i=>gs.getD i default) σ = some s ∧ kT Γ gs ks mE s r A
 | [],A,σ,h,_=>⟨σ,rfl,by simpa using h⟩
 | i :: p,A,σ,h,hA=>by
  have e:A.map (i :: p ++ ·) = (A.map (p ++ ·)).map (i :: ·):=by rw [akz];rfl
  rw [e] at h
  obtain ⟨s,h1,h2⟩:=h.step (by simpa using hA)
  obtain ⟨s',h3,h4⟩:=kT.pre h2 hA
  refine ⟨s',?_,h4⟩
  show (PW Γ false σ _).bind _ = _
  rw [h1]
  exact h3
theorem Ey (ops:Array Oper):∀ j,∀ x ∈ (jL [] (ops.toList.map iU)).getD j [],Ke ops x j:=yA _ _ (fun j x hx=>by simp at hx) (fun k hk=>by
 have hk':k < ops.size:=by simpa using hk
 refine ⟨by simpa using hk',?_⟩
 rw [ajo,akr,ajK hk']
 simp)
theorem MQ {l:Array Bool} (hd:Down ops l) {i j:Nat} (hb:Ke ops j i):(∀ (h:i < ops.size),∀ e ∈ iU ops[i],Dn l e) → Dn l j:=by
 induction hb with
 | dir h he=>intro hr;exact hr h _ he
 | step h he hj ih=>intro hr;exact ih (fun h'=>hd _ h' (hr h _ he))
theorem CW {h n i:Nat} (hh:h ≤ n):Dn (mask h n) i ↔ i < h:=by
 unfold Dn mask
 rw [ajW,List.getElem?_toArray,akX,List.length_replicate]
 split
 ·rename_i h1;simp [List.getElem?_replicate,h1]
 ·rename_i h1
  rw [List.getElem?_replicate]
  split <;> simp [h1]
theorem Ez {h n:Nat} (hh:h < n):(mask h n).setIfInBounds h true = mask (h + 1) n:=by
 unfold mask
 refine Array.ext' ?_
 rw [Array.toList_setIfInBounds]
 refine akq fun i=>?_
 rw [List.getElem?_set]
 simp only [akX,List.length_replicate,List.getElem?_replicate,ajl]
 by_cases h1:h = i
 ·subst h1
  rw [ajd rfl,ajd (by simp;omega),ajd (by omega),ajd (by omega)]
 ·rw [aje h1]
  by_cases h2:i < h
  ·rw [ajd h2,ajd h2,ajd (by omega),ajd (by omega)]
  ·have h4:¬ i < h + 1:=by omega
   simp only [h2,h4,ajy]
   by_cases h3:i < n
   ·rw [ajd (by omega),ajd (by omega)]
   ·rw [aje (by omega),aje (by omega)]
theorem I4 (heq:∀ t ∈ X.eqs,lJ P t) (kR:iy P Γ) (hC:dN P Γ) {Q:Exit → Act → World → Prop} (hg:j5 P X ops N.ok ops.toList = some gs) {h:Nat} (hh:h ≤ ops.size) (hB:IY (ops.toList.map iU) (jL [] (ops.toList.map iU)) ops.size h = true) {Z5:St}
  (hK:∀ a' w',Ok bn w0 bg N iT Z5 a' w' → wpAny P .any ops Q (ops.size - h) (mask h ops.size) a' w'):∀ (m i:Nat) {σ:St} {a:Act} {w:World},m + i = h → wL Γ false ((List.range' i m).map fun i=>gs.getD i default) σ = some Z5 → Ok bn w0 bg N iT σ a w → wpAny P .any ops Q (ops.size - i) (mask i ops.size) a w
 | 0,i,σ,a,w,hm,hE,hO=>by
  have:i = h:=by omega
  subst this
  cases hE
  exact hK a w hO
 | m + 1,i,σ,a,w,hm,hE,hO=>by
  obtain ⟨e1,e2⟩:=iX hg
  have hi:i < ops.size:=by omega
  have hgd:tu P X ops N.ok ops[i] = some (gs.getD i default):=by
   have hgi:=e2 i (by simpa using hi) (by rw [← e1];simpa using hi)
   rw [ajB,ajt (by rw [← e1];simpa using hi)]
   simpa using hgi
  unfold IY at hB
  rw [ajk] at hB
  have Z6:∀ k (hk:k < ops.size),∀ e ∈ iU ops[k],e < k:=fun k hk e he=>by
   have h1:=aju.mp hB.1 k (ajQ.mpr hk)
   rw [ajB,ajo,akr,ajK hk] at h1
   simpa using aju.mp h1 e he
  have hsz:(mask i ops.size).size = ops.size:=by simp [mask];omega
  have hdn:∀ j,Dn (mask i ops.size) j ↔ j < i:=fun j=>CW (by omega)
  have MR:Down ops (mask i ops.size):=fun j hj hd e he=>(hdn e).mpr (by have:=(hdn j).mp hd;have:=Z6 j hj e he;omega)
  have hri:i ∈ Region.ready .any ops (mask i ops.size):=(gq hsz).mpr ⟨hi,fun hd=>by have:=(hdn i).mp hd;omega,fun e he=>(hdn e).mpr (Z6 i hi e he)⟩
  rw [show ops.size - i = (ops.size - (i + 1)) + 1 from by omega,kV]
  refine ⟨fun hn=>by rw [hn] at hri;simp at hri,fun j hj=>?_⟩
  obtain ⟨hj1,hj2,hj3⟩:=(gq hsz).mp hj
  have hij:j = i:=by
   apply ajV
   intro hne
   have hlt:i < j:=by
    have:¬ j < i:=fun hx=>hj2 ((hdn j).mpr hx)
    omega
   have h1:=aju.mp hB.2 j (ajQ.mpr hj1)
   have h2:(List.getD (jL [] (ops.toList.map iU)) j []).take (min j h) = List.range (min j h):=by simpa using h1
   have h3:i ∈ (jL [] (ops.toList.map iU)).getD j []:=List.mem_of_mem_take (by rw [h2];exact ajQ.mpr (by omega))
   have:=(hdn i).mp (MQ MR (Ey ops j i h3) (fun _=>hj3))
   omega
  subst hij
  rw [List.range'_succ,ajp] at hE
  obtain ⟨s,g1,g2⟩:=zbm hE
  unfold wpOp
  rw [ajK hi]
  refine CJ heq kR hC hgd hO g1 fun a' w' h'=>?_
  rw [Ez hi]
  exact I4 heq kR hC hg hh (by unfold IY;rw [ajk];exact hB) hK m (j + 1) (by omega) g2 h'
theorem VZ (hm:P.follows .mixedOrders = true) (heq:∀ t ∈ X.eqs,lJ P t) (kR:iy P Γ) (hC:dN P Γ) {ks mE:List Nat} {os:List (List Nat)} {o:Out} {id:Nat} (hns:Region.noSelect ops = true) (hg:j5 P X ops N.ok ops.toList = some gs) (he:MN ops = some os) (hO:Ok bn w0 bg N iT σ a w) (hE:evO Γ gs ks mE σ os = some (o,σ')) (hQ:∀ a' w',Ok bn w0 bg N iT σ' a' w' → Q (CQ o) a' w'):(Code.region id ops true).wp P Q a w:=by
 refine wp_mono (Q:=fun e a w=>e = .normal ∧ Q e a w) ?_ (fun _ _ _ h=>h.2)
 refine wp_region_any hm ?_
 replace hO:Ok bn w0 bg N iT σ a { w with drawn:=w.drawn + 1 }:=by
  obtain ⟨Fz,κ,hr,hk⟩:=hO
  exact ⟨Fz,κ,hr.grow (w':={ w with drawn:=w.drawn + 1 }) (aji _) (fun _ _=>rfl) ⟨rfl,rfl⟩,hk⟩
 cases os with
 | nil=>cases hE
 | cons o1 os =>
  obtain ⟨s,h1,h2⟩:=zbm hE
  split at h2
  ·rename_i hA
   cases h2
   unfold MN at he
   simp only [Gz] at he
   split at he
   ·rename_i hcond
    obtain ⟨A,h5,h6⟩:=zmm he
    have hA':kT Γ gs ks mE σ _ (A.map (List.range (Ew (jL [] (ops.toList.map iU)) ops.size 0) ++ ·)):=h6 ▸ (show kT Γ gs ks mE σ ⟨pick ks s.tm,pick mE s.ob⟩ (o1 :: os) from ⟨⟨s,h1,rfl⟩,hA⟩)
    obtain ⟨sh,h7,h8⟩:=hA'.pre (fun e=>qF _ _ (e ▸ h5))
    have hm0:Array.replicate ops.size false = mask 0 ops.size:=by
     unfold mask
     refine Array.ext' ?_
     simp
    rw [hm0]
    refine I4 (i:=0) (h:=Ew (jL [] (ops.toList.map iU)) ops.size 0) heq kR hC hg hcond.1 hcond.2 (fun a' w' h'=>?_) (Ew (jL [] (ops.toList.map iU)) ops.size 0) (by omega) (by rw [← List.range_eq_range'];exact h7) hO
    exact CS heq kR hC hns hg (fun c a w h=>by cases h.1) (fun a' w' h=>⟨rfl,hQ a' w' h⟩) _ _ A (by simp [mask];omega) h5 h8 h'
   ·cases he
  ·cases h2
theorem MS {i:Nat} {o:Oper} {g:G} (ho:ops[i]? = some o) (hp:Qy ops i = true) (hg:tu P X ops N.ok o = some g) (h:Ok bn w0 bg N iT σ a w) (hE:PW Γ false σ g = some σ'):∃ v,YieldsIf P ops (Ext w) o v a ∧ Ok bn w0 bg N iT σ' (a.put o.dst v) w:=by
 unfold Qy at hp
 cases hpo:ML ops i with
 | true=>obtain ⟨v,h1,h2⟩:=IZ ho hpo hg h hE;exact ⟨v,h1.yieldsIf,h2⟩
 | false =>
 rw [hpo,Bool.false_or,ho] at hp
 simp only at hp
 obtain ⟨Fz,κ,hr,hk⟩:=h
 obtain ⟨p,h1,rfl⟩:=zmm hE
 obtain ⟨i',hi,h2⟩:=zbm hg
 split at h2
 ·rename_i hd
  cases h2
  have hput:∀ {pv v},iH Fz κ w pv v → Ok bn w0 bg N iT (qW σ o.dst pv) (a.put o.dst v) w:=by
   intro pv v hv
   refine ⟨Fz,κ,?_,hk⟩
   cases hdst:o.dst with
   | none=>exact hr.LV v
   | some d =>
    rw [hdst] at hd
    exact hr.put (by simpa using hd) hv
  obtain ⟨t,h3,h4⟩:=zbm h1
  cases t with
  | false =>
   rw [aje (by decide)] at h4
   cases h4
   exact ⟨undef,.inr ⟨Eo hr h3,rfl⟩,hput rfl⟩
  | true =>
   rw [ajd rfl] at h4
   have hw:=Eo hr h3
   have h0:(∀ c,o.op ≠ .call c) → jM P X o = some i':=by
    intro hn
    unfold tq sZ at hi
    split at hi
    ·rename_i hh
     split at hh
     ·rename_i c hc;exact absurd hc (hn c)
     ·cases hh
    ·split at hi
     ·split at hi
      ·cases hi
      ·cases hi;assumption
     ·cases hi
   have fin:∀ {v:Value},p.2 = σ → iH Fz κ w p.1 v → (∀ w',Ext w w' → (execOp a.eval o).run P w' = .ok (.value v) w') → ∃ v,YieldsIf P ops (Ext w) o v a ∧ Ok bn w0 bg N iT (qW p.2 o.dst p.1) (a.put o.dst v) w:=fun {v} e1 e2 e3=>⟨v,.inl ⟨hw,e3⟩,by rw [e1];exact hput e2⟩
   split at hp
   ·rename_i t x hx
    have hi2:=h0 (fun c hc=>by rw [hx] at hc;cases hc)
    unfold jM at hi2
    simp only [hx] at hi2
    obtain ⟨g,g1,hi2⟩:=zbm hi2
    obtain ⟨n,g2,hi2⟩:=zbm hi2
    obtain ⟨y,g3,rfl⟩:=zmm hi2
    obtain ⟨g4,v,g5,g6⟩:=MI (P:=P) hr g1 g2 g3 h4
    refine fin g4 g6 fun w' hw'=>?_
    unfold execOp
    simp only [hx,Sem.run_bind,g5 w' hw',Result.andThen_ok,Sem.run_pure]
   ·rename_i x hx
    have hi2:=h0 (fun c hc=>by rw [hx] at hc;cases hc)
    unfold jM at hi2
    simp only [hx] at hi2
    obtain ⟨y,g3,rfl⟩:=zmm hi2
    obtain ⟨g4,v,g5,g6⟩:=MJ (P:=P) hr g3 h4 hx
    exact fin g4 g6 fun w' _=>g5 w'
   ·rename_i t x y u hx
    have hi2:=h0 (fun c hc=>by rw [hx] at hc;cases hc)
    unfold jM at hi2
    simp only [hx] at hi2
    obtain ⟨x',g1,hi2⟩:=zbm hi2
    obtain ⟨y',g2,hi2⟩:=zbm hi2
    have hb:i' = .ar .sub x' y':=by
     split at hi2 <;> first | (cases hi2;done) | (simp [Ym] at hi2;done) | (simp [Ym] at hi2;exact hi2.symm) | skip
     all_goals (split at hi2 <;> first | (cases hi2;done) | (simp at hi2;done))
    subst hb
    obtain ⟨g4,v,g5,g6⟩:=VT (P:=P) (op:=.sub) (t:=t) (x:=x) (y:=y) hr rfl g1 g2 h4
    refine fin g4 g6 fun w' _=>?_
    unfold execOp
    simp only [hx]
    rw [Sem.run_bind,g5 w']
    rfl
   ·rename_i t x z hx
    have hi2:=h0 (fun c hc=>by rw [hx] at hc;cases hc)
    unfold jM at hi2
    simp only [hx,Qj] at hi2
    obtain ⟨e,g1,hi2⟩:=zbm hi2
    obtain ⟨sz,g2,hi2⟩:=zbm hi2
    obtain ⟨x',g3,hi2⟩:=zbm hi2
    obtain ⟨y',g4,rfl⟩:=zmm hi2
    obtain ⟨g5,v,g6,g7⟩:=VU (P:=P) hr g1 g2 g3 g4 h4
    refine fin g5 g7 fun w' _=>?_
    unfold execOp
    simp only [hx,Sem.run_bind,g6,Result.andThen_ok,Sem.run_pure]
   ·cases hp
 ·cases h2
theorem yB (hg:j5 P X ops N.ok ops.toList = some gs) {Q:Exit → Act → World → Prop} {h:Nat} {w1:World}:∀ (n:Nat) (l:Array Bool) (a:Act) (w:World),l.size = ops.size → (∀ i,i < h → Dn l i) → wpAny P .any ops Q n l a w → VW P ops Q (fun j=>decide (j < h) || GA ops j) (Ext w1) n l a w
 | 0,_,_,_,_,_,hh=>hh
 | n + 1,l,a,w,hl,hd,hh=>by
  refine ⟨hh.1,fun i hi=>?_⟩
  obtain ⟨hi1,hi2,hi3⟩:=(gq hl).mp hi
  have rcu:∀ a' w',wpAny P .any ops Q n (l.setIfInBounds i true) a' w' → VW P ops Q (fun j=>decide (j < h) || GA ops j) (Ext w1) n (l.setIfInBounds i true) a' w':=fun a' w' hx=>yB hg n _ a' w' (by simp [hl]) (fun j hj=>(Dn.set (by omega)).mpr (.inr (hd j hj))) hx
  cases hal:GA ops i with
  | false=>exact wpOp_mono (fun a' w' hx=>⟨fun hm=>by have hm':(decide (i < h) || GA ops i) = true:=hm;rw [hal,Bool.or_false] at hm';exact absurd (hd i (ajC hm')) hi2,rcu a' w' hx⟩) (hh.2 i hi)
  | true =>
   unfold GA at hal
   rw [ajK hi1] at hal
   simp only at hal
   split at hal
   ·rename_i e he
    obtain ⟨e1,e2⟩:=iX hg
    have hgi:=e2 i (by simpa using hi1) (by rw [← e1];simpa using hi1)
    obtain ⟨i',g1,_⟩:=zbm hgi
    have hz:∃ z,Ap P e = some z:=by
     have he':(ops.toList[i]'(by simpa using hi1)).op = .alloc e:=by simpa using he
     unfold tq sZ jM at g1
     simp only [he'] at g1
     cases hz:Ap P e with
     | none=>rw [hz] at g1;cases g1
     | some z=>exact ⟨z,rfl⟩
    obtain ⟨z,hz⟩:=hz
    exact wpOp_mono (fun a' w' hx=>⟨fun _=>hx.1,rcu a' w' hx.2⟩) (Gy (ajK hi1) he hz (hh.2 i hi))
   ·cases hal
theorem EA {Q:Exit → Act → World → Prop} (Yp:∀ c a w,¬ Q (.panic c) a w) (hns:Region.noSelect ops = true) (hg:j5 P X ops N.ok ops.toList = some gs) {h:Nat} (hh:h ≤ ops.size) (hB:GD (ops.toList.map iU) (jL [] (ops.toList.map iU)) ops h = true) {Z5:St}
  (hK:∀ a' w',Ok bn w0 bg N iT Z5 a' w' → wpAny P .any ops Q (ops.size - h) (mask h ops.size) a' w'):∀ (m i:Nat) {σ:St} {a:Act},m + i = h → wL Γ false ((List.range' i m).map fun i=>gs.getD i default) σ = some Z5 → Ok bn w0 bg N iT σ a w → VW P ops Q (fun j=>decide (j < h) || GA ops j) (Ext w) (ops.size - i) (mask i ops.size) a w
 | 0,i,σ,a,hm,hE,hO=>by
  have:i = h:=by omega
  subst this
  cases hE
  exact yB hg _ _ _ _ (by simp [mask];omega) (fun j hj=>(CW hh).mpr hj) (hK a w hO)
 | m + 1,i,σ,a,hm,hE,hO=>by
  obtain ⟨e1,e2⟩:=iX hg
  have hi:i < ops.size:=by omega
  have hgd:tu P X ops N.ok ops[i] = some (gs.getD i default):=by
   have hgi:=e2 i (by simpa using hi) (by rw [← e1];simpa using hi)
   rw [ajB,ajt (by rw [← e1];simpa using hi)]
   simpa using hgi
  have hB':=hB
  unfold GD at hB
  rw [ajk,ajk] at hB
  have Z6:∀ k (hk:k < ops.size),∀ e ∈ iU ops[k],e < k:=fun k hk e he=>by
   have h1:=aju.mp hB.1 k (ajQ.mpr hk)
   rw [ajB,ajo,akr,ajK hk] at h1
   simpa using aju.mp h1 e he
  have hsz:(mask i ops.size).size = ops.size:=by simp [mask];omega
  have hdn:∀ j,Dn (mask i ops.size) j ↔ j < i:=fun j=>CW (by omega)
  have MR:Down ops (mask i ops.size):=fun j hj hd e he=>(hdn e).mpr (by have:=(hdn j).mp hd;have:=Z6 j hj e he;omega)
  have hri:i ∈ Region.ready .any ops (mask i ops.size):=(gq hsz).mpr ⟨hi,fun hd=>by have:=(hdn i).mp hd;omega,fun e he=>(hdn e).mpr (Z6 i hi e he)⟩
  have hV:=aju.mp hB.2.1 i (ajQ.mpr (by omega))
  rw [ajk] at hV
  rw [List.range'_succ,ajp] at hE
  obtain ⟨s,g1,g2⟩:=zbm hE
  obtain ⟨v,hy,CU⟩:=MS (ajK hi) hV.1 hgd hO g1
  rw [show ops.size - i = (ops.size - (i + 1)) + 1 from by omega]
  refine Kg (ajK hi) (Region.noSelect_spec hns) Yp (fun l j hl hd hj hni hne=>?_) _ _ _ _ hsz MR (Region.free_spec (ajK hi) hV.2) hri hy (Ext.refl w) ?_
  ·obtain ⟨hj1,hj2,hj3⟩:=(gq hl).mp hj
   have h1:=aju.mp hB.2.2 j (ajQ.mpr hj1)
   rw [aj9] at h1
   rcases h1 with h1 | h1
   ·exact h1
   ·have h2:(List.getD (jL [] (ops.toList.map iU)) j []).take h = List.range h:=by simpa using h1
    have h3:i ∈ (jL [] (ops.toList.map iU)).getD j []:=List.mem_of_mem_take (by rw [h2];exact ajQ.mpr (by omega))
    exact absurd (MQ hd (Ey ops j i h3) (fun _=>hj3)) hni
  ·rw [Ez hi]
   exact EA Yp hns hg hh hB' hK m (i + 1) (by omega) g2 CU
theorem QB (hm:P.follows .mixedOrders = true) (heq:∀ t ∈ X.eqs,lJ P t) (kR:iy P Γ) (hC:dN P Γ) {ks mE:List Nat} {os:List (List Nat)} {o:Out} {id:Nat} (hns:Region.noSelect ops = true) (hg:j5 P X ops N.ok ops.toList = some gs) (he:MP ops = some os) (hO:Ok bn w0 bg N iT σ a w) (hE:evO Γ gs ks mE σ os = some (o,σ')) (hQ:∀ a' w',Ok bn w0 bg N iT σ' a' w' → Q (CQ o) a' w'):(Code.region id ops true).wp P Q a w:=by
 refine wp_mono (Q:=fun e a w=>e = .normal ∧ Q e a w) ?_ (fun _ _ _ h=>h.2)
 refine wp_region_any hm ?_
 replace hO:Ok bn w0 bg N iT σ a { w with drawn:=w.drawn + 1 }:=by
  obtain ⟨Fz,κ,hr,hk⟩:=hO
  exact ⟨Fz,κ,hr.grow (w':={ w with drawn:=w.drawn + 1 }) (aji _) (fun _ _=>rfl) ⟨rfl,rfl⟩,hk⟩
 cases os with
 | nil=>cases hE
 | cons o1 os =>
  obtain ⟨s,h1,h2⟩:=zbm hE
  split at h2
  ·rename_i hA
   cases h2
   unfold MP at he
   simp only [Gz] at he
   split at he
   ·rename_i hcond
    obtain ⟨A,h5,h6⟩:=zmm he
    have hA':kT Γ gs ks mE σ _ (A.map (List.range (MO ops ops.size 0) ++ ·)):=h6 ▸ (show kT Γ gs ks mE σ ⟨pick ks s.tm,pick mE s.ob⟩ (o1 :: os) from ⟨⟨s,h1,rfl⟩,hA⟩)
    obtain ⟨sh,h7,h8⟩:=hA'.pre (fun e=>qF _ _ (e ▸ h5))
    have hm0:Array.replicate ops.size false = mask 0 ops.size:=by
     unfold mask
     refine Array.ext' ?_
     simp
    rw [hm0]
    refine IX _ _ _ _ (EA (i:=0) (h:=MO ops ops.size 0) (fun c a w h=>by cases h.1) hns hg hcond.1 hcond.2 (fun a' w' h'=>?_) (MO ops ops.size 0) (by omega) (by rw [← List.range_eq_range'];exact h7) hO)
    exact CS heq kR hC hns hg (fun c a w h=>by cases h.1) (fun a' w' h=>⟨rfl,hQ a' w' h⟩) _ _ A (by simp [mask];omega) h5 h8 h'
   ·cases he
  ·cases h2
theorem EB (hm:P.follows .mixedOrders = true) (heq:∀ t ∈ X.eqs,lJ P t) (kR:iy P Γ) (hC:dN P Γ):∀ (c:Code) {h h':List Hi} {cc:CC} {σ σ':St} {o:Out} {a:Act} {w:World} {Q:Exit → Act → World → Prop},comp P X N.ok c h = some (cc,h') → Ok bn w0 bg N iT σ a w → ev Γ F cc σ = some (o,σ') →
  (∀ a' w',Ok bn w0 bg N iT σ' a' w' → Q (CQ o) a' w') → c.wp P Q a w:=by
 intro c
 induction c with
 | skip =>
  intro h h' cc σ σ' o a w Q hc hO hE hQ
  cases hc
  cases hE
  exact wp_skip (hQ a w hO)
 | region id ops draw =>
  intro h h' cc σ σ' o a w Q hc hO hE hQ
  cases h with
  | nil=>cases hc
  | cons k h =>
  obtain ⟨cr,h1,h2⟩:=zmm hc
  cases h2
  obtain ⟨gs,h3,h4⟩:=zbm h1
  cases draw with
  | false =>
   cases h4
   obtain ⟨s,h5,h6⟩:=zmm hE
   cases h6
   exact wp_region_list (MC heq kR hC h3 hO h5 fun a' w' h=>hQ a' w' (h.keep _))
  | true =>
   simp only [Gz] at h4
   split at h4
   ·split at h4
    ·rename_i hns
     obtain ⟨os,h5,h6⟩:=zmm h4
     cases h6
     exact QB hm heq kR hC hns h3 h5 hO hE hQ
    ·cases h4
   ·split at h4
    ·rename_i hns
     obtain ⟨os,h5,h6⟩:=zmm h4
     cases h6
     exact VZ hm heq kR hC hns h3 h5 hO hE hQ
    ·cases h4
   split at h4
   ·rename_i hb
    cases h4
    obtain ⟨s,h5,h6⟩:=zmm hE
    cases h6
    obtain ⟨g1,g2⟩:=Kh (Qz _ _) h3 hb
    exact VR hm g1 heq kR hC (by rw [g2];exact h3) hO h5 fun a' w' h=>hQ a' w' (h.keep _)
   ·cases h4
 | seq x y ihx ihy =>
  intro h h' cc σ σ' o a w Q hc hO hE hQ
  obtain ⟨p,h1,h2⟩:=zbm hc
  obtain ⟨r,h3,h4⟩:=zmm h2
  cases h4
  obtain ⟨s,h5,h6⟩:=zbm hE
  refine wp_seq (ihx h1 hO h5 fun a' w' CU=>?_)
  cases hs:s.1 with
  | jf=>rw [hs] at h6;exact ihy h3 CU h6 hQ
  | ext id=>rw [hs] at h6;cases h6;exact hQ a' w' CU
  | ret=>rw [hs] at h6;cases h6;exact hQ a' w' CU
 | cond c x y ihx ihy =>
  intro h h' cc σ σ' o a w Q hc hO hE hQ
  obtain ⟨co,h0,hc⟩:=zbm hc
  obtain ⟨p,h1,h2⟩:=zbm hc
  obtain ⟨r,h3,h4⟩:=zmm h2
  cases h4
  obtain ⟨v,h5,h6⟩:=zbm hE
  obtain ⟨t,h7,h8⟩:=zbm h6
  have hv:a.eval c = .bool t:=by
   obtain ⟨Fz,κ,hr,_⟩:=hO
   exact Ck h7 (hr.eval h0 h5)
  refine wp_cond hv ?_
  cases t with
  | true=>exact ihx h1 hO h8 hQ
  | false=>exact ihy h3 hO h8 hQ
 | block id c ih =>
  intro h h' cc σ σ' o a w Q hc hO hE hQ
  obtain ⟨p,h1,h2⟩:=zmm hc
  cases h2
  obtain ⟨s,h3,h4⟩:=zmm hE
  refine wp_block (ih h1 hO h3 fun a' w' CU=>?_)
  cases hs:s.1 with
  | jf=>rw [hs] at h4;cases h4;exact hQ a' w' CU
  | ret=>rw [hs] at h4;cases h4;exact hQ a' w' CU
  | ext i =>
   rw [hs] at h4
   simp only [CQ,Exit.inBlock]
   by_cases hi:i = id
   ·simp only [ajd hi] at h4
    cases h4;rw [ajd hi];exact hQ a' w' CU
   ·simp only [aje hi] at h4
    cases h4;rw [aje hi];exact hQ a' w' CU
 | loop c ih =>
  intro h h' cc σ σ' o a w Q hc hO hE hQ
  cases h with
  | nil=>cases hc
  | cons k h =>
   obtain ⟨p,h1,h2⟩:=zmm hc
   cases h2
   have key:∀ (n:Nat) (σ:St) (a:Act) (w:World),Ok bn w0 bg N iT σ a w → iter (ev Γ F p.1) (Ev.res k.ks k.BX k.rws) n σ = some (o,σ') → Code.rounds P c Q n a w:=by
    intro n
    induction n with
    | zero=>intro σ a w _ hE;cases hE
    | succ n ihn =>
     intro σ a w hO hE
     obtain ⟨s,h3,h4⟩:=zbm hE
     rw [rounds_succ]
     refine ih h1 (hO.res k.ks k.BX k.rws) h3 fun a' w' CU=>?_
     cases hs:s.1 with
     | jf=>rw [hs] at h4;exact ihn s.2 a' w' CU h4
     | ext id=>rw [hs] at h4;cases h4;exact hQ a' w' CU
     | ret=>rw [hs] at h4;cases h4;exact hQ a' w' CU
   exact wp_loop_rounds F (key F σ a w hO hE)
 | exit id =>
  intro h h' cc σ σ' o a w Q hc hO hE hQ
  cases hc
  cases hE
  exact wp_exit (hQ a w hO)
 | ret =>
  intro h h' cc σ σ' o a w Q hc hO hE hQ
  cases hc
  cases hE
  exact wp_ret (hQ a w hO)
 | scope c ih =>
  intro h h' cc σ σ' o a w Q hc hO hE hQ
  refine wp_scope_straight (ih hc hO hE fun a' w' h'=>?_)
  have:=hQ a' w' h'
  cases o <;> exact this
 | label l =>
  intro h h' cc σ σ' o a w Q hc hO hE hQ
  cases hc
  cases hE
  exact wp_label (hQ a w hO)
 | _=>intro h h' cc σ σ' o a w Q hc;cases hc
end
end
section
open Go
section
variable {P : Program} {Γ:Env} {bn Fz bD:Nat → Prop} {w0 w w':World} {bg bs:List Nat} {N:Fr} {F:Nat} {κ iT:Nat → Value} {σ fH σ':St} {a:Act} {X:Hx}
theorem EC {bo:List Nat}:∀ {dR:List AV} {vals:List Value} {bx bs:List Nat} {i:Nat} {pend:List PL} {jK:List Value} {nA:List CV} {κ:Nat → Value} {σ σ':St},bT bn w0 bg N (bx ++ bs) Fz κ σ a w → fC Fz w dR vals bx → (∀ j v,vals[j]? = some v → a.tmps.getD (i + j) undef = v) → aT Fz κ w pend jK → enter bo i pend σ dR = some (nA,σ') →
  ∃ eX,bT bn w0 bg N bs Fz eX σ' a w ∧ dO Fz eX w nA vals ∧ aT Fz eX w pend jK
 | [],[],bx,bs,i,pend,jK,nA,κ,σ,σ',h,hx,ht,hp,hs=>by cases hs;cases hx;exact ⟨κ,h,trivial,hp⟩
 | [],_ :: _,_,_,_,_,_,_,_,_,_,_,hx,_,_,_=>hx.elim
 | _ :: _,[],_,_,_,_,_,_,_,_,_,_,hx,_,_,_=>hx.elim
 | x :: dR,v :: vals,bx,bs,i,pend,jK,nA,κ,σ,σ',h,hx,ht,hp,hs=>by
  obtain ⟨b1,b2,h1,h2,rfl⟩:=hx
  obtain ⟨p,h3,h4⟩:=zbm hs
  obtain ⟨r,h5,h6⟩:=zmm h4
  cases h6
  obtain ⟨zY,e1,e2,e3,_⟩:=Ms (Kp:=fun _=>True) (fun _ _=>trivial) (fun _ _ _=>trivial) trivial (bs:=b2 ++ bs) (by rw [← aj0];exact h) h1 hp h3
  have hv:a.tmps.getD i undef = v:=by have:=ht 0 v rfl;rwa [Nat.add_zero] at this
  have hrel:bT bn w0 bg N (b2 ++ bs) Fz zY ⟨Ev.put p.2.tm i (.c p.1),p.2.ob⟩ a w:=⟨e1.rel.put' (by rw [hv];exact e2),e1.mg,e1.ap⟩
  obtain ⟨Gs,g1,g2,g3⟩:=EC hrel h2 (fun j u hj=>by have:=ht (j + 1) u (by simpa using hj);rwa [show i + 1 + j = i + (j + 1) from by omega]) (show aT Fz zY w (Ev.cells p.1 ++ pend) (Ev.El p.1 v ++ jK) from e2.El.app e3) h5
  obtain ⟨g5,g6⟩:=g3.CB (by have:=e2.El.length;omega)
  exact ⟨Gs,g1,⟨fU.Mt (fun xs hx=>by rw [hx] at e2;obtain ⟨cs,h,_⟩:=e2;exact ⟨cs,h⟩) g5,g2⟩,g6⟩
theorem wZ (h:bT bn w0 bg N bs Fz κ σ a w) {x:PL} {y:TV} {v:Value} (hx:eu Fz κ w x v) (hs:outT σ x = some (y,σ')):∃ bD bx,bT bn w0 bg N (bx ++ bs) bD κ σ' a w ∧ (∀ b,Fz b → bD b) ∧ nD bD w y v bx:=by
 cases x with
 | f x=>cases hs;exact ⟨Fz,[],h,fun _ h=>h,hx,rfl⟩
 | bY=>cases hs;exact ⟨Fz,[],h,fun _ h=>h,by simp only [fA];exact ⟨none,0,hx,aji _,by simp,.inl trivial⟩,rfl⟩
 | iR=>cases hs;exact ⟨Fz,[],h,fun _ h=>h,hx,rfl⟩
 | fq=>cases hs;exact ⟨Fz,[],h,fun _ h=>h,hx,rfl⟩
 | fp cs=>cases hs;exact ⟨Fz,[],h,fun _ h=>h,eu.mono (κ:=κ) (eX:=fun _=>undef) (fun _ h=>h) (fun _ _=>rfl) (fun k hk=>by cases hk) hx,rfl⟩
 | fn f cs=>cases hs;exact ⟨Fz,[],h,fun _ h=>h,eu.mono (κ:=κ) (eX:=fun _=>undef) (fun _ h=>h) (fun _ _=>rfl) (fun k hk=>by cases hk) hx,rfl⟩
 | own key n =>
  obtain ⟨p,h1,h2⟩:=zmm hs
  cases h2
  obtain ⟨bD,g1,g2,g3⟩:=h.vP hx h1
  exact ⟨bD,[],g1,g2,g3,rfl⟩
 | mp key =>
  simp only [outT] at hs
  split at hs
  ·rename_i sh ents fV
   cases hs
   obtain ⟨b,h1,h2⟩:=h.rel.obj fV
   exact ⟨Fz,[b],h.take fV (by rw [h1];rfl),fun _ h=>h,b,by rw [hx.1,h1],h2,rfl⟩
  ·cases hs
 | ptr key off =>
  cases off with
  | succ n=>cases hs
  | zero =>
   simp only [outT] at hs
   split at hs
   ·rename_i xs fV
    obtain ⟨p,h1,h2⟩:=zmm hs
    cases h2
    obtain ⟨b,cs,e,g1,g2,g3⟩:=h.rel.obj fV
    obtain ⟨b',g4,g5⟩:=hx
    rw [g1] at g4
    cases g4
    obtain ⟨F1,bx,e1,e2,e3⟩:=Cw (h.take fV (by rw [g1];rfl)) g3 h1
    exact ⟨F1,b :: bx,e1.perm List.perm_middle,e2,b,cs,e,bx,g5,g2,e3,rfl⟩
   ·cases hs
 | _=>cases hs
theorem ED : ∀ {xs:List PL} {ys:List TV} {vs:List Value} {bs:List Nat} {Fz:Nat → Prop} {σ σ':St},bT bn w0 bg N bs Fz κ σ a w → aT Fz κ w xs vs → vQ σ xs = some (ys,σ') → ∃ bD bx,bT bn w0 bg N (bx ++ bs) bD κ σ' a w ∧ (∀ b,Fz b → bD b) ∧ kQ bD w ys vs bx
 | [],ys,[],bs,Fz,σ,σ',h,_,hs=>by cases hs;exact ⟨Fz,[],h,fun _ h=>h,rfl⟩
 | x :: xs,ys,v :: vs,bs,Fz,σ,σ',h,hx,hs=>by
  obtain ⟨p,h1,h2⟩:=zbm hs
  obtain ⟨r,h3,h4⟩:=zmm h2
  cases h4
  obtain ⟨F1,b1,e1,e2,e3⟩:=wZ h hx.1 h1
  obtain ⟨F2,b2,e4,e5,e6⟩:=ED e1 (aT.mono e2 (fun _ _=>rfl) xs (fun _ _=>rfl) vs hx.2) h3
  refine ⟨F2,b1 ++ b2,e4.perm ?_,fun b hb=>e5 b (e2 b hb),b1,b2,e3.mono e5 (fun _ _=>rfl) (fun _ _=>rfl),e6,rfl⟩
  rw [← aj0]
  exact List.perm_append_comm.append_right bs
 | [],_,_ :: _,_,_,_,_,_,h,_=>h.elim
 | _ :: _,_,[],_,_,_,_,_,h,_=>h.elim
theorem QC (h:bT bn w0 bg N bs Fz κ σ a w) {x:CV} {y:AV} {v:Value} (hx:fU Fz κ w x v) (hs:Qf σ x = some (y,σ')):∃ bD bx,bT bn w0 bg N (bx ++ bs) bD κ σ' a w ∧ (∀ b,Fz b → bD b) ∧ pG bD w y v bx:=by
 cases x with
 | one x =>
  obtain ⟨p,h1,h2⟩:=zmm hs
  cases h2
  exact wZ h hx h1
 | agg xs =>
  obtain ⟨p,h1,h2⟩:=zmm hs
  cases h2
  obtain ⟨cs,rfl,hx⟩:=hx
  obtain ⟨F1,b1,e1,e2,e3⟩:=ED h hx h1
  exact ⟨F1,b1,e1,e2,cs,rfl,e3⟩
theorem QD (h:bT bn w0 bg N bs Fz κ σ a w) {sz:Nat} {x:PL} {y:TV} {v:Value} (hx:eu Fz κ w x v) (hs:Cb sz σ x = some (y,σ')):∃ bx,bT bn w0 bg N (bx ++ bs) Fz κ σ' a w ∧ nD Fz w y v bx:=by
 cases x with
 | own key n =>
  simp only [Cb] at hs
  split at hs
  ·rename_i z rows fV
   split at hs
   ·rename_i hz
    subst hz
    cases hs
    obtain ⟨g1,g2⟩:=h.Iz fV
    exact ⟨_,g1,by rw [hx.1];exact g2⟩
   ·cases hs
  ·cases hs
 | bY =>
  simp only [Cb] at hs
  split at hs
  ·cases hs
  ·rename_i hz
   cases hs
   have hv:v = .slice none 0 0:=hx
   subst hv
   exact ⟨[],h,by omega,0,[],none,0,rfl,World.ownsRow_nil w _ _ _,rfl,rfl⟩
 | _=>cases hs
theorem QE (h:bT bn w0 bg N bs Fz κ σ a w) {fl:Option Nat} {x:CV} {y:AV} {v:Value} (hx:fU Fz κ w x v) (hs:Cc fl σ x = some (y,σ')):∃ bD bx,bT bn w0 bg N (bx ++ bs) bD κ σ' a w ∧ (∀ b,Fz b → bD b) ∧ pG bD w y v bx:=by
 cases fl with
 | none=>exact QC h hx (by cases x <;> exact hs)
 | some sz =>
  cases x with
  | one x =>
   obtain ⟨p,h1,h2⟩:=zmm hs
   cases h2
   obtain ⟨bx,e1,e2⟩:=QD h hx h1
   exact ⟨Fz,bx,e1,fun _ h=>h,e2⟩
  | agg xs=>cases hs
theorem EF : ∀ {xs:List CV} {ys:List AV} {vs:List Value} {fl:List (Option Nat)} {bs:List Nat} {Fz:Nat → Prop} {σ σ':St},bT bn w0 bg N bs Fz κ σ a w → dO Fz κ w xs vs → mH fl σ xs = some (ys,σ') → ∃ bD bx,bT bn w0 bg N (bx ++ bs) bD κ σ' a w ∧ (∀ b,Fz b → bD b) ∧ fC bD w ys vs bx
 | [],ys,[],fl,bs,Fz,σ,σ',h,_,hs=>by cases hs;exact ⟨Fz,[],h,fun _ h=>h,rfl⟩
 | x :: xs,ys,v :: vs,fl,bs,Fz,σ,σ',h,hx,hs=>by
  obtain ⟨p,h1,h2⟩:=zbm hs
  obtain ⟨r,h3,h4⟩:=zmm h2
  cases h4
  obtain ⟨F1,b1,e1,e2,e3⟩:=QE h hx.1 h1
  obtain ⟨F2,b2,e4,e5,e6⟩:=EF e1 (dO.mono e2 (fun _ _=>rfl) xs (fun _ _=>rfl) vs hx.2) h3
  refine ⟨F2,b1 ++ b2,e4.perm ?_,fun b hb=>e5 b (e2 b hb),b1,b2,e3.mono e5 (fun _ _=>rfl) (fun _ _=>rfl),e6,rfl⟩
  rw [← aj0]
  exact List.perm_append_comm.append_right bs
 | [],_,_ :: _,_,_,_,_,_,_,h,_=>h.elim
 | _ :: _,_,[],_,_,_,_,_,_,h,_=>h.elim
theorem EG {x:PL} {y z:TV} {v:Value} {Gh:List Nat} {F0:Nat → Prop} {u0:World} (h:bT bn w0 bg N bs Fz κ σ a w) {MU:Nat → Value} (hx:eu F0 MU u0 x v) (Lu:∀ k,k % 2 = 1 → κ k = MU k) (hy:nD F0 u0 y v Gh) (hf:∀ b,F0 b → Fz b) (hw:∀ b,F0 b → w.heap[b]? = u0.heap[b]?) (hs:jR σ x y = some (z,σ')) :
  ∃ bD bx,bT bn w0 bg N (bx ++ bs) bD κ σ' a w ∧ (∀ b,Fz b → bD b) ∧ nD bD w z v bx:=by
 have plain:Gh = [] → some (y,σ) = some (z,σ') → ∃ bD bx,bT bn w0 bg N (bx ++ bs) bD κ σ' a w ∧ (∀ b,Fz b → bD b) ∧ nD bD w z v bx:=by
  intro hb hs
  cases hs
  subst hb
  exact ⟨Fz,[],h,fun _ h=>h,hy.mono hf hw (fun b hb=>by simp at hb)⟩
 cases y with
 | ptr cs =>
  cases x with
  | ptr key off =>
   cases off with
   | succ n=>cases hs
   | zero =>
    simp only [jR] at hs
    split at hs
    ·rename_i hk
     exact wZ h (show eu Fz κ w (.ptr key 0) v by obtain ⟨b,h1,h2⟩:=hx;exact ⟨b,(Lu key hk).trans h1,h2⟩) hs
    ·cases hs
  | _=>cases hs
 | mp sh ents =>
  cases x with
  | mp key =>
   simp only [jR] at hs
   split at hs
   ·rename_i hk
    exact wZ h (show eu Fz κ w (.mp key) v by obtain ⟨h1,h2⟩:=hx;exact ⟨h1.trans (Lu key hk).symm,h2⟩) hs
   ·cases hs
  | ptr key off=>cases off <;> cases hs
  | _=>cases hs
 | own sz rows =>
  have g:z = .any → σ' = σ → ∃ bD bx,bT bn w0 bg N (bx ++ bs) bD κ σ' a w ∧ (∀ b,Fz b → bD b) ∧ nD bD w z v bx:=by
   rintro rfl rfl
   exact ⟨Fz,[],h,fun _ h=>h,rfl⟩
  cases x with
  | ptr key off=>cases off <;> (cases hs;exact g rfl rfl)
  | own key n =>
   simp only [jR] at hs
   split at hs
   ·rename_i hk
    split at hs
    ·rename_i z' rows' fV
     cases hs
     obtain ⟨g1,g2⟩:=h.Iz fV
     refine ⟨Fz,_,g1,fun _ h=>h,?_⟩
     rw [hx.1,← Lu key hk]
     exact g2
    ·cases hs
   ·cases hs;exact g rfl rfl
  | _=>cases hs;exact g rfl rfl
 | fp cs =>
  cases x with
  | ptr key off=>cases off <;> exact plain hy.2 hs
  | _=>exact plain hy.2 hs
 | fn f cs =>
  cases x with
  | ptr key off=>cases off <;> exact plain hy.2 hs
  | _=>exact plain hy.2 hs
 | any =>
  cases x with
  | ptr key off=>cases off <;> exact plain hy hs
  | _=>exact plain hy hs
 | f y =>
  cases x with
  | ptr key off=>cases off <;> exact plain hy.2 hs
  | _=>exact plain hy.2 hs
 | iR =>
  cases x with
  | ptr key off=>cases off <;> exact plain hy.2 hs
  | _=>exact plain hy.2 hs
 | fq =>
  cases x with
  | ptr key off=>cases off <;> exact plain hy.2 hs
  | _=>exact plain hy.2 hs
theorem AU {F0:Nat → Prop} {u0:World} {MU:Nat → Value} (Lu:∀ k,k % 2 = 1 → κ k = MU k):∀ {xs:List PL} {ys zs:List TV} {vs:List Value} {bs Gh:List Nat} {Fz:Nat → Prop} {σ σ':St},bT bn w0 bg N bs Fz κ σ a w → aT F0 MU u0 xs vs → kQ F0 u0 ys vs Gh → (∀ b,F0 b → Fz b) → (∀ b,F0 b → w.heap[b]? = u0.heap[b]?) → oJ σ xs ys = some (zs,σ') →
  ∃ bD bx,bT bn w0 bg N (bx ++ bs) bD κ σ' a w ∧ (∀ b,Fz b → bD b) ∧ kQ bD w zs vs bx
 | [],[],zs,[],bs,Gh,Fz,σ,σ',h,hx,hy,hf,hw,hs=>by cases hs;exact ⟨Fz,[],h,fun _ h=>h,rfl⟩
 | x :: xs,y :: ys,zs,v :: vs,bs,Gh,Fz,σ,σ',h,hx,hy,hf,hw,hs=>by
  obtain ⟨y1,y2,h1,h2,_⟩:=hy
  obtain ⟨p,h3,h4⟩:=zbm hs
  obtain ⟨r,h5,h6⟩:=zmm h4
  cases h6
  obtain ⟨F1,b1,e1,e2,e3⟩:=EG h hx.1 Lu h1 hf hw h3
  obtain ⟨F2,b2,e4,e5,e6⟩:=AU Lu e1 hx.2 h2 (fun b hb=>e2 b (hf b hb)) hw h5
  refine ⟨F2,b1 ++ b2,e4.perm ?_,fun b hb=>e5 b (e2 b hb),b1,b2,e3.mono e5 (fun _ _=>rfl) (fun _ _=>rfl),e6,rfl⟩
  rw [← aj0]
  exact List.perm_append_comm.append_right bs
 | [],[],_,_ :: _,_,_,_,_,_,_,hx,_,_,_,_=>hx.elim
 | _ :: _,_ :: _,_,[],_,_,_,_,_,_,hx,_,_,_,_=>hx.elim
 | [],_ :: _,_,_,_,_,_,_,_,_,_,_,_,_,hs=>by cases hs
 | _ :: _,[],_,_,_,_,_,_,_,_,_,_,_,_,hs=>by cases hs
theorem MV {F0:Nat → Prop} {u0:World} {MU:Nat → Value} (Lu:∀ k,k % 2 = 1 → κ k = MU k) {x:CV} {y z:AV} {v:Value} {Gh:List Nat} (h:bT bn w0 bg N bs Fz κ σ a w) (hx:fU F0 MU u0 x v) (hy:pG F0 u0 y v Gh) (hf:∀ b,F0 b → Fz b) (hw:∀ b,F0 b → w.heap[b]? = u0.heap[b]?) (hs:xP σ x y = some (z,σ')) :
  ∃ bD bx,bT bn w0 bg N (bx ++ bs) bD κ σ' a w ∧ (∀ b,Fz b → bD b) ∧ pG bD w z v bx:=by
 cases x with
 | one x =>
  cases y with
  | one y =>
   obtain ⟨p,h1,h2⟩:=zmm hs
   cases h2
   exact EG h hx Lu hy hf hw h1
  | agg ys=>cases hs
 | agg xs =>
  cases y with
  | one y=>cases hs
  | agg ys =>
   obtain ⟨p,h1,h2⟩:=zmm hs
   cases h2
   obtain ⟨cs,rfl,hx⟩:=hx
   obtain ⟨cs',hcs,hy⟩:=hy
   cases hcs
   obtain ⟨F1,b1,e1,e2,e3⟩:=AU Lu h hx hy hf hw h1
   exact ⟨F1,b1,e1,e2,cs,rfl,e3⟩
theorem AX {F0:Nat → Prop} {u0:World} {MU:Nat → Value} (Lu:∀ k,k % 2 = 1 → κ k = MU k):∀ {xs:List CV} {ys zs:List AV} {vs:List Value} {bs Gh:List Nat} {Fz:Nat → Prop} {σ σ':St},bT bn w0 bg N bs Fz κ σ a w → dO F0 MU u0 xs vs → fC F0 u0 ys vs Gh → (∀ b,F0 b → Fz b) → (∀ b,F0 b → w.heap[b]? = u0.heap[b]?) → j4 σ xs ys = some (zs,σ') →
  ∃ bD bx,bT bn w0 bg N (bx ++ bs) bD κ σ' a w ∧ (∀ b,Fz b → bD b) ∧ fC bD w zs vs bx
 | [],[],zs,[],bs,Gh,Fz,σ,σ',h,hx,hy,hf,hw,hs=>by cases hs;exact ⟨Fz,[],h,fun _ h=>h,rfl⟩
 | x :: xs,y :: ys,zs,v :: vs,bs,Gh,Fz,σ,σ',h,hx,hy,hf,hw,hs=>by
  obtain ⟨y1,y2,h1,h2,_⟩:=hy
  obtain ⟨p,h3,h4⟩:=zbm hs
  obtain ⟨r,h5,h6⟩:=zmm h4
  cases h6
  obtain ⟨F1,b1,e1,e2,e3⟩:=MV Lu h hx.1 h1 hf hw h3
  obtain ⟨F2,b2,e4,e5,e6⟩:=AX Lu e1 hx.2 h2 (fun b hb=>e2 b (hf b hb)) hw h5
  refine ⟨F2,b1 ++ b2,e4.perm ?_,fun b hb=>e5 b (e2 b hb),b1,b2,e3.mono e5 (fun _ _=>rfl) (fun _ _=>rfl),e6,rfl⟩
  rw [← aj0]
  exact List.perm_append_comm.append_right bs
 | [],[],_,_ :: _,_,_,_,_,_,_,hx,_,_,_,_=>hx.elim
 | _ :: _,_ :: _,_,[],_,_,_,_,_,_,hx,_,_,_,_=>hx.elim
 | [],_ :: _,_,_,_,_,_,_,_,_,_,_,_,_,hs=>by cases hs
 | _ :: _,[],_,_,_,_,_,_,_,_,_,_,_,_,hs=>by cases hs
end
end
section
open Go
def nK (P:Program):List ResultVar → Option (List Rs)
 | []=>some []
 | .tmp t :: l=>(nK P l).map fun r=>.t t :: r
 | .cell a t :: l=>(uT P t).bind fun g=>(lI P t).bind fun n=>(nK P l).map fun r=>.cell a (if g then n else 1) g :: r
section
variable {P : Program} {Γ:Env} {bn Fz bD:Nat → Prop} {w0 w w':World} {bg bs:List Nat} {N:Fr} {F:Nat} {κ iT:Nat → Value} {σ fH σ':St} {a:Act} {X:Hx}
def AY (tmps:Array Value) (r:ResultVar):Sem Value:=match r with
 | .tmp t=>pure (tmps.getD t undef)
 | .cell a t=>do loadVar t (← asAddr (tmps.getD a undef))
theorem yC (h:Rel bn w0 bg N Fz κ σ a w):∀ {rv:List ResultVar} {rs:List Rs} {nA:List CV},nK P rv = some rs → slots σ rs = some nA → ∃ vs,(rv.mapM (AY a.tmps)).run P w = .ok vs w ∧ dO Fz κ w nA vs
 | [],rs,nA,hc,hs=>by cases hc;cases hs;exact ⟨[],by simp,trivial⟩
 | .tmp t :: l,rs,nA,hc,hs=>by
  obtain ⟨r,h1,rfl⟩:=zmm hc
  obtain ⟨x,h2,hs⟩:=zbm hs
  obtain ⟨m,h3,rfl⟩:=zmm hs
  obtain ⟨vs,e1,e2⟩:=yC h h1 h3
  have hv:=h.eval (x:=.tmp t) (y:=.t t) rfl h2
  refine ⟨a.tmps.getD t undef :: vs,?_,hv,e2⟩
  rw [List.mapM_cons]
  simp [AY,e1]
 | .cell ad t :: l,rs,nA,hc,hs=>by
  obtain ⟨g,hg,hc⟩:=zbm hc
  obtain ⟨n,hn,hc⟩:=zbm hc
  obtain ⟨r,h1,rfl⟩:=zmm hc
  obtain ⟨x,h2,hs⟩:=zbm hs
  obtain ⟨m,h3,rfl⟩:=zmm hs
  obtain ⟨vs,e1,e2⟩:=yC h h1 h3
  simp only [slot] at h2
  split at h2
  ·rename_i key off hk
   split at h2
   ·rename_i xs fV
    obtain ⟨sg,h5,h6⟩:=zbm h2
    have hv:iH Fz κ w (.c (.one (.ptr key off))) (a.tmps.getD ad undef):=h.val hk
    obtain ⟨b,g1,g2⟩:=hv
    obtain ⟨b',cs,e,g3,g4,g5⟩:=h.obj fV
    rw [g1] at g3
    cases g3
    obtain ⟨e6,e7,e8⟩:=g5.seg h5
    obtain ⟨v,e9,e10⟩:=nH (P:=P) (b:=b) (o:=off) hg hn e6 (fun j v hj=>by
     have:=kU (w:=w) (b:=b) (o:=0) (off:=off) (vs:=cs.toList) (n:=if g then n else 1) (fun j v hj=>by
      rw [ajI]
      simp only [World.cell?,g4]
      simpa using hj) j v hj
     rwa [ajI] at this) e7 h6
    refine ⟨v :: vs,?_,e10,e2⟩
    have ha:(asAddr (a.tmps.getD ad undef)).run P w = .ok ⟨b,off,none⟩ w:=by rw [g2];rfl
    have hro:(AY a.tmps (.cell ad t)).run P w = .ok v w:=by
     simp only [AY,Sem.run_bind,ha,Result.andThen_ok]
     exact e9
    rw [List.mapM_cons]
    simp only [Sem.run_bind,hro,e1,Result.andThen_ok,Sem.run_pure]
   ·cases h2
  ·cases h2
theorem GH (h:Rel bn w0 bg N Fz κ σ a w) {fn:Func} {rs:List Rs} {nA:List CV} (hc:nK P fn.results.toList = some rs) (hs:slots σ rs = some nA):∃ vs,(results fn a.tmps).run P w = .ok (ret vs) w ∧ dO Fz κ w nA vs:=by
 obtain ⟨vs,h1,h2⟩:=yC h hc hs
 refine ⟨vs,?_,h2⟩
 have he:results fn a.tmps = (do let vs ← fn.results.mapM (AY a.tmps);pure (if h:vs.size = 1 then vs[0] else .tuple vs)):=by
  unfold results AY
  congr 1
 rw [he,Array.mapM_eq_mapM_toList]
 simp only [Sem.run_bind,Sem.run_map,h1,Result.andThen_ok,Sem.run_pure]
 match vs with
 | []=>rfl
 | [x]=>rfl
 | x :: y :: l=>simp [ret]
theorem MW {fn:Func} {cf:CF} {dR rs pX:List AV} {vals:List Value} {nA:List CV} {N:Fr} (hr:nK P fn.results.toList = some cf.res) (ha:fC Fz w dR vals bs) (hap:∀ b ∈ bs,¬ Fz b ∧ b < w.heap.size) (hfz:∀ b,Fz b → b < w.heap.size) (g2:dO Fz iT w nA vals) :
  ∀ a' w',Ok Fz w bs N iT σ a' w' → ((j4 σ nA dR).bind fun b=>(slots b.2 cf.res).bind fun l=>(mH cf.ro b.2 l).map fun r=>(r.1,b.1)) = some (rs,pX) →
    a'.defers = N.ds ∧ ∃ v,(results fn a'.tmps).run P w' = .ok v w' ∧ ∃ bD tK b1 b2,Ending.returned v = .returned (ret tK) ∧ Post Fz w vals bs rs pX bD w' tK b1 b2:=by
 rintro a' w' ⟨F1,κ,hr1,hk⟩ hE
 obtain ⟨b,h3,hE⟩:=zbm hE
 obtain ⟨l,h4,hE⟩:=zbm hE
 obtain ⟨r,h5,h6⟩:=zmm hE
 cases h6
 have hmv:∀ b,Fz b → w'.heap[b]? = w.heap[b]?:=fun b hb=>hr1.ext b (hfz b hb) (fun hm=>(hap b hm).1 hb)
 obtain ⟨F2,b1,e1,e2,e3⟩:=AX hk hr1.x g2 ha (fun b hb=>hr1.zP b hb) hmv h3
 rw [akg] at e1
 obtain ⟨tK,e4,e5⟩:=GH e1.rel hr h4
 obtain ⟨F3,b2,e6,e7,e8⟩:=EF e1 e5 h5
 have hpm:=e6.perm List.perm_append_comm
 refine ⟨hr1.mg,ret tK,e4,F3,tK,b1,b2,rfl,fun b hb=>e7 b (e2 b (hr1.zP b hb)),fun b hb=>e6.rel.fz b hb,hr1.big,hr1.ext,hr1.kp,e3.mono e7 (fun _ _=>rfl) (fun _ _=>rfl),e8,hpm.mg,fun b hb=>?_⟩
 have:=hpm.ap b hb
 exact ⟨this.1,this.2.1,this.2.2.1⟩
theorem fC.len : ∀ {xs:List AV} {vs:List Value} {b:List Nat},fC Fz w xs vs b → vs.length = xs.length
 | [],[],_,_=>rfl
 | [],_ :: _,_,h=>h.elim
 | _ :: _,[],_,h=>h.elim
 | x :: xs,v :: vs,_,⟨_,_,_,h2,_⟩=>by simp [fC.len h2]
theorem entered {bo:List Nat} {n:Nat} {dR:List AV} {vals:List Value} {nA:List CV} (ha:fC Fz w dR vals bs) (hnd:bs.Nodup) (hap:∀ b ∈ bs,¬ Fz b ∧ b < w.heap.size) (hfz:∀ b,Fz b → b < w.heap.size)
  (hsz:(vals.toArray ++ Array.replicate (n - vals.toArray.size) undef).size = n) (h1:enter bo 0 [] ⟨[],[]⟩ dR = some (nA,σ)) :
  ∃ iT,Ok Fz w bs (Fr.of n) iT σ { tmps:=vals.toArray ++ Array.replicate (n - vals.toArray.size) undef,defers:=[] } w ∧ dO Fz iT w nA vals:=by
 have Z7:bT Fz w bs (Fr.of n) (bs ++ []) Fz (fun _=>undef) ⟨[],[]⟩ { tmps:=vals.toArray ++ Array.replicate (n - vals.toArray.size) undef,defers:=[] } w :=
  ⟨⟨fun p hp=>by simp at hp,hsz,rfl,fun d hd=>by
   rw [ajW,akl (by rw [hsz];simpa [Fr.of,Cg] using hd)];rfl,fun p hp=>by simp at hp,fun p hp=>by simp at hp,fun p hp=>by simp at hp,fun b hb=>⟨hfz b hb,.inl hb⟩,fun _ h=>h,aji _,fun _ _ _=>rfl,rfl,rfl⟩,by rw [akg];exact hnd,fun b hb=>by
   rw [akg] at hb
   exact ⟨(hap b hb).1,(hap b hb).2,.inl hb,fun p hp=>by simp at hp⟩⟩
 obtain ⟨iT,g1,g2,_⟩:=EC Z7 ha (fun j v hj=>by
  rw [ajI,ajW,Array.getElem?_append_left (by
   have:=(aj5.mp hj).1
   simpa using this)]
  simp [hj]) (show aT Fz (fun _=>undef) w [] [] from trivial) h1
 exact ⟨iT,⟨Fz,iT,g1.rel,fun _ _=>rfl⟩,g2⟩
theorem AZ (hm:P.follows .mixedOrders = true) (heq:∀ t ∈ X.eqs,lJ P t) (kR:iy P Γ) (hC:dN P Γ) {f:FuncId} {fn:Func} {c:Code} (hf:P.funcs[f]? = some fn) (hb:fn.body = some c) {cf:CF} {hints rest:List Hi}
  (hc:comp P X (Cg fn.ntmps) c hints = some (cf.body,rest)) (hr:nK P fn.results.toList = some cf.res) (hnp:cf.np ≤ fn.ntmps) (F:Nat):Sat P f (J4 Γ F cf):=by
 intro dR rs pX hE Fz w vals bs ha hnd hap hfz
 unfold J4 at hE
 split at hE
 ·cases hE
 ·rename_i hlen
  have hlen':dR.length = cf.np:=ajU.mp hlen
  have hvl:vals.length = dR.length:=ha.len
  obtain ⟨e,h1,hE⟩:=zbm hE
  obtain ⟨p,h2,hE⟩:=zbm hE
  refine calls_of_wp hf hb ?_
  have hsz:(vals.toArray ++ Array.replicate (fn.ntmps - vals.toArray.size) undef).size = fn.ntmps:=by simp;omega
  obtain ⟨iT,hok,g2⟩:=entered ha hnd hap hfz hsz h1
  have fin:=fun a' w'=>MW (σ:=p.2) (N:=Fr.of fn.ntmps) (rs:=rs) (pX:=pX) (cf:=cf) hr ha hap hfz g2 a' w'
  refine EB hm heq kR hC c hc hok h2 fun a' w' hO=>?_
  cases hp:p.1 with
  | jf=>rw [hp] at hE;exact fin a' w' hO hE
  | ret=>rw [hp] at hE;exact fin a' w' hO hE
  | ext id=>rw [hp] at hE;cases hE
end
end
section
open Go
structure Tok {α:Type} (k:α → Prop):Type where
def W {α:Type} (k:α → Prop) (_:Tok k) (x:Option α):Prop:=∃ a,x = some a ∧ k a
section
variable {α β:Type} {k:α → Prop} {u:Tok k}
theorem gQ {a:α}:W k u (some a) ↔ k a:=by simp [W]
theorem uY : W k u none ↔ False:=by simp [W]
theorem GI {x:Option β} {f:β → Option α}:W k u (x.bind f) ↔ W (fun a=>W k ⟨⟩ (f a)) ⟨⟩ x:=by
 cases x <;> simp [W]
theorem MX {x:Option β} {f:β → α}:W k u (x.map f) ↔ W (fun a=>k (f a)) ⟨⟩ x:=by
 cases x <;> simp [W]
theorem Z8 {c:Prop} [Decidable c] {a b:Option α}:W k u (if c then a else b) ↔ (c → W k u a) ∧ (¬ c → W k u b):=by
 by_cases h:c <;> simp [h]
theorem GJ {c:Prop} [Decidable c] {a:Option α}:W k u (if c then a else none) ↔ c ∧ W k u a:=by
 by_cases h:c <;> simp [h,uY]
theorem GK {c:Prop} [Decidable c] {a:Option α}:W k u (if c then none else a) ↔ ¬ c ∧ W k u a:=by
 by_cases h:c <;> simp [h,uY]
theorem uZ {j:α → Prop} {x:Option α} (h:W j ⟨⟩ x) (hi:∀ a,j a → k a):W k u x:=by
 obtain ⟨a,h1,h2⟩:=h;exact ⟨a,h1,hi a h2⟩
end
def V {α:Type} (k:α → Prop) (x:Option α):Prop:=∃ a,x = some a ∧ k a
section
variable {α β:Type} {k:α → Prop} {u:Tok k}
theorem dQ {x:Option α}:W k u x ↔ V k x:=ajj
theorem bB {a:α}:V k (some a) ↔ k a:=by simp [V]
theorem jB : V k none ↔ False:=by simp [V]
theorem aQ {x:Option β} {f:β → Option α}:V k (x.bind f) ↔ V (fun a=>V k (f a)) x:=by
 cases x <;> simp [V]
theorem bU {x:Option β} {f:β → α}:V k (x.map f) ↔ V (fun a=>k (f a)) x:=by
 cases x <;> simp [V]
theorem bM {c:Prop} [Decidable c] {a:Option α}:V k (if c then a else none) ↔ c ∧ V k a:=by
 by_cases h:c <;> simp [h,jB]
theorem dw {c:Prop} [Decidable c] {a:Option α}:V k (if c then none else a) ↔ ¬ c ∧ V k a:=by
 by_cases h:c <;> simp [h,jB]
theorem bX {j:β → Prop}:V k none ↔ V j none:=jB.trans jB.symm
theorem lS {j:β → Prop} {a:α} {b:β} (h:k a ↔ j b):V k (some a) ↔ V j (some b):=bB.trans (h.trans bB.symm)
theorem cZ {x:Option α} {j:α → Prop} (h:∀ a,j a ↔ k a):V j x ↔ V k x:=by
 have:j = k:=funext fun a=>propext (h a)
 rw [this]
end
structure Z9 (A B:Unit → Prop):Type where
def Br (b:Bool) (A B:Unit → Prop) (_:Z9 A B):Prop:=(b = true → A ()) ∧ (b = false → B ())
theorem QF {A B:Unit → Prop} {u:Z9 A B}:Br true A B u ↔ A ():=by simp [Br]
theorem MZ {A B:Unit → Prop} {u:Z9 A B}:Br false A B u ↔ B ():=by simp [Br]
theorem V3 {b:Bool} {A B:Unit → Prop} {u:Z9 A B}:Br (!b) A B u ↔ Br b B A ⟨⟩:=by cases b <;> simp [Br]
theorem eB {b:Bool} {A B:Unit → Prop} {u:Z9 A B} (h1:b = true → A ()) (h2:b = false → B ()):Br b A B u:=⟨h1,h2⟩
theorem Kj {α:Type} {x:Option α} {a:α} (h:W (fun b=>b = a) ⟨⟩ x):x = some a:=by
 obtain ⟨b,h1,rfl⟩:=h;exact h1
theorem CX {body:St → Option (Out × St)} {rs:St → St} {k:Out × St → Prop} {u:Tok k} (I:Nat → St → Prop)
  (hstep:∀ m σ,I m σ → W (fun p=>match p.1 with
   | .jf=>∃ j,j < m ∧ I j p.2
   | o=>k (o,p.2)) ⟨⟩ (body (rs σ))):∀ (F m:Nat) (σ:St),m < F → I m σ → W k u (iter body rs F σ)
 | 0,m,σ,h,_=>by omega
 | F + 1,m,σ,h,hI=>by
  obtain ⟨p,h1,h2⟩:=hstep m σ hI
  unfold iter
  rw [h1,Option.bind_some]
  obtain ⟨o,s⟩:=p
  cases o with
  | jf =>
   obtain ⟨j,hj,hI'⟩:=h2
   exact CX I hstep F j s (by omega) hI'
  | ext i=>exact gQ.mpr h2
  | ret=>exact gQ.mpr h2
theorem M0 {body:St → Option (Out × St)} {rs:St → St} {k:Out × St → Prop} {u:Tok k} {F:Nat} (N:Nat) (S:Nat → St) (P:Nat → Prop) (hF:N < F) (h0:P 0)
  (step:∀ i,i < N → P i → W (fun p=>match p.1 with
   | .jf=>p.2 = S (i + 1) ∧ P (i + 1)
   | o=>k (o,p.2)) ⟨⟩ (body (rs (S i))))
  (last:P N → W (fun p=>match p.1 with
   | .jf=>False
   | o=>k (o,p.2)) ⟨⟩ (body (rs (S N)))):W k u (iter body rs F (S 0)):=by
 refine CX (fun m σ=>∃ i,i ≤ N ∧ m = N - i ∧ σ = S i ∧ P i) ?_ F N (S 0) hF ⟨0,ajT _,rfl,rfl,h0⟩
 rintro m σ ⟨i,hi,rfl,rfl,hP⟩
 by_cases hlt:i < N
 ·refine uZ (step i hlt hP) fun p hp=>?_
  obtain ⟨o,s⟩:=p
  cases o with
  | jf=>exact ⟨N - (i + 1),by omega,i + 1,by omega,rfl,hp.1,hp.2⟩
  | ext j=>exact hp
  | ret=>exact hp
 ·have:i = N:=by omega
  subst this
  refine uZ (last hP) fun p hp=>?_
  obtain ⟨o,s⟩:=p
  cases o with
  | jf=>exact hp.elim
  | ext j=>exact hp
  | ret=>exact hp
def look : List (FuncId × CF) → FuncId → Option CF
 | [],_=>none
 | (k,c) :: l,f=>if k = f then some c else look l f
noncomputable def Gm (pI:List (FuncId × CF)) (ext:Env) (F:Nat):Nat → Env
 | 0=>fun _ _=>none
 | n + 1=>fun f dR=>match look pI f with
  | some cf=>J4 (Gm pI ext F n) F cf dR
  | none=>ext f dR
structure jS (P:Program) (f:FuncId) (cf:CF):Prop where
 ok:∃ fn c X hints rest,P.funcs[f]? = some fn ∧ (fn.name == "runtime.NumGoroutine") = false ∧ fn.body = some c ∧ (∀ t ∈ X.eqs,lJ P t) ∧ comp P X (Cg fn.ntmps) c hints = some (cf.body,rest) ∧ nK P fn.results.toList = some cf.res ∧ cf.np ≤ fn.ntmps
theorem yD : ∀ {l:List (FuncId × CF)} {f:FuncId} {c:CF},look l f = some c → (f,c) ∈ l
 | [],_,_,h=>by cases h
 | (k,d) :: l,f,c,h=>by
  unfold look at h
  split at h
  ·rename_i e;subst e;cases h;simp
  ·exact aj2 _ (yD h)
theorem A9 {P:Program} {pI:List (FuncId × CF)} {ext:Env} {F:Nat} (hm:P.follows .mixedOrders = true) (ht:∀ p ∈ pI,jS P p.1 p.2) (he:iy P ext) (hec:dN P ext):∀ n,iy P (Gm pI ext F n) ∧ dN P (Gm pI ext F n)
 | 0=>⟨fun f dR rs pX h=>by simp [Gm] at h,fun f dR r h=>by simp [Gm] at h⟩
 | n + 1=>by
  obtain ⟨h1,h2⟩:=A9 hm ht he hec n
  constructor
  ·intro f
   cases hl:look pI f with
   | none =>
    have:Gm pI ext F (n + 1) f = ext f:=by funext dR;simp only [Gm,hl]
    rw [this];exact he f
   | some cf =>
    have:Gm pI ext F (n + 1) f = J4 (Gm pI ext F n) F cf:=by funext dR;simp only [Gm,hl]
    rw [this]
    obtain ⟨fn,c,X,hints,rest,e1,_,e2,e3,e4,e5,e6⟩:=(ht _ (yD hl)).ok
    exact AZ hm e3 h1 h2 e1 e2 e4 e5 e6 F
  ·intro f dR r h
   cases hl:look pI f with
   | none=>exact hec f dR r (by simpa only [Gm,hl] using h)
   | some cf =>
    obtain ⟨fn,c,X,hints,rest,e1,e0,e2,_⟩:=(ht _ (yD hl)).ok
    exact ⟨fn,e1,e0,by rw [e2];rfl⟩
theorem dI {pI:List (FuncId × CF)} {ext:Env} {F n:Nat} {f:FuncId} {cf:CF} {dR:List AV} {r:List AV × List AV} (hl:look pI f = some cf) (h:W (fun z=>z = r) ⟨⟩ (J4 (Gm pI ext F n) F cf dR)):Gm pI ext F (n + 1) f dR = some r:=by
 simp only [Gm,hl]
 exact Kj h
theorem iB {pI:List (FuncId × CF)} {ext:Env} {F n:Nat} {f:FuncId} (hl:look pI f = none):Gm pI ext F (n + 1) f = ext f:=by
 funext dR;simp only [Gm,hl]
end
section
open Go
def GR (P:Program):List Field → Nat → Bool
 | [],_=>true
 | f :: fs,i=>(f.name != "_") && (f.offset == i) && (Gg P f.type).isSome && GR P fs (i + 1)
def okT (P:Program) (t:TypeId):Bool:=!P.eqGuardType P.depth t && match P.underlying t with
 | some (.struct fs)=>!P.stoodInHeld t && GR P fs.toList 0
 | some (.int _)=>true
 | some .string=>true
 | some .bool=>true
 | _=>false
section
variable {P : Program} {t:TypeId} {w:World}
theorem u6 {k:SK} (h:Gg P t = some k):(∃ i,P.underlying t = some (.int i) ∧ k = .int i) ∨ (P.underlying t = some .bool ∧ k = .bool) ∨ (P.underlying t = some .string ∧ k = .str):=by
 unfold Gg at h
 split at h <;> simp_all
theorem UA {d:Nat} {k:SK} (h:Gg P t = some k) {a b:SV} (ha:a.sk = k) (hb:b.sk = k):(Op.equalIn (d + 1) t (encS a) (encS b)).run P w = .ok (decide (a = b)) w:=by
 rcases u6 h with ⟨i,hu,rfl⟩ | ⟨hu,rfl⟩ | ⟨hu,rfl⟩
 ·cases a <;> cases b <;> simp_all [SV.sk,encS,Op.equalIn,run_underlying hu]
  rw [Bool.eq_iff_iff];simp
 ·cases a <;> cases b <;> simp_all [SV.sk,encS,Op.equalIn,run_underlying hu]
  rw [Bool.eq_iff_iff];simp
 ·cases a <;> cases b <;> simp_all [SV.sk,encS,Op.equalIn,run_underlying hu]
  exact Mq.uR _ _
theorem CY {k:SK} (h:Gg P t = some k) {xs:Array Value} {o:Nat} {v:Value} (hx:xs[o]? = some v):(part t xs o).run P w = .ok v w:=by
 rcases u6 h with ⟨i,hu,rfl⟩ | ⟨hu,rfl⟩ | ⟨hu,rfl⟩ <;> simp [part,isAgg,run_underlying hu,hx]
theorem Ba {d:Nat} {xs ys:Array Value}:∀ {fs:List Field} {i:Nat} {ks:List SK} {ZZ9 bs:List SV},GR P fs i = true → J6 P fs = some ks → ZZ9.map SV.sk = ks → bs.map SV.sk = ks → (∀ j:Nat,xs[i + j]? = ZZ9[j]?.map encS) → (∀ j:Nat,ys[i + j]? = bs[j]?.map encS) →
  (Op.eqFields (d + 1) xs ys fs).run P w = .ok (decide (ZZ9 = bs)) w
 | [],i,ks,ZZ9,bs,_,hk,ha,hb,_,_=>by
  cases hk
  simp only [List.map_eq_nil_iff] at ha hb
  subst ha;subst hb
  simp [Op.eqFields]
 | f :: fs,i,ks,ZZ9,bs,hf,hk,ha,hb,hx,hy=>by
  obtain ⟨k,h1,h2⟩:=zbm hk
  obtain ⟨l,h3,rfl⟩:=zmm h2
  unfold GR at hf
  simp only [ajk,akm,ne_eq,ajN] at hf
  obtain ⟨⟨⟨f1,f2⟩,f3⟩,f4⟩:=hf
  cases ZZ9 with
  | nil=>simp at ha
  | cons a ZZ9 =>
  cases bs with
  | nil=>simp at hb
  | cons b bs =>
  simp only [ajp,akv] at ha hb
  have ex:xs[f.offset]? = some (encS a):=by rw [f2];simpa using hx 0
  have ey:ys[f.offset]? = some (encS b):=by rw [f2];simpa using hy 0
  have ih:=Ba (d:=d) f4 h3 ha.2 hb.2 (fun j=>by have:=hx (j + 1);rw [show i + 1 + j = i + (j + 1) from by omega];simpa using this) (fun j=>by have:=hy (j + 1);rw [show i + 1 + j = i + (j + 1) from by omega];simpa using this)
  unfold Op.eqFields
  rw [ajd f1]
  simp only [Sem.run_bind,CY h1 ex,CY h1 ey,Result.andThen_ok,UA h1 ha.1 hb.1,akv]
  by_cases hab:a = b
  ·subst hab;simp [ih]
  ·simp [hab]
theorem Rk {e:Bool} {n:Nat} {k:SK} (h:Gg P t = some k) {a:SV} (ha:a.sk = k):(Instr.checkKey e (n + 1) t (encS a)).run P w = .ok () w:=by
 rcases u6 h with ⟨i,hu,rfl⟩ | ⟨hu,rfl⟩ | ⟨hu,rfl⟩ <;> cases a <;> simp_all [SV.sk,encS,Instr.checkKey,run_underlying hu]
theorem EK {e:Bool} {n:Nat} {cs:Array Value}:∀ {fs:List Field} {i:Nat} {ks:List SK} {ZZ9:List SV},GR P fs i = true → J6 P fs = some ks → ZZ9.map SV.sk = ks → (∀ j:Nat,cs[i + j]? = ZZ9[j]?.map encS) →
  (forIn fs PUnit.unit (fun (f:Field) (_:PUnit)=>(do
   if f.name ≠ "_" then Instr.checkKey e (n + 1) f.type (← part f.type cs f.offset)
   pure (ForInStep.yield PUnit.unit):Sem (ForInStep PUnit)))).run P w = .ok PUnit.unit w
 | [],i,ks,ZZ9,_,_,_,_=>by simp
 | f :: fs,i,ks,ZZ9,hf,hk,ha,hx=>by
  obtain ⟨k,h1,h2⟩:=zbm hk
  obtain ⟨l,h3,rfl⟩:=zmm h2
  unfold GR at hf
  simp only [ajk,akm,ne_eq,ajN] at hf
  obtain ⟨⟨⟨f1,f2⟩,f3⟩,f4⟩:=hf
  cases ZZ9 with
  | nil=>simp at ha
  | cons a ZZ9 =>
  simp only [ajp,akv] at ha
  have ex:cs[f.offset]? = some (encS a):=by rw [f2];simpa using hx 0
  have ih:=EK (e:=e) (n:=n) f4 h3 ha.2 (fun j=>by have:=hx (j + 1);rw [show i + 1 + j = i + (j + 1) from by omega];simpa using this)
  rw [List.forIn_cons]
  simp only [ajd f1,Sem.run_bind,CY h1 ex,Result.andThen_ok,Rk h1 ha.1,Sem.run_pure]
  exact ih
theorem Rl {e:Bool} {n:Nat} {fs:Array Field} {ks:List SK} {ZZ9:List SV} (hu:P.underlying t = some (.struct fs)) (hf:GR P fs.toList 0 = true) (hk:J6 P fs.toList = some ks) (ha:ZZ9.map SV.sk = ks):(Instr.checkKey e (n + 2) t (.agg (ZZ9.map encS).toArray)).run P w = .ok () w:=by
 have:=EK (w:=w) (e:=e) (n:=n) hf hk ha (cs:=(ZZ9.map encS).toArray) (fun j=>by simp)
 unfold Instr.checkKey
 simp only [Sem.run_bind,run_underlying hu,Result.andThen_ok]
 rw [← Array.forIn_toList]
 simp only [ne_eq,ite_not] at this ⊢
 simp at this ⊢
 rw [this]
 rfl
theorem Rm {n:Nat} {ZZ9:List SV} (hs:∀ (n:Nat) (a:SV),Instr.sameBits n (encS a) (encS a) = true):Instr.sameBits (n + 1) (.agg (ZZ9.map encS).toArray) (.agg (ZZ9.map encS).toArray) = true:=by
 unfold Instr.sameBits
 simp only [beq_self_eq_true,Bool.true_and,aju]
 intro p hp
 have:∀ (l:List Value) (p:Value × Value),p ∈ l.zip l → p.1 = p.2 ∧ p.1 ∈ l:=by
  intro l
  induction l with
  | nil=>intro p hp;simp at hp
  | cons x l ih =>
   intro p hp
   rcases ajw.mp hp with rfl | hp
   ·exact ⟨rfl,by simp⟩
   ·exact ⟨(ih p hp).1,aj2 _ (ih p hp).2⟩
 obtain ⟨h1,h2⟩:=this _ _ hp
 obtain ⟨x,y⟩:=p
 simp only at h1 h2
 subst h1
 simp only [ajD] at h2
 obtain ⟨s,_,rfl⟩:=h2
 exact hs _ s
theorem I7 {n:Nat} (a:SV):Instr.sameBits n (encS a) (encS a) = true:=by
 cases a <;> simp [encS,Instr.sameBits]
 rw [Mq.uR];simp
theorem EL {ks:List SK} {a:KV} (h:a.ks = .agg ks):∃ ZZ9,a = .agg ZZ9 ∧ ZZ9.map SV.sk = ks:=by
 cases a with
 | one x=>cases h
 | agg ZZ9=>exact ⟨ZZ9,rfl,by simpa [KV.ks] using h⟩
theorem Bb {k:SK} {a:KV} (h:a.ks = .one k):∃ x,a = .one x ∧ x.sk = k:=by
 cases a with
 | one x=>exact ⟨x,rfl,by simpa [KV.ks] using h⟩
 | agg ZZ9=>cases h
theorem Ro {n:Nat} {d:TypeDesc} (hu:P.underlying t = some d) (hd:∀ ms,d ≠ .interface ms):(Op.eqGuardIn (n + 1) t .nilIface .nilIface).run P w = .ok false w:=by
 unfold Op.eqGuardIn
 simp only [Sem.run_bind,run_underlying hu,Result.andThen_ok]
 cases d <;> first | rfl | exact absurd rfl (hd _)
theorem CZ {d:TypeDesc} (hu:P.underlying t = some d) (hd:∀ ms,d ≠ .interface ms) (w:World):(Op.eqGuardIn Op.maxDepth t .nilIface .nilIface).run P w = .ok false w:=by
 unfold Op.maxDepth
 exact Ro hu hd
theorem WX (h:okT P t = true):lJ P t:=by
 unfold okT at h
 rw [ajk] at h
 obtain ⟨hg,h⟩:=h
 have hg':P.eqGuardType P.depth t = false:=by simpa using hg
 have gd:(∀ w,(Op.eqGuardIn Op.maxDepth t .nilIface .nilIface).run P w = .ok false w) → ∀ op x y,∀ (a b:Value) (w:World),(eqGuard op t x y a b).run P w = .ok () w:=by
  intro hn op x y a b w
  have key:(Sem.run P (match a,b with
   | .nilIface,.nilIface=>do
    if (x matches .const _) || (y matches .const _) then return
    if ← Op.eqGuardIn Op.maxDepth t a b then unsupported (.noEntry "binop/eql: two nil values of an interface type with methods, neither of them the literal nil")
   | .agg _,.agg _=>do
    if !(← program).eqGuardType (← program).depth t then return
    if ← Op.eqGuardIn Op.maxDepth t a b then unsupported (.noEntry "binop/eql: two nil values of an interface type with methods, in a part of a struct or an array")
   | _,_=>pure ()) w) = .ok () w:=by
   cases a <;> cases b <;> first | rfl | (simp only [Sem.run_bind,run_program,Result.andThen_ok,hg'];rfl) | skip
   cases x <;> cases y <;> first | rfl | simp [hn]
  unfold eqGuard
  split
  ·exact key
  ·exact key
  ·rfl
 cases hu:P.underlying t with
 | none=>rw [hu] at h;cases h
 | some d =>
  rw [hu] at h
  have sc:∀ k,Gg P t = some k → xS P t = some (.one k) → (∀ w,(Op.eqGuardIn Op.maxDepth t .nilIface .nilIface).run P w = .ok false w) → (∀ a:SV,a.sk = k → MapKept.IsKey d (encS a)) → (∀ a b:SV,a.sk = k → b.sk = k → Instr.sameNow d (encS a) (encS b) = some (decide (a = b))) → lJ P t:=by
   intro k hk hks hn h1 h2
   have hcase:∀ {sh},xS P t = some sh → sh = .one k:=fun e=>by rw [hks] at e;cases e;rfl
   refine ⟨fun sh e=>?_,fun sh e a b w ha hb=>?_,gd hn⟩
   ·obtain rfl:=hcase e
    refine Mq.Key.Qg hu (fun a ha=>?_) (fun a b ha hb=>?_) (fun a ha=>?_)
    ·obtain ⟨x,rfl,hx⟩:=Bb ha;exact h1 x hx
    ·obtain ⟨x,rfl,hx⟩:=Bb ha
     obtain ⟨y,rfl,hy⟩:=Bb hb
     simp only [nZ,KV.one.injEq]
     exact h2 x y hx hy
    ·obtain ⟨x,rfl,hx⟩:=Bb ha;exact I7 x
   ·obtain rfl:=hcase e
    obtain ⟨x,rfl,hx⟩:=Bb ha
    obtain ⟨y,rfl,hy⟩:=Bb hb
    simp only [nZ,KV.one.injEq]
    unfold Op.equal Op.maxDepth
    exact UA hk hx hy
  cases d with
  | int i =>
   refine sc (.int i) (by simp [Gg,hu]) (by simp [xS,Gg,hu]) (CZ hu (fun _ h=>by cases h)) (fun a ha=>?_) (fun a b ha hb=>?_)
   ·cases a <;> simp_all [SV.sk,encS,MapKept.IsKey]
   ·cases a <;> cases b <;> simp_all [SV.sk,encS,Instr.sameNow]
    rw [Bool.eq_iff_iff];simp
  | bool =>
   refine sc .bool (by simp [Gg,hu]) (by simp [xS,Gg,hu]) (CZ hu (fun _ h=>by cases h)) (fun a ha=>?_) (fun a b ha hb=>?_)
   ·cases a <;> simp_all [SV.sk,encS,MapKept.IsKey]
   ·cases a <;> cases b <;> simp_all [SV.sk,encS,Instr.sameNow]
    rw [Bool.eq_iff_iff];simp
  | string =>
   refine sc .str (by simp [Gg,hu]) (by simp [xS,Gg,hu]) (CZ hu (fun _ h=>by cases h)) (fun a ha=>?_) (fun a b ha hb=>?_)
   ·cases a <;> simp_all [SV.sk,encS,MapKept.IsKey]
   ·cases a <;> cases b <;> simp_all [SV.sk,encS,Instr.sameNow]
    exact Mq.uR _ _
  | struct fs =>
   simp only [ajk,Bool.not_eq_true'] at h
   have hcase:∀ {sh},xS P t = some sh → ∃ ks,J6 P fs.toList = some ks ∧ sh = .agg ks:=fun e=>by
    unfold xS at e
    rw [hu] at e
    obtain ⟨ks,h1,h2⟩:=zmm e
    exact ⟨ks,h1,h2.symm⟩
   have idx:∀ (ZZ9:List SV) (j:Nat),((ZZ9.map encS).toArray)[0 + j]? = ZZ9[j]?.map encS:=fun ZZ9 j=>by simp
   have heq:∀ sh,xS P t = some sh → ∀ (a b:KV) (w:World),a.ks = sh → b.ks = sh → (Op.equal t (nZ a) (nZ b)).run P w = .ok (decide (a = b)) w:=by
    intro sh e a b w ha hb
    obtain ⟨ks,hks,rfl⟩:=hcase e
    obtain ⟨ZZ9,rfl,ha1⟩:=EL ha
    obtain ⟨bs,rfl,hb1⟩:=EL hb
    have hf:P.fieldsOf t = fs:=by simp [Program.fieldsOf,hu]
    unfold Op.equal Op.maxDepth
    simp only [nZ,KV.agg.injEq]
    rw [run_equalIn_struct (P:=P) w _ t _ _ (by rw [hf];exact hu) h.1,hf]
    exact Ba h.2 hks ha1 hb1 (idx ZZ9) (idx bs)
   refine ⟨fun sh e=>?_,heq,gd (CZ hu (fun _ h=>by cases h))⟩
   ·obtain ⟨ks,hks,rfl⟩:=hcase e
    refine Mq.Key.LQ hu (fun e' a w ha=>?_) (fun a b w ha hb=>heq _ e a b w ha hb) (fun a ha=>?_) (fun a ha=>?_)
    ·obtain ⟨ZZ9,rfl,ha1⟩:=EL ha
     exact Rl (n:=9998) hu h.2 hks ha1
    ·obtain ⟨ZZ9,rfl,ha1⟩:=EL ha
     exact Rm (n:=9999) (fun n a=>I7 a)
    ·obtain ⟨ZZ9,rfl,ha1⟩:=EL ha
     exact ⟨_,rfl⟩
  | _=>simp at h
end
end
section
open Go Go.RowKit
def Nb : SV → TV
 | .int k n=>.f (.int k n)
 | .bool b=>.f (.bool b)
 | .str s=>.f (.str s)
def xg (l:List SV):List AV:=l.map fun x=>.one (Nb x)
section
variable {P : Program} {Fz:Nat → Prop} {w:World}
theorem I8 {x:SV} {v:Value} {bs:List Nat}:nD Fz w (Nb x) v bs ↔ v = encS x ∧ bs = []:=by
 cases x <;> simp only [Nb,nD,fA,encS]
theorem tT : ∀ {l:List SV} {vs:List Value} {bs:List Nat},fC Fz w (xg l) vs bs → vs = l.map encS ∧ bs = []
 | [],[],_,h=>⟨rfl,h⟩
 | [],_ :: _,_,h=>h.elim
 | _ :: _,[],_,h=>h.elim
 | x :: l,v :: vs,_,⟨b1,b2,h1,h2,e⟩=>by
  obtain ⟨e1,e2⟩:=I8.mp h1
  obtain ⟨e3,e4⟩:=tT (l:=l) h2
  subst e1;subst e2;subst e3;subst e4
  exact ⟨rfl,by rw [e];rfl⟩
theorem ql : ∀ {l:List SV},fC Fz w (xg l) (l.map encS) []
 | []=>rfl
 | x :: l=>⟨[],[],I8.mpr ⟨rfl,rfl⟩,ql (l:=l),rfl⟩
theorem Sat.sI {f:FuncId} {g:List AV → Option (List AV × List AV)} (h:∀ dR r,g dR = some r → ∃ ZZ9 rs:List SV,dR = xg ZZ9 ∧ r = (xg rs,xg ZZ9) ∧
  ∀ w:World,Calls P f (ZZ9.map encS).toArray w fun e w'=>e = .returned (ret (rs.map encS)) ∧ Below w.heap.size w w'):Sat P f g:=by
 intro dR rs pX hg Fz w vals bs ha hnd hap hfz
 obtain ⟨ZZ9,rs',rfl,e,hc⟩:=h dR _ hg
 cases e
 obtain ⟨rfl,rfl⟩:=tT ha
 refine (hc w).mono fun e w' ⟨h1,hb'⟩=>?_
 exact ⟨Fz,rs'.map encS,[],[],h1,fun _ h=>h,fun b hb=>⟨ajP (hfz b hb) hb'.size,.inl hb⟩,hb'.size,fun b hb _=>hb'.block b hb,⟨hb'.os,hb'.output⟩,ql,ql,by simp,fun b hb=>by simp at hb⟩
def iW : List (FuncId × (List AV → Option (List AV × List AV))) → Env
 | []=>fun _ _=>none
 | (k,g) :: l=>fun f dR=>if k = f then g dR else iW l f dR
theorem tV : ∀ {l:List (FuncId × (List AV → Option (List AV × List AV)))},(∀ p ∈ l,Sat P p.1 p.2) → iy P (iW l)
 | [],_=>fun f dR rs pX h=>by cases h
 | (k,g) :: l,h=>fun f dR rs pX he=>by
  unfold iW at he
  split at he
  ·rename_i e;subst e;exact h (k,g) (by simp) dR rs pX he
  ·exact tV (fun p hp=>h p (aj2 _ hp)) f dR rs pX he
theorem oN : ∀ {l:List (FuncId × (List AV → Option (List AV × List AV)))},(∀ p ∈ l,∃ fn,P.funcs[p.1]? = some fn ∧ (fn.name == "runtime.NumGoroutine") = false ∧ fn.body.isSome = true) → dN P (iW l)
 | [],_=>fun f dR r h=>by cases h
 | (k,g) :: l,h=>fun f dR r he=>by
  unfold iW at he
  split at he
  ·rename_i e;subst e;exact h (k,g) (by simp)
  ·exact oN (fun p hp=>h p (aj2 _ hp)) f dR r he
end
end
section
open Go
def UE (n:Nat) (ks:List Nat):Nat → Bool:=fun d=>decide (d < n) && !ks.contains d
noncomputable def NH (Γ:Env) (F:Nat) (ca cb:CC) (s:Nat) (D:St → Option St) (cf:CF) (dR:List AV):Option (List AV × List AV) :=
 if dR.length ≠ cf.np then none else (enter cf.bo 0 [] ⟨[],[]⟩ dR).bind fun e=>(ev Γ F ca e.2).bind fun p=>match p.1 with
  | .jf=>(ev Γ F cb ⟨put p.2.tm s (.c (.one .any)),p.2.ob⟩).bind fun q=>match q.1 with
   | .ext _=>none
   | _=>(D q.2).bind fun t=>(j4 t e.1 dR).bind fun b=>(slots b.2 cf.res).bind fun l=>(mH cf.ro b.2 l).map fun r=>(r.1,b.1)
  | _=>none
section
variable {P : Program} {Γ:Env} {bn Fz bD:Nat → Prop} {w0 w w':World} {bg bs:List Nat} {N:Fr} {F:Nat} {κ iT:Nat → Value} {σ fH σ':St} {a:Act} {X:Hx}
theorem Ok.reN (h:Ok bn w0 bg N iT σ a w) (N':Fr) (hn:N'.n = N.n) (hfs:∀ d,N'.ok d = false → a.tmps.getD d undef = N'.vs d):Ok bn w0 bg N' iT σ { a with defers:=N'.ds } w:=by
 obtain ⟨Fz,κ,h,hk⟩:=h
 exact ⟨Fz,κ,⟨h.tm,h.sz.trans hn.symm,rfl,hfs,h.ob,h.uS,h.pos,h.fz,h.zP,h.big,h.ext,h.kp⟩,hk⟩
theorem GZ (hm:P.follows .mixedOrders = true) (heq:∀ t ∈ X.eqs,lJ P t) (kR:iy P Γ) (hC:dN P Γ) {f g:FuncId} {fn gn:Func} {a1 a2 r:Code} {id s c1 c2 t1 t2:Nat} {p1 p2:String} {GL GN:Array Edge} (hf:P.funcs[f]? = some fn)
  (hb:fn.body = some (.seq a1 (.seq a2 (.seq (.region id #[{ dst:=some s,op:=.makeFunc (.func g) #[] #[.tmp c1,.tmp c2],type:=t1,pos:=p1,after:=GL,guard:=none },{ dst:=none,op:=.defer { callee:=.value (.tmp s),args:=#[],argTypes:=#[] },type:=t2,pos:=p2,after:=GN,guard:=none }] false) r))))
  (hg:P.funcs[g]? = some gn) (hgn:(gn.name == "runtime.NumGoroutine") = false) (hgb:gn.body.isSome = true) {cf:CF} {ca cb:CC} {ha hb' ra rb:List Hi}
  (hca:comp P X (Cg fn.ntmps) (.seq a1 a2) ha = some (ca,ra)) (hcb:comp P X (UE fn.ntmps [c1,c2]) r hb' = some (cb,rb)) (hr:nK P fn.results.toList = some cf.res) (hnp:cf.np ≤ fn.ntmps) (hs:s < fn.ntmps) (hs1:c1 ≠ s) (hs2:c2 ≠ s) {D:St → Option St}
  (hD:∀ (bn:Nat → Prop) (w0:World) (bg:List Nat) (N:Fr) (iT:Nat → Value) (σ σ':St) (a:Act) (w:World),Ok bn w0 bg N iT σ a w → D σ = some σ' → CallsD P g #[a.tmps.getD c1 undef,a.tmps.getD c2 undef] .returning w fun e u w'=>u = .returning ∧ (∃ v,e = .returned v) ∧ Ok bn w0 bg N iT σ' a w')
  (F:Nat):Sat P f (NH Γ F ca cb s D cf):=by
 intro dR rs pX hE Fz w vals bs Yo hnd hap hfz
 unfold NH at hE
 split at hE
 ·cases hE
 rename_i hlen
 have hlen':dR.length = cf.np:=ajU.mp hlen
 have hvl:vals.length = dR.length:=Yo.len
 obtain ⟨e,h1,hE⟩:=zbm hE
 obtain ⟨p,h2,hE⟩:=zbm hE
 refine calls_of_wp_defers hf hb ?_
 have hsz:(vals.toArray ++ Array.replicate (fn.ntmps - vals.toArray.size) undef).size = fn.ntmps:=by simp;omega
 obtain ⟨iT,hok,g2⟩:=entered (bo:=cf.bo) Yo hnd hap hfz hsz h1
 cases hp:p.1 with
 | ext i=>rw [hp] at hE;cases hE
 | ret=>rw [hp] at hE;cases hE
 | jf =>
 rw [hp] at hE
 obtain ⟨q,h3,hEq⟩:=zbm hE
 obtain ⟨x1,hx1,hx2⟩:=zbm hca
 obtain ⟨x2,hx3,hx4⟩:=zmm hx2
 cases hx4
 obtain ⟨y1,hy1,hy2⟩:=zbm h2
 have hyn:y1.1 = .jf ∧ ev Γ F x2.1 y1.2 = some p:=by
  cases hy:y1.1 with
  | jf=>rw [hy] at hy2;exact ⟨rfl,hy2⟩
  | ext i=>rw [hy] at hy2;cases hy2;cases hp
  | ret=>rw [hy] at hy2;cases hy2;cases hp
 obtain ⟨hy3,hy4⟩:=hyn
 refine wp_seq (EB hm heq kR hC a1 hx1 hok hy1 fun b1 u1 k1=>?_)
 rw [hy3]
 refine wp_seq (EB hm heq kR hC a2 hx3 k1 hy4 fun b2 u2 k2=>?_)
 rw [hp]
 refine wp_seq ?_
 have hmk:∀ v1 v2:Value,(Instr.makeFunc (.func g) #[] #[v1,v2]).run P u2 = .ok (.func (.func g) #[] #[v1,v2]) u2:=fun _ _=>rfl
 obtain ⟨v1,hv1⟩:∃ v,v = b2.tmps.getD c1 undef:=⟨_,rfl⟩
 obtain ⟨v2,hv2⟩:∃ v,v = b2.tmps.getD c2 undef:=⟨_,rfl⟩
 obtain ⟨b3,hb3⟩:∃ b,b = b2.put (some s) (.func (.func g) #[] #[v1,v2]):=⟨_,rfl⟩
 have hdef:b2.defers = []:=by obtain ⟨_,_,hr2,_⟩:=k2;exact hr2.mg
 have hsz2:b2.tmps.size = fn.ntmps:=by obtain ⟨_,_,hr2,_⟩:=k2;exact hr2.sz
 have hk3:Ok Fz w bs (Fr.of fn.ntmps) iT ⟨put p.2.tm s (.c (.one .any)),p.2.ob⟩ b3 u2:=by
  obtain ⟨F2,Gs,hr2,hk2⟩:=k2
  rw [hb3]
  exact ⟨F2,Gs,hr2.put (by simpa [Fr.of,Cg] using hs) (pv:=.c (.one .any)) trivial,hk2⟩
 have hts:∀ d,d ≠ s → b3.tmps.getD d undef = b2.tmps.getD d undef:=fun d hd=>by
  rw [hb3]
  simp only [Act.put,ajW,akj]
  rw [aje (fun e=>hd e.symm)]
 obtain ⟨N1,hN1⟩:∃ N:Fr,N = ⟨fn.ntmps,[{ target:=.fn (.func g) #[v1,v2],args:=#[] }],UE fn.ntmps [c1,c2],fun d h=>by simp [UE] at h;omega,fun d=>b3.tmps.getD d undef⟩:=⟨_,rfl⟩
 have hk4:=hk3.reN N1 (by rw [hN1];rfl) (fun d _=>by rw [hN1])
 refine wp_region_lit (l:=[_,_]) ?_
 unfold wpList
 rw [ajd (show Region.wanted _ _ = true from rfl)]
 left
 have r1:(execOp b2.eval { dst:=some s,op:=.makeFunc (.func g) #[] #[.tmp c1,.tmp c2],type:=t1,pos:=p1,after:=GL,guard:=none }).run P u2 = .ok (.value (.func (.func g) #[] #[v1,v2])) u2:=by
  unfold execOp
  simp [Act.eval,hmk,← hv1,← hv2]
 unfold Oper.wp
 rw [r1]
 show wpList P _ _ _ (b2.put (some s) _) u2
 rw [← hb3]
 unfold wpList
 rw [ajd (show Region.wanted _ _ = true from rfl)]
 left
 have r2:(execOp b3.eval { dst:=none,op:=.defer { callee:=.value (.tmp s),args:=#[],argTypes:=#[] },type:=t2,pos:=p2,after:=GN,guard:=none }).run P u2 = .ok (.defer { target:=.fn (.func g) #[v1,v2],args:=#[] }) u2:=by
  have hvs:b3.eval (.tmp s) = .func (.func g) #[] #[v1,v2]:=by
   rw [hb3]
   simp only [Act.eval,Act.put,ajW,akj]
   rw [ajd trivial,ajd (by rw [hsz2];exact hs)]
   rfl
  unfold execOp resolve
  simp only [hvs]
  simp [Deferred.ofValue]
 unfold Oper.wp
 rw [r2]
 show wpList P _ _ _ { b3 with defers:={ target:=.fn (.func g) #[v1,v2],args:=#[] } :: b3.defers } u2
 unfold wpList
 show r.wp P _ _ _
 have hd3:b3.defers = []:=by rw [hb3];exact hdef
 rw [hd3]
 rw [hN1] at hk4
 refine EB hm heq kR hC r hcb hk4 h3 fun b4 u4 k4=>?_
 have hkeep:∀ d,(d = c1 ∨ d = c2) → b4.tmps.getD d undef = b3.tmps.getD d undef:=fun d hd=>by
  obtain ⟨_,_,hr4,_⟩:=k4
  exact hr4.fs d (by simp [UE];rcases hd with rfl | rfl <;> simp)
 have hds:b4.defers = [{ target:=.fn (.func g) #[v1,v2],args:=#[] }]:=by obtain ⟨_,_,hr4,_⟩:=k4;exact hr4.mg
 have fin:(∃ t,D q.2 = some t ∧ ((j4 t e.1 dR).bind fun b=>(slots b.2 cf.res).bind fun l=>(mH cf.ro b.2 l).map fun r=>(r.1,b.1)) = some (rs,pX)) → Leaves P fn b4.tmps (fun e w'=>∃ bD tK b1 b2,e = .returned (ret tK) ∧ Post Fz w vals bs rs pX bD w' tK b1 b2) b4.defers .returning u4:=by
  rintro ⟨t,d1,d2⟩
  rw [hds]
  refine leaves_cons (f:=g) (args:=#[v1,v2]) (by simp) ?_ ?_
  ·show (callFunc g (#[] ++ #[v1,v2])).run P u4 = _
   rw [pz hg hgn hgb]
   simp
  ·have hcd:=hD Fz w bs _ iT q.2 t b4 u4 k4 d1
   rw [hkeep c1 (.inl rfl),hkeep c2 (.inr rfl),hts c1 hs1,hts c2 hs2,← hv1,← hv2] at hcd
   refine hcd.mono ?_
   rintro e' u' w' ⟨rfl,⟨v,rfl⟩,k5⟩
   show Leaves P fn b4.tmps _ [] (settle .returning) w'
   obtain ⟨_,v',g3,g4⟩:=MW hr Yo hap hfz g2 b4 w' k5 d2
   exact ⟨v',g3,g4⟩
 cases hq:q.1 with
 | ext i=>rw [hq] at hEq;cases hEq
 | jf =>
  rw [hq] at hEq
  obtain ⟨t,d1,d2⟩:=zbm hEq
  exact fin ⟨t,d1,d2⟩
 | ret =>
  rw [hq] at hEq
  obtain ⟨t,d1,d2⟩:=zbm hEq
  exact fin ⟨t,d1,d2⟩
noncomputable def Dcl (Γ:Env) (F:Nat) (cc:CC) (c1 c2:Nat) (σ:St):Option St:=match get σ.tm c1,get σ.tm c2 with
 | some x,some y=>(ev Γ F cc ⟨[(0,x),(1,y)],σ.ob⟩).bind fun p=>match p.1 with
  | .ext _=>none
  | _=>(get p.2.tm 0).map fun z=>⟨[(c1,z)],p.2.ob⟩
 | _,_=>none
theorem Xd (hm:P.follows .mixedOrders = true) (heq:∀ t ∈ X.eqs,lJ P t) (kR:iy P Γ) (hC:dN P Γ) {g:FuncId} {gn:Func} {c:Code} {cc:CC} {h1 h2:List Hi} {c1 c2:Nat} (hg:P.funcs[g]? = some gn) (hb:gn.body = some c) (hc:comp P X (UE gn.ntmps [0]) c h1 = some (cc,h2)) (hr:gn.results = #[]) (hn:2 ≤ gn.ntmps) (F:Nat)
  (bn:Nat → Prop) (w0:World) (bg:List Nat) (N:Fr) (iT:Nat → Value) (σ σ':St) (a:Act) (w:World) (hO:Ok bn w0 bg N iT σ a w) (hd:Dcl Γ F cc c1 c2 σ = some σ') :
  CallsD P g #[a.tmps.getD c1 undef,a.tmps.getD c2 undef] .returning w fun e u w'=>u = .returning ∧ (∃ v,e = .returned v) ∧ Ok bn w0 bg N iT σ' a w':=by
 unfold Dcl at hd
 split at hd
 ·rename_i x y hx hy
  obtain ⟨p,h3,hd⟩:=zbm hd
  obtain ⟨b0,hb0⟩:∃ b:Act,b = { tmps:=#[a.tmps.getD c1 undef,a.tmps.getD c2 undef] ++ Array.replicate (gn.ntmps - 2) undef,defers:=[] }:=⟨_,rfl⟩
  have e0:b0.tmps.getD 0 undef = a.tmps.getD c1 undef:=by rw [hb0];simp [ajW,Array.getElem?_append]
  have e1:b0.tmps.getD 1 undef = a.tmps.getD c2 undef:=by rw [hb0];simp [ajW,Array.getElem?_append]
  obtain ⟨N',hN'⟩:∃ N:Fr,N = ⟨gn.ntmps,[],UE gn.ntmps [0],fun d h=>by simp [UE] at h;omega,fun d=>b0.tmps.getD d undef⟩:=⟨_,rfl⟩
  have CU:Ok bn w0 bg N' iT ⟨[(0,x),(1,y)],σ.ob⟩ b0 w:=by
   obtain ⟨Fz,κ,hr,hk⟩:=hO
   refine ⟨Fz,κ,⟨fun p hp=>?_,by rw [hb0,hN'];simp;omega,by rw [hb0,hN'],fun d _=>by rw [hN'],hr.ob,hr.uS,hr.pos,hr.fz,hr.zP,hr.big,hr.ext,hr.kp⟩,hk⟩
   simp only [ajw,akU,or_false] at hp
   rcases hp with rfl | rfl
   ·rw [e0];exact hr.val hx
   ·rw [e1];exact hr.val hy
  have main:∀ b u,Ok bn w0 bg N' iT p.2 b u → (∃ z,get p.2.tm 0 = some z ∧ σ' = ⟨[(c1,z)],p.2.ob⟩) → b.defers = [] ∧ ∃ v,(results gn b.tmps).run P u = .ok v u ∧ (∃ v',Ending.returned v = .returned v') ∧ Ok bn w0 bg N iT σ' a u:=by
   rintro b u ⟨Fz,κ,hr2,hk2⟩ ⟨z,hz,rfl⟩
   refine ⟨by have:=hr2.mg;rw [this,hN'],.tuple #[],?_,⟨_,rfl⟩,?_⟩
   ·unfold results
    rw [hr]
    simp
   ·obtain ⟨_,_,hr,_⟩:=hO
    refine ⟨Fz,κ,⟨fun p hp=>?_,hr.sz,hr.mg,hr.fs,hr2.ob,hr2.uS,hr2.pos,hr2.fz,hr2.zP,hr2.big,hr2.ext,hr2.kp⟩,hk2⟩
    simp only [ajw,akU,or_false] at hp
    subst hp
    have h5:b.tmps.getD 0 undef = N'.vs 0:=hr2.fs 0 (by rw [hN'];simp [UE])
    have h6:N'.vs 0 = a.tmps.getD c1 undef:=by rw [hN'];exact e0
    show iH Fz κ u z (a.tmps.getD c1 undef)
    rw [← h6,← h5]
    exact hr2.val hz
  refine callsD_of_wp hg hb ?_
  have hst:({ tmps:=#[a.tmps.getD c1 undef,a.tmps.getD c2 undef] ++ Array.replicate (gn.ntmps - (#[a.tmps.getD c1 undef,a.tmps.getD c2 undef]:Array Value).size) undef,defers:=[] }:Act) = b0:=by rw [hb0];rfl
  rw [hst]
  rw [hN'] at CU
  refine EB hm heq kR hC c hc CU h3 fun b u hk=>?_
  rw [← hN'] at hk
  cases hp:p.1 with
  | ext i=>rw [hp] at hd;cases hd
  | jf =>
   rw [hp] at hd
   obtain ⟨z,hz,rfl⟩:=zmm hd
   exact main b u hk ⟨z,hz,rfl⟩
  | ret =>
   rw [hp] at hd
   obtain ⟨z,hz,rfl⟩:=zmm hd
   exact main b u hk ⟨z,hz,rfl⟩
 ·cases hd
end
end
end Go.Proofs.YtfokaoeinpnagaaGreat.Ev

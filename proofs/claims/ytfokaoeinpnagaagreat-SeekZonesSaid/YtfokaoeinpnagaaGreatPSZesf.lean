/- A part of the proof of SeekZones: cut, joined and given short names by a program of this session (wip/tools/pack.py); Lean checks it. No condition. -/
import Derived.Test.YtfokaoeinpnagaaGreatPSZese
import Derived.Orders
import Derived.OrdersHeld
import Derived.Scope
import Derived.Test.YtfokaoeinpnagaaGreatPSZesd
import Derived.Laws.StructEq
import Derived.Below
import Derived.Defers
set_option linter.unusedSectionVars false
set_option linter.unusedSimpArgs false
set_option linter.unusedVariables false
set_option maxHeartbeats 16000000
set_option maxRecDepth 100000
namespace Go.Proofs.YtfokaoeinpnagaaGreat.Ev
section
open Go
section
variable {Γ : Env} {d:Nat} {σ σ2 σ':St} {pv:PV}
theorem Gt {l:List CV}:∀ {caps:List (List FV)} {τ:St},lZ true σ l = some (caps,τ) → τ = σ ∧ lZ true σ2 l = some (caps,σ2):=by
 induction l with
 | nil=>intro caps τ h;simp only [lZ] at h;cases h;exact ⟨rfl,by simp only [lZ]⟩
 | cons y l ih =>
  intro caps τ h
  have one:∀ cs,y = .one (.fp cs) → τ = σ ∧ lZ true σ2 (y :: l) = some (caps,σ2):=by
   intro cs hy
   subst hy
   simp only [lZ] at h ⊢
   obtain ⟨r,g1,g2⟩:=zmm h
   cases g2
   obtain ⟨e1,e2⟩:=ih g1
   exact ⟨e1,by rw [e2];rfl⟩
  cases y with
  | one x =>
   cases x with
   | fp cs=>exact one cs rfl
   | ptr k o=>cases o <;> simp [lZ] at h
   | _=>simp [lZ] at h
  | agg xs=>simp [lZ] at h
theorem Qm {i:I} (hi:Ql i = true) (hs:Same (nJ i) σ σ2) (ho:∀ k o,get σ.ob k = some o → get σ2.ob k = some o) (hE:bZ Γ true σ d i = some (pv,σ')):σ' = σ ∧ bZ Γ true σ2 d i = some (pv,σ2):=by
 cases i with
 | alloc e z=>cases hi
 | box e x=>cases hi
 | zH e sz len z ps=>cases hi
 | PD e sz len z ps=>cases hi
 | zK f xs=>cases hi
 | store n x v=>cases hi
 | pK sh=>cases hi
 | xu sh x k v=>cases hi
 | del sh x k=>cases hi
 | app e sz b x y=>cases hi
 | mv x =>
  simp only [nJ] at hs
  simp only [bZ] at hE ⊢
  rw [hs.sM]
  obtain ⟨v,h1,h2⟩:=zmm hE
  cases h2
  rw [h1];simp only [Option.map_some];exact ⟨trivial,trivial⟩
 | pick c x y =>
  simp only [nJ] at hs
  simp only [bZ] at hE ⊢
  obtain ⟨v,h1,h2⟩:=zbm hE
  obtain ⟨t,h3,h4⟩:=zbm h2
  obtain ⟨u,h5,h6⟩:=zmm h4
  cases h6
  rw [hs.l.l.val,h1]
  simp only [Option.bind_some,h3]
  have:Ev.val σ2 (if t then x else y) = Ev.val σ (if t then x else y):=by
   cases t
   ·exact hs.r.val
   ·exact hs.l.r.val
  rw [this,h5];exact ⟨trivial,rfl⟩
 | build z ps =>
  simp only [nJ] at hs
  simp only [bZ] at hE ⊢
  obtain ⟨v,h1,h2⟩:=zbm hE
  obtain ⟨u,h3,h4⟩:=zmm h2
  cases h4
  rw [hs.vals,h1]
  simp only [Option.bind_some,h3,Option.map_some]
  exact ⟨trivial,trivial⟩
 | load n g x =>
  simp only [nJ] at hs
  simp only [bZ] at hE ⊢
  obtain ⟨v,h1,h2⟩:=zbm hE
  rw [hs.val,h1]
  simp only [Option.bind_some]
  split at h2
  ·split at h2
   ·rename_i fZ
    obtain ⟨l,h3,h4⟩:=zbm h2
    obtain ⟨u,h5,h6⟩:=zmm h4
    cases h6
    simp only [ho _ _ fZ,h3,Option.bind_some,h5,Option.map_some]
    exact ⟨trivial,trivial⟩
   ·cases h2
  ·obtain ⟨l,h3,h4⟩:=zbm h2
   obtain ⟨u,h5,h6⟩:=zmm h4
   cases h6
   simp only [h3,Option.bind_some,h5,Option.map_some]
   exact ⟨trivial,trivial⟩
  ·split at h2
   ·rename_i fZ
    split at h2
    ·cases h2
    ·rename_i hz
     obtain ⟨r,h7,h8⟩:=zbm h2
     obtain ⟨l,h3,h4⟩:=zbm h8
     obtain ⟨u,h5,h6⟩:=zmm h4
     cases h6
     simp only [ho _ _ fZ,ai9 hz,h7,h3,Option.bind_some,h5,Option.map_some]
     exact ⟨trivial,trivial⟩
   ·cases h2
  ·cases h2
 | gZ x =>
  simp only [nJ] at hs
  simp only [bZ] at hE ⊢
  obtain ⟨v,h1,h2⟩:=zbm hE
  rw [hs.val,h1]
  simp only [Option.bind_some]
  split at h2 <;> cases h2 <;> exact ⟨rfl,rfl⟩
 | xq neg x =>
  simp only [nJ] at hs
  simp only [bZ] at hE ⊢
  obtain ⟨v,h1,h2⟩:=zbm hE
  rw [hs.val,h1]
  simp only [Option.bind_some]
  split at h2 <;> cases h2 <;> exact ⟨rfl,rfl⟩
 | ar o x y =>
  simp only [nJ] at hs
  simp only [bZ] at hE ⊢
  obtain ⟨u,h1,hE⟩:=zbm hE
  obtain ⟨v,h2,hE⟩:=zbm hE
  obtain ⟨m,h3,hE⟩:=zbm hE
  obtain ⟨n,h4,hE⟩:=zbm hE
  split at hE
  ·rename_i hk
   obtain ⟨r,h5,hE⟩:=zbm hE
   cases hE
   rw [hs.l.val,hs.r.val]
   simp only [h1,h2,h3,h4,h5,Option.bind_some,ai8 hk,one]
   exact ⟨trivial,trivial⟩
  ·cases hE
 | cmp o x y =>
  simp only [nJ] at hs
  simp only [bZ] at hE ⊢
  obtain ⟨u,h1,hE⟩:=zbm hE
  obtain ⟨v,h2,hE⟩:=zbm hE
  obtain ⟨m,h3,hE⟩:=zbm hE
  obtain ⟨n,h4,hE⟩:=zbm hE
  split at hE
  ·rename_i hk
   cases hE
   rw [hs.l.val,hs.r.val]
   simp only [h1,h2,h3,h4,Option.bind_some,ai8 hk,one]
   exact ⟨trivial,trivial⟩
  ·cases hE
 | ru sh neg x y =>
  simp only [nJ] at hs
  simp only [bZ] at hE ⊢
  obtain ⟨u,h1,hE⟩:=zbm hE
  obtain ⟨v,h2,hE⟩:=zbm hE
  obtain ⟨m,h3,hE⟩:=zbm hE
  obtain ⟨n,h4,hE⟩:=zbm hE
  split at hE
  ·rename_i hk
   cases hE
   rw [hs.l.val,hs.r.val]
   simp only [h1,h2,h3,h4,Option.bind_some,ai8 hk,one]
   exact ⟨trivial,trivial⟩
  ·cases hE
 | cat x y =>
  simp only [nJ] at hs
  simp only [bZ] at hE ⊢
  obtain ⟨u,h1,hE⟩:=zbm hE
  obtain ⟨v,h2,hE⟩:=zbm hE
  rw [hs.l.val,hs.r.val]
  simp only [h1,h2,Option.bind_some]
  split at hE
  ·split at hE
   ·rename_i hk;cases hE;simp only [ai8 hk,one];exact ⟨trivial,trivial⟩
   ·cases hE
  ·cases hE
 | no x =>
  simp only [nJ] at hs
  simp only [bZ] at hE ⊢
  obtain ⟨u,h1,hE⟩:=zbm hE
  obtain ⟨v,h2,hE⟩:=zbm hE
  cases hE
  rw [hs.val]
  simp only [h1,h2,Option.bind_some,one]
  exact ⟨trivial,trivial⟩
 | ci k x =>
  simp only [nJ] at hs
  simp only [bZ] at hE ⊢
  obtain ⟨u,h1,hE⟩:=zbm hE
  obtain ⟨v,h2,hE⟩:=zbm hE
  cases hE
  rw [hs.val]
  simp only [h1,h2,Option.bind_some,one]
  exact ⟨trivial,trivial⟩
 | nA x =>
  simp only [nJ] at hs
  simp only [bZ] at hE ⊢
  obtain ⟨u,h1,hE⟩:=zbm hE
  rw [hs.val,h1]
  simp only [Option.bind_some]
  split at hE
  ·cases hE;exact ⟨rfl,rfl⟩
  ·cases hE
 | JO x lo hi =>
  simp only [nJ] at hs
  simp only [bZ] at hE ⊢
  obtain ⟨u,h1,hE⟩:=zbm hE
  rw [hs.l.l.val,h1]
  simp only [Option.bind_some]
  split at hE
  ·obtain ⟨p,h2,hE⟩:=zbm hE
   cases hE
   rw [Same.rng hs.l.r hs.r,h2]
   exact ⟨rfl,rfl⟩
  ·cases hE
 | cut sz x lo hi =>
  simp only [nJ] at hs
  simp only [bZ] at hE ⊢
  obtain ⟨u,h1,hE⟩:=zbm hE
  rw [hs.l.l.val,h1]
  simp only [Option.bind_some]
  split at hE
  ·split at hE
   ·cases hE
   ·rename_i hz
    obtain ⟨p,h2,hE⟩:=zbm hE
    cases hE
    rw [ai9 hz,Same.rng hs.l.r hs.r,h2]
    exact ⟨rfl,rfl⟩
  ·obtain ⟨p,h2,hE⟩:=zbm hE
   cases hE
   rw [Same.rng hs.l.r hs.r,h2]
   exact ⟨rfl,rfl⟩
  ·split at hE
   ·split at hE
    ·cases hE
    ·obtain ⟨p,h2,hE⟩:=zbm hE
     rw [ai8 trivial] at hE
     cases hE
   ·cases hE
  ·cases hE
 | fa off x =>
  simp only [nJ] at hs
  simp only [bZ] at hE ⊢
  obtain ⟨v,h1,h2⟩:=zbm hE
  rw [hs.val,h1]
  simp only [Option.bind_some]
  split at h2 <;> cases h2 <;> exact ⟨rfl,rfl⟩
 | Yd off n g x =>
  simp only [nJ] at hs
  simp only [bZ] at hE ⊢
  obtain ⟨v,h1,h2⟩:=zbm hE
  rw [hs.val,h1]
  simp only [Option.bind_some]
  split at h2
  ·obtain ⟨l,h3,h4⟩:=zbm h2
   obtain ⟨u,h5,h6⟩:=zmm h4
   cases h6
   simp only [h3,Option.bind_some,h5,Option.map_some]
   exact ⟨trivial,trivial⟩
  ·cases h2
 | ia sz x i =>
  simp only [nJ] at hs
  simp only [bZ] at hE ⊢
  obtain ⟨v,h1,hE⟩:=zbm hE
  obtain ⟨j,h2,hE⟩:=zbm hE
  obtain ⟨p,h3,hE⟩:=zbm hE
  rw [hs.l.val,hs.r.val]
  simp only [h1,h2,h3,Option.bind_some]
  split at hE
  ·rename_i h0
   rw [ai8 h0]
   split at hE
   ·obtain ⟨r,h4,hE⟩:=zbm hE
    split at hE
    ·rename_i hk;cases hE;simp only [h4,Option.bind_some,ai8 hk];exact ⟨trivial,trivial⟩
    ·cases hE
   ·split at hE
    ·rename_i fZ
     split at hE
     ·rename_i hk;cases hE;simp only [ho _ _ fZ,ai8 hk];exact ⟨trivial,trivial⟩
     ·cases hE
    ·cases hE
   ·cases hE
  ·cases hE
 | idx sz len g x i =>
  simp only [nJ] at hs
  simp only [bZ] at hE ⊢
  obtain ⟨v,h1,hE⟩:=zbm hE
  obtain ⟨j,h2,hE⟩:=zbm hE
  obtain ⟨p,h3,hE⟩:=zbm hE
  rw [hs.l.val,hs.r.val]
  simp only [h1,h2,h3,Option.bind_some]
  split at hE
  ·rename_i h0
   rw [ai8 h0]
   split at hE
   ·obtain ⟨l,h4,hE⟩:=zbm hE
    obtain ⟨u,h5,h6⟩:=zmm hE
    cases h6
    simp only [h4,Option.bind_some,h5,Option.map_some]
    exact ⟨trivial,trivial⟩
   ·cases hE
  ·cases hE
 | chr x i =>
  simp only [nJ] at hs
  simp only [bZ] at hE ⊢
  obtain ⟨v,h1,hE⟩:=zbm hE
  obtain ⟨j,h2,hE⟩:=zbm hE
  obtain ⟨p,h3,hE⟩:=zbm hE
  rw [hs.l.val,hs.r.val]
  simp only [h1,h2,h3,Option.bind_some]
  split at hE
  ·split at hE
   ·rename_i h0
    obtain ⟨b,h4,hE⟩:=zbm hE
    cases hE
    simp only [ai8 h0,h4,Option.bind_some,one]
    exact ⟨trivial,trivial⟩
   ·cases hE
  ·cases hE
 | look sh z ok x k =>
  simp only [nJ] at hs
  simp only [bZ] at hE ⊢
  obtain ⟨v,h1,hE⟩:=zbm hE
  obtain ⟨u,h2,hE⟩:=zbm hE
  obtain ⟨b,h3,hE⟩:=zbm hE
  rw [hs.l.val,hs.r.val]
  simp only [h1,h2,h3,Option.bind_some]
  split at hE
  ·cases hE
  ·rename_i hsh
   rw [ai9 hsh]
   obtain ⟨r,h4,h5⟩:=zmm hE
   cases h5
   split at h4
   ·cases h4;exact ⟨rfl,rfl⟩
   ·split at h4
    ·rename_i fZ
     split at h4
     ·rename_i hk;cases h4;simp only [ho _ _ fZ,ai8 hk,Option.map_some];exact ⟨trivial,trivial⟩
     ·cases h4
    ·cases h4
   ·cases h4
 | ext x i =>
  simp only [nJ] at hs
  simp only [bZ] at hE ⊢
  rw [hs.sM]
  split at hE
  ·rename_i l hl
   obtain ⟨v,h1,h2⟩:=zmm hE
   cases h2
   simp only [h1,Option.map_some]
   exact ⟨trivial,trivial⟩
  ·cases hE
 | xw x =>
  simp only [nJ] at hs
  simp only [bZ] at hE ⊢
  obtain ⟨v,h1,h2⟩:=zbm hE
  rw [hs.val,h1]
  simp only [Option.bind_some]
  split at h2 <;> cases h2 <;> exact ⟨rfl,rfl⟩
 | iB x =>
  simp only [nJ] at hs
  simp only [bZ] at hE ⊢
  obtain ⟨v,h1,h2⟩:=zbm hE
  rw [hs.val,h1]
  simp only [Option.bind_some]
  split at h2 <;> cases h2 <;> exact ⟨rfl,rfl⟩
 | JQ x =>
  simp only [nJ] at hs
  simp only [bZ] at hE ⊢
  obtain ⟨v,h1,h2⟩:=zbm hE
  rw [hs.val,h1]
  simp only [Option.bind_some]
  split at h2
  ·cases h2;exact ⟨rfl,rfl⟩
  ·split at h2
   ·rename_i fZ;cases h2;simp only [ho _ _ fZ,one];exact ⟨trivial,trivial⟩
   ·cases h2
  ·cases h2
 | mn x y =>
  simp only [nJ] at hs
  simp only [bZ] at hE ⊢
  obtain ⟨u,h1,hE⟩:=zbm hE
  obtain ⟨v,h2,hE⟩:=zbm hE
  obtain ⟨m,h3,hE⟩:=zbm hE
  obtain ⟨n,h4,hE⟩:=zbm hE
  rw [hs.l.val,hs.r.val]
  simp only [h1,h2,h3,h4,Option.bind_some]
  split at hE
  ·rename_i hk;cases hE;rw [ai8 hk];exact ⟨rfl,rfl⟩
  ·cases hE
 | mx x y =>
  simp only [nJ] at hs
  simp only [bZ] at hE ⊢
  obtain ⟨u,h1,hE⟩:=zbm hE
  obtain ⟨v,h2,hE⟩:=zbm hE
  obtain ⟨m,h3,hE⟩:=zbm hE
  obtain ⟨n,h4,hE⟩:=zbm hE
  rw [hs.l.val,hs.r.val]
  simp only [h1,h2,h3,h4,Option.bind_some]
  split at hE
  ·rename_i hk;cases hE;rw [ai8 hk];exact ⟨rfl,rfl⟩
  ·cases hE
 | TB sz z x=>cases hi
 | call gv f xs =>
  simp only [nJ] at hs
  simp only [bZ] at hE ⊢
  obtain ⟨l,h1,hE⟩:=zbm hE
  rw [hs.jw,h1]
  simp only [Option.bind_some]
  exact yc ho hE
 | dyn x xs =>
  simp only [nJ] at hs
  simp only [bZ] at hE ⊢
  obtain ⟨v,h0,hE⟩:=zbm hE
  rw [hs.l.val,h0]
  simp only [Option.bind_some]
  split at hE
  ·obtain ⟨l,h1,hE⟩:=zbm hE
   simp only [hs.r.jw,h1,Option.bind_some]
   exact yc ho hE
  ·cases hE
 | PX f xs =>
  simp only [nJ] at hs
  simp only [bZ] at hE ⊢
  obtain ⟨l,h1,hE⟩:=zbm hE
  rw [hs.jw,h1]
  simp only [Option.bind_some]
  obtain ⟨p,h2,h3⟩:=zmm hE
  cases h3
  obtain ⟨e1,e2⟩:=Gt (σ2:=σ2) h2
  rw [e2]
  exact ⟨e1,rfl⟩
 | zL neg x =>
  simp only [nJ] at hs
  simp only [bZ] at hE ⊢
  obtain ⟨v,h1,h2⟩:=zbm hE
  rw [hs.val,h1]
  simp only [Option.bind_some]
  split at h2 <;> cases h2 <;> exact ⟨rfl,rfl⟩
 | bit o x y =>
  simp only [nJ] at hs
  simp only [bZ] at hE ⊢
  obtain ⟨u,h1,hE⟩:=zbm hE
  obtain ⟨v,h2,hE⟩:=zbm hE
  obtain ⟨m,h3,hE⟩:=zbm hE
  obtain ⟨n,h4,hE⟩:=zbm hE
  rw [hs.l.val,hs.r.val]
  simp only [h1,h2,h3,h4,Option.bind_some]
  split at hE
  ·rename_i hk;cases hE;rw [ai8 hk];exact ⟨rfl,rfl⟩
  ·cases hE
 | Vd o x y =>
  simp only [nJ] at hs
  simp only [bZ] at hE ⊢
  obtain ⟨u,h1,hE⟩:=zbm hE
  obtain ⟨v,h2,hE⟩:=zbm hE
  obtain ⟨m,h3,hE⟩:=zbm hE
  obtain ⟨n,h4,hE⟩:=zbm hE
  rw [hs.l.val,hs.r.val]
  simp only [h1,h2,h3,h4,Option.bind_some]
  split at hE
  ·rename_i hk;cases hE;rw [ai8 hk];exact ⟨rfl,rfl⟩
  ·cases hE
 | DZ sz x y=>simp [bZ] at hE
 | cutV sz x y =>
  simp only [nJ] at hs
  simp only [bZ] at hE ⊢
  obtain ⟨v,h1,hE⟩:=zbm hE
  obtain ⟨j,h2,hE⟩:=zbm hE
  obtain ⟨p,h3,hE⟩:=zbm hE
  rw [hs.l.val,hs.r.val]
  simp only [h1,h2,h3,Option.bind_some]
  split at hE
  ·split at hE
   ·rename_i fZ
    split at hE
    ·rename_i hk;cases hE;simp only [ho _ _ fZ,ai8 hk];exact ⟨trivial,trivial⟩
    ·cases hE
   ·cases hE
  ·cases hE
 | Ye x =>
  simp only [nJ] at hs
  simp only [bZ] at hE ⊢
  obtain ⟨v,h1,h2⟩:=zbm hE
  rw [hs.val,h1]
  simp only [Option.bind_some]
  split at h2
  ·obtain ⟨s,h3,h4⟩:=zbm h2
   cases h4
   simp only [h3,Option.bind_some,one]
   exact ⟨trivial,trivial⟩
  ·cases h2;exact ⟨rfl,rfl⟩
  ·split at h2
   ·rename_i fZ
    split at h2
    ·rename_i hz
     obtain ⟨s,h3,h4⟩:=zbm h2
     cases h4
     simp only [ho _ _ fZ,ai8 hz,h3,Option.bind_some,one]
     exact ⟨trivial,trivial⟩
    ·cases h2
   ·cases h2
  ·cases h2
end
end
section
open Go
section
variable {Γ : Env} {d:Nat} {σ σ2 σ':St} {pv:PV}
theorem VD {α:Type} {l:List (Nat × α)} {k:Nat} (h:∀ p ∈ l,p.1 ≠ k):rem l k = l:=by
 induction l with
 | nil=>rfl
 | cons p l ih =>
  obtain ⟨j,u⟩:=p
  unfold rem
  rw [ai9 (h _ akr),ih (fun p hp=>h p (ajY _ hp))]
theorem jG {key:Nat}:fresh σ key = true ↔ (∀ p ∈ σ.ob,p.1 ≠ key ∧ mG key p.2 = false) ∧ ∀ p ∈ σ.tm,rz key p.2 = false:=by
 simp [fresh]
theorem jm {key:Nat} (h:fresh σ key = true) (o:Ob):new σ key o = some ⟨σ.tm,(key,o) :: σ.ob⟩:=by
 obtain ⟨h1,h2⟩:=jG.mp h
 have hr:=VD (fun p hp=>(h1 p hp).1)
 unfold new Yf
 rw [hr,ai9]
 ·simp only [Option.map_some]
  rw [List.filter_eq_self.mpr (fun p hp=>by rw [h2 p hp];rfl)]
 ·intro hc
  obtain ⟨p,hp,hm⟩:=aj8.mp hc
  rw [(h1 p hp).2] at hm;cases hm
theorem J5 {x:PL} {y:FV} (hn:gD x = false) (h:vN σ x = some (y,σ')):σ' = σ ∧ vN σ2 x = some (y,σ2):=by
 cases x with
 | f x=>cases h;exact ⟨rfl,rfl⟩
 | bY=>cases h;exact ⟨rfl,rfl⟩
 | own k n=>cases hn
 | _=>cases h
theorem yg : ∀ {xs:List PL} {ys:List FV} {σ':St},xs.any gD = false → kJ σ xs = some (ys,σ') → σ' = σ ∧ kJ σ2 xs = some (ys,σ2)
 | [],ys,σ',_,h=>by cases h;exact ⟨rfl,rfl⟩
 | x :: xs,ys,σ',hn,h=>by
  obtain ⟨p,h1,h2⟩:=zbm h
  obtain ⟨r,h3,h4⟩:=zmm h2
  cases h4
  simp only [List.any_cons,akR] at hn
  obtain ⟨e1,e2⟩:=J5 (σ2:=σ2) hn.1 h1
  rw [e1] at h3
  obtain ⟨e3,e4⟩:=yg hn.2 h3
  exact ⟨e3,by unfold kJ;rw [e2];simp only [Option.bind_some];rw [e4];rfl⟩
theorem ZM {i:I} (hi:gN i = true) (hs:Same (nJ i) σ σ2) (hf:fresh σ (dA d) = true) (hf2:fresh σ2 (dA d) = true) (hE:bZ Γ true σ d i = some (pv,σ')) :
  ∃ o,σ' = ⟨σ.tm,(dA d,o) :: σ.ob⟩ ∧ bZ Γ true σ2 d i = some (pv,⟨σ2.tm,(dA d,o) :: σ2.ob⟩):=by
 cases i <;> first | cases hi | skip
 ·rename_i e z
  simp only [bZ] at hE ⊢
  split at hE
  ·cases hE
  ·rename_i hm
   simp only [gP,jm hf,Option.map_some] at hE
   cases hE
   refine ⟨_,rfl,?_⟩
   rw [ai9 hm]
   simp only [gP,jm hf2,Option.map_some]
 ·rename_i e x
  simp only [nJ] at hs
  simp only [bZ] at hE ⊢
  obtain ⟨v,h1,h2⟩:=zbm hE
  split at h2
  ·cases h2
  ·rename_i hm
   simp only [gP,jm hf,Option.map_some] at h2
   cases h2
   refine ⟨_,rfl,?_⟩
   rw [hs.val,h1]
   simp only [Option.bind_some]
   rw [ai9 hm]
   simp only [gP,jm hf2,Option.map_some]
 ·rename_i e sz len z ps
  simp only [nJ] at hs
  simp only [bZ] at hE ⊢
  obtain ⟨v,h1,hE⟩:=zbm hE
  obtain ⟨u,h2,hE⟩:=zbm hE
  split at hE
  ·cases hE
  ·rename_i hm
   obtain ⟨p,h3,hE⟩:=zbm hE
   have hn:u.any gD = false:=by simpa using hm
   obtain ⟨e1,e2⟩:=yg (σ2:=σ2) hn h3
   rw [e1] at hE
   simp only [gP,jm hf,Option.map_some] at hE
   cases hE
   refine ⟨_,rfl,?_⟩
   rw [hs.vals,h1]
   simp only [Option.bind_some,h2]
   rw [ai9 hm,e2]
   simp only [Option.bind_some,gP,jm hf2,Option.map_some]
 ·rename_i sh
  simp only [bZ] at hE ⊢
  simp only [gP,jm hf,Option.map_some] at hE
  cases hE
  exact ⟨_,rfl,by simp only [gP,jm hf2,Option.map_some]⟩
 ·rename_i f xs
  simp only [nJ] at hs
  simp only [bZ,sK] at hE ⊢
  obtain ⟨l,h1,hE⟩:=zbm hE
  obtain ⟨dS,h2,hE⟩:=zbm hE
  obtain ⟨r,h3,hE⟩:=zbm hE
  obtain ⟨p,h4,hE⟩:=zbm hE
  simp only [jm hf,Option.map_some] at hE
  cases hE
  refine ⟨_,rfl,?_⟩
  rw [hs.jw,h1]
  simp only [Option.bind_some,h2,h3,h4,jm hf2,Option.map_some]
end
end
section
open Go
def rd (g:G):List Nat:=nJ g.i ++ match g.gd with
 | some (some s,_)=>[s]
 | _=>[]
section
variable {Γ : Env} {d:Nat} {σ σ2 σ':St} {pv:PV}
theorem Mt {g:G} (hs:Same (rd g) σ σ2):zO σ2 g.gd = zO σ g.gd:=by
 unfold rd at hs
 have hr:=hs.r
 cases hg:g.gd with
 | none=>rfl
 | some p =>
  obtain ⟨s,want⟩:=p
  cases s with
  | none=>rfl
  | some s =>
   rw [hg] at hr
   simp only [zO]
   rw [hr s (by simp)]
theorem tJ {g:G} (hi:Ql g.i = true) (hs:Same (rd g) σ σ2) (ho:∀ k o,get σ.ob k = some o → get σ2.ob k = some o) (hE:mH Γ true σ g = some (pv,σ')):σ' = σ ∧ mH Γ true σ2 g = some (pv,σ2):=by
 unfold mH at hE ⊢
 obtain ⟨t,h1,h2⟩:=zbm hE
 rw [Mt hs,h1]
 simp only [Option.bind_some]
 cases t with
 | true =>
  rw [ai8 rfl] at h2 ⊢
  exact Qm hi (by unfold rd at hs;exact hs.l) ho h2
 | false =>
  rw [ai9 (by decide)] at h2 ⊢
  cases h2
  exact ⟨rfl,rfl⟩
theorem Mv {g:G} (hi:gN g.i = true) (hg:g.gd = none) (hs:Same (rd g) σ σ2) (hf:fresh σ (dA (g.dst.getD 999)) = true) (hf2:fresh σ2 (dA (g.dst.getD 999)) = true) (hE:mH Γ true σ g = some (pv,σ')) :
  ∃ o,σ' = ⟨σ.tm,(dA (g.dst.getD 999),o) :: σ.ob⟩ ∧ mH Γ true σ2 g = some (pv,⟨σ2.tm,(dA (g.dst.getD 999),o) :: σ2.ob⟩):=by
 unfold mH at hE ⊢
 rw [hg] at hE ⊢
 simp only [zO,Option.bind_some,ajH] at hE ⊢
 exact ZM hi (by unfold rd at hs;exact hs.l) hf hf2 hE
theorem get_put {α:Type} {l:List (Nat × α)} {i j:Nat} {v:α}:get (put l i v) j = if j = i then some v else get l j:=by
 have aeU:∀ {l:List (Nat × α)} {i j:Nat},j ≠ i → get (rem l i) j = get l j:=by
  intro l i j hj
  induction l with
  | nil=>rfl
  | cons p l ih =>
   obtain ⟨k,u⟩:=p
   unfold rem
   by_cases hk:k = i
   ·rw [ai8 hk,ih]
    conv=>rhs;unfold get
    rw [ai9 (fun e=>hj (by omega))]
   ·rw [ai9 hk]
    unfold get
    rw [ih]
 induction l with
 | nil =>
  unfold put get
  by_cases h:j = i
  ·rw [ai8 h,ai8 h.symm]
  ·rw [ai9 h,ai9 (fun e=>h e.symm)];rfl
 | cons p l ih =>
  obtain ⟨k,u⟩:=p
  unfold put
  by_cases hk:k = i
  ·rw [ai8 hk]
   unfold get
   by_cases h:j = i
   ·rw [ai8 h,ai8 h.symm]
   ·rw [ai9 h,ai9 (fun e=>h e.symm),aeU h,ai9 (fun e=>h (by omega))]
  ·rw [ai9 hk]
   unfold get
   by_cases hkj:k = j
   ·rw [ai8 hkj,ai9 (by omega),ai8 hkj]
   ·rw [ai9 hkj,ih,ai9 hkj]
theorem Em {b:Bool} (h:¬ b = true):b = false:=ajP.mpr h
def jy (Γ:Env) (rA:List (Nat × Ob)) (pre:List (G × List Nat)) (zT:List (Nat × PV)):Nat → List (Nat × PV)
 | 0=>zT
 | i + 1=>match pre[i]? with
  | some g=>match mH Γ true ⟨jy Γ rA pre zT i,rA⟩ g.1 with
   | some p=>sN g.1.dst (jy Γ rA pre zT i) p.1
   | none=>jy Γ rA pre zT i
  | none=>jy Γ rA pre zT i
structure Can (Γ:Env) (rA:List (Nat × Ob)) (pre:List (G × List Nat)) (zT:List (Nat × PV)) (i:Nat) (pv:PV) (s:St):Prop where
 lt:i < pre.length
 ev:mH Γ true ⟨jy Γ rA pre zT i,rA⟩ (pre[i]'lt).1 = some (pv,s)
 nx:jy Γ rA pre zT (i + 1) = sN (pre[i]'lt).1.dst (jy Γ rA pre zT i) pv
 nk:∀ k ∈ (pre[i]'lt).2,rz k pv = false ∧ (gN (pre[i]'lt).1.i = true → ∀ r ∈ s.ob.take 1,r.1 ≠ k ∧ mG k r.2 = false)
theorem En {rA:List (Nat × Ob)} {pre:List (G × List Nat)} {zT:List (Nat × PV)}:∀ (n i:Nat) (obx:List (Nat × Ob)) (s:St),n + i = pre.length → P7 Γ rA (pre.drop i) ⟨jy Γ rA pre zT i,obx⟩ = some s →
  (∀ j,i ≤ j → j < pre.length → ∃ pv st,Can Γ rA pre zT j pv st) ∧ s.tm = jy Γ rA pre zT pre.length ∧
  ∃ news,s.ob = news ++ obx ∧ ∀ p ∈ news,∃ j pv st,i ≤ j ∧ j < pre.length ∧ ∃ (h:Can Γ rA pre zT j pv st),gN (pre[j]'h.lt).1.i = true ∧ p ∈ st.ob.take 1
 | 0,i,obx,s,hn,hE=>by
  rw [List.drop_eq_nil_of_le (by omega)] at hE
  cases hE
  refine ⟨fun j h1 h2=>by omega,by rw [show pre.length = i from by omega],[],rfl,fun p hp=>by simp at hp⟩
 | n + 1,i,obx,s,hn,hE=>by
  have hi:i < pre.length:=by omega
  rw [akC hi] at hE
  obtain ⟨g,nk,hp⟩:∃ g nk,pre[i] = (g,nk):=⟨_,_,rfl⟩
  rw [hp] at hE
  simp only [P7] at hE
  obtain ⟨p,h1,h2⟩:=zbm hE
  split at h2
  ·cases h2
  ·rename_i hnk
   have hnx:jy Γ rA pre zT (i + 1) = sN g.dst (jy Γ rA pre zT i) p.1:=by
    conv=>lhs;unfold jy
    rw [ajo hi,hp]
    simp only [h1]
   have hcan:Can Γ rA pre zT i p.1 p.2:=⟨hi,by rw [hp];exact h1,by rw [hp];exact hnx,fun k hk=>by
    rw [hp] at hk ⊢
    have hk':¬ (rz k p.1 || (gN g.i && (p.2.ob.take 1).any (fun r=>r.1 == k || mG k r.2))) = true:=fun hc=>hnk (aj8.mpr ⟨k,hk,hc⟩)
    rw [aj4,not_or] at hk'
    refine ⟨Em hk'.1,fun hN r hr=>?_⟩
    have:=hk'.2
    rw [hN,Bool.true_and] at this
    have hr':¬ (r.1 == k || mG k r.2) = true:=fun hc=>this (aj8.mpr ⟨r,hr,hc⟩)
    rw [aj4,not_or] at hr'
    exact ⟨by simpa using hr'.1,Em hr'.2⟩⟩
   rw [← hnx] at h2
   obtain ⟨e1,e2,news,e3,e4⟩:=En n (i + 1) _ s (by omega) h2
   refine ⟨fun j h3 h4=>?_,e2,news ++ (if gN g.i then p.2.ob.take 1 else []),?_,fun r hr=>?_⟩
   ·by_cases hj:j = i
    ·subst hj;exact ⟨_,_,hcan⟩
    ·exact e1 j (by omega) h4
   ·rw [e3]
    cases gN g.i <;> simp
   ·rcases ajE.mp hr with h | h
    ·obtain ⟨j,pv,st,h3,h4,h5⟩:=e4 r h
     exact ⟨j,pv,st,by omega,h4,h5⟩
    ·split at h
     ·rename_i hN
      exact ⟨i,p.1,p.2,ajd _,hi,hcan,by rw [hp];exact hN,h⟩
     ·simp at h
end
end
section
open Go
def iW (o:Oper):List Nat:=(o.after.toList.filter (fun e=>Region.binds .any e)).map (·.on)
inductive J6 (ops:Array Oper):Nat → Nat → Prop
 | dir {i e:Nat} (h:i < ops.size) (he:e ∈ iW ops[i]):J6 ops e i
 | step {i e j:Nat} (h:i < ops.size) (he:e ∈ iW ops[i]) (hj:J6 ops j e):J6 ops j i
def isLt (g:G):Bool:=g.dst.isNone && g.gd.isNone && (match g.i with
 | .store _ _ _=>true
 | _=>false)
structure Mw (ops:Array Oper) (pre:List (G × List Nat)) (lY:List Nat) (jR rest:List G):Prop where
 len:ops.size = pre.length + (jR.length + rest.length)
 lt:∀ i (h:i < ops.size),∀ e ∈ iW ops[i],e < i
 data:∀ i (h:i < pre.length) (h':i < ops.size),∀ s ∈ rd pre[i].1,∀ j (hj:j < pre.length),pre[j].1.dst = some s → j ∈ iW ops[i]
 dst:∀ i j (h:i < pre.length) (hj:j < pre.length),i ≠ j → ∀ s,pre[i].1.dst = some s → pre[j].1.dst ≠ some s
 cls:∀ i (h:i < pre.length),Ql pre[i].1.i = true ∨ (gN pre[i].1.i = true ∧ pre[i].1.gd = none)
 nk:∀ i j (h:i < pre.length) (hj:j < pre.length),i ≠ j → gN pre[i].1.i = true → dA (pre[i].1.dst.getD 999) ∈ pre[j].2 ∨ J6 ops i j
 tl:∀ k,pre.length ≤ k → k < ops.size → ∀ j,j < k → J6 ops j k ∨ (j < pre.length ∧ j ∈ lY ∧ k < pre.length + jR.length)
 fl:∀ j ∈ lY,∀ (h:j < pre.length),Ql pre[j].1.i = true
 lt':∀ g ∈ jR,isLt g = true
 ld:∀ m (h:m < jR.length) (h':pre.length + m < ops.size),∀ s ∈ rd jR[m],∀ j (hj:j < pre.length),pre[j].1.dst = some s → j ∈ iW ops[pre.length + m]
def Dn (l:Array Bool) (i:Nat):Prop:=l.getD i false = true
section
variable {P : Program} {Γ:Env} {bn:Nat → Prop} {w0 w w':World} {bg:List Nat} {N:Fr} {iV:Nat → Value} {σ σ':St} {a:Act} {X:Hx} {ops:Array Oper} {pre:List (G × List Nat)} {lY:List Nat} {jR rest:List G} {l:Array Bool} {Q:Exit → Act → World → Prop}
def Down (ops:Array Oper) (l:Array Bool):Prop:=∀ i (h:i < ops.size),Dn l i → ∀ e ∈ iW ops[i],Dn l e
theorem Down.ZN (hd:Down ops l) (hD:Mw ops pre lY jR rest) {i j:Nat} (hb:J6 ops j i):(∀ (h:i < ops.size),∀ e ∈ iW ops[i],Dn l e) → Dn l j:=by
 induction hb with
 | dir h he=>intro hr;exact hr h _ he
 | step h he hj ih =>
  intro hr
  exact ih (fun h'=>hd _ h' (hr h _ he))
theorem gu {i:Nat} (hl:l.size = ops.size):i ∈ Region.ready .any ops l ↔ ∃ (h:i < ops.size),¬ Dn l i ∧ ∀ e ∈ iW ops[i],Dn l e:=by
 unfold Region.ready
 rw [akB,ajL]
 constructor
 ·rintro ⟨h,hh⟩
  refine ⟨h,?_⟩
  rw [ajg,ajF h] at hh
  simp only [Option.map_some,Option.getD_some] at hh
  refine ⟨fun hd=>?_,fun e he=>?_⟩
  ·have h1:=hh.1
   unfold Dn at hd
   rw [ajT,ajF (by omega)] at hd h1
   simp only [Option.getD_some] at hd h1
   rw [hd] at h1;cases h1
  ·obtain ⟨x,hx,rfl⟩:=ajx.mp he
   obtain ⟨hx1,hx2⟩:=akB.mp hx
   have:=(Array.all_eq_true_iff_forall_mem.mp hh.2) x (by simpa using hx1)
   rw [hx2] at this
   exact this
 ·rintro ⟨h,h1,h2⟩
  refine ⟨h,?_⟩
  rw [ajg,ajF h]
  simp only [Option.map_some,Option.getD_some]
  constructor
  ·unfold Dn at h1
   rw [ajT,ajF (by omega)] at h1 ⊢
   simp only [Option.getD_some] at h1 ⊢
   simpa using h1
  ·refine Array.all_eq_true_iff_forall_mem.mpr fun x hx=>?_
   cases hb:Region.binds .any x with
   | false=>rfl
   | true=>exact h2 x.on (ajx.mpr ⟨x,akB.mpr ⟨by simpa using hx,hb⟩,rfl⟩)
theorem Dn.set {i j:Nat} (hi:i < l.size):Dn (l.setIfInBounds i true) j ↔ j = i ∨ Dn l j:=by
 unfold Dn
 rw [ajT,ajT,akf]
 by_cases h:i = j
 ·subst h
  rw [ai8 rfl,ai8 hi]
  simp
 ·rw [ai9 h]
  constructor
  ·exact fun hh=>.inr hh
  ·rintro (hh | hh)
   ·exact absurd hh.symm h
   ·exact hh
def left (l:Array Bool):Nat:=(l.toList.filter (!·)).length
theorem oh {i:Nat} (hi:i < l.size) (hn:¬ Dn l i):left (l.setIfInBounds i true) + 1 = left l:=by
 unfold left
 rw [Array.toList_setIfInBounds]
 have hv:l.toList[i]? = some false:=by
  unfold Dn at hn
  rw [ajT,ajF hi] at hn
  simp only [Option.getD_some] at hn
  rw [akm,ajF hi]
  simpa using hn
 have key:∀ (l:List Bool) (i:Nat),l[i]? = some false → ((l.set i true).filter (!·)).length + 1 = (l.filter (!·)).length:=by
  intro l
  induction l with
  | nil=>intro i h;simp at h
  | cons b l ih =>
   intro i h
   cases i with
   | zero=>simp at h;subst h;simp
   | succ i =>
    have:=ih i (by simpa using h)
    cases b <;> simp_all
 exact key l.toList i hv
theorem pX (hd:Down ops l) {i:Nat} (hl:l.size = ops.size) (hi:i < ops.size) (hr:∀ e ∈ iW ops[i],Dn l e):Down ops (l.setIfInBounds i true):=by
 intro j hj hD e he
 rcases (Dn.set (by omega)).mp hD with rfl | hD
 ·exact (Dn.set (by omega)).mpr (.inr (hr e he))
 ·exact (Dn.set (by omega)).mpr (.inr (hd j hj hD e he))
theorem pY (hD:Mw ops pre lY jR rest) (hl:l.size = ops.size) {i:Nat} (hi:i < ops.size) (hn:¬ Dn l i):Region.ready .any ops l ≠ []:=by
 have key:∀ (n i:Nat),i ≤ n → (hi:i < ops.size) → ¬ Dn l i → ∃ j,j ∈ Region.ready .any ops l:=by
  intro n
  induction n with
  | zero =>
   intro i h0 hi hn
   exact ⟨i,(gu hl).mpr ⟨hi,hn,fun e he=>by have:=hD.lt i hi e he;omega⟩⟩
  | succ n ih =>
   intro i h0 hi hn
   by_cases hall:∀ e ∈ iW ops[i],Dn l e
   ·exact ⟨i,(gu hl).mpr ⟨hi,hn,hall⟩⟩
   ·have:∃ e,e ∈ iW ops[i] ∧ ¬ Dn l e:=by
     apply ajR
     intro hc
     exact hall (fun e he=>ajR fun hne=>hc ⟨e,he,hne⟩)
    obtain ⟨e,he,hne⟩:=this
    have:=hD.lt i hi e he
    exact ih e (by omega) (by omega) hne
 obtain ⟨j,hj⟩:=key i i (ajd _) hi hn
 intro e
 rw [e] at hj
 simp at hj
end
end
section
open Go
section
variable {P : Program} {Γ:Env} {bn:Nat → Prop} {w0 w w':World} {bg:List Nat} {N:Fr} {iV:Nat → Value} {σ σ':St} {a:Act} {X:Hx} {ops:Array Oper} {pre:List (G × List Nat)} {lY:List Nat} {jR rest:List G} {l:Array Bool} {Q:Exit → Act → World → Prop}
theorem iY : ∀ {l:List Oper} {gs:List G},kg P X ops N.ok l = some gs → l.length = gs.length ∧ ∀ i (h:i < l.length) (h':i < gs.length),sW P X ops N.ok l[i] = some gs[i]
 | [],gs,h=>by cases h;exact ⟨rfl,fun i h=>by simp at h⟩
 | o :: l,gs,h=>by
  obtain ⟨g,h1,h2⟩:=zbm h
  obtain ⟨r,h3,rfl⟩:=zmm h2
  obtain ⟨e1,e2⟩:=iY h3
  refine ⟨by simp [e1],fun i hi hi'=>?_⟩
  cases i with
  | zero=>exact h1
  | succ i=>exact e2 i (by simpa using hi) (by simpa using hi')
theorem kX {fuel:Nat}:wpAny P .any ops Q (fuel + 1) l a w = ((Region.ready .any ops l = [] → Q .normal a w) ∧ ∀ i ∈ Region.ready .any ops l,wpOp P ops Q i (wpAny P .any ops Q fuel (l.setIfInBounds i true)) a w):=rfl
theorem VE (hD:Mw ops pre lY jR rest) (heq:∀ t ∈ X.eqs,lK P t) (kT:iC P Γ) (hC:dN P Γ) (hc:kg P X ops N.ok ops.toList = some (pre.map (·.1) ++ (jR ++ rest))) (hQ:∀ a' w',Ok bn w0 bg N iV σ' a' w' → Q .normal a' w') :
  ∀ (fuel k:Nat) (l:Array Bool) (σ:St) (a:Act) (w:World),l.size = ops.size → pre.length + jR.length ≤ k → k ≤ ops.size → (∀ i,i < ops.size → (Dn l i ↔ i < k)) → Down ops l → left l ≤ fuel → Ok bn w0 bg N iV σ a w → wI Γ false (rest.drop (k - (pre.length + jR.length))) σ = some σ' → wpAny P .any ops Q fuel l a w:=by
 intro fuel
 have hcg:=iY hc
 have hlen:=hD.len
 have nil:∀ {k:Nat} {l:Array Bool},l.size = ops.size → k = ops.size → (∀ i,i < ops.size → (Dn l i ↔ i < k)) → Region.ready .any ops l = []:=by
  intro k l hl hk hd
  refine List.eq_nil_iff_forall_not_mem.mpr fun i hi=>?_
  obtain ⟨h1,h2,_⟩:=(gu hl).mp hi
  exact h2 ((hd i h1).mpr (by omega))
 have pos:∀ {k:Nat} {l:Array Bool},l.size = ops.size → k < ops.size → (∀ i,i < ops.size → (Dn l i ↔ i < k)) → 0 < left l:=by
  intro k l hl hk hd
  have:=oh (l:=l) (i:=k) (by omega) (fun h=>by have:=(hd k hk).mp h;omega)
  omega
 induction fuel with
 | zero =>
  intro k l σ a w hl h1 h2 hd hdn hf h hE
  by_cases hk:k = ops.size
  ·refine ⟨nil hl hk hd,?_⟩
   rw [List.drop_eq_nil_of_le (by omega)] at hE
   cases hE
   exact hQ a w h
  ·have:=pos hl (by omega) hd
   omega
 | succ fuel ih =>
  intro k l σ a w hl h1 h2 hd hdn hf h hE
  rw [kX]
  by_cases hk:k = ops.size
  ·have hn:=nil hl hk hd
   refine ⟨fun _=>?_,fun i hi=>by rw [hn] at hi;simp at hi⟩
   rw [List.drop_eq_nil_of_le (by omega)] at hE
   cases hE
   exact hQ a w h
  ·have hk':k < ops.size:=by omega
   have hnk:¬ Dn l k:=fun hh=>by have:=(hd k hk').mp hh;omega
   refine ⟨fun hn=>absurd hn (pY hD hl hk' hnk),fun i hi=>?_⟩
   obtain ⟨hi1,hi2,hi3⟩:=(gu hl).mp hi
   have hik:i = k:=by
    have hge:k ≤ i:=by
     apply ajR
     intro hlt
     exact hi2 ((hd i hi1).mpr (by omega))
    apply ajR
    intro hne
    rcases hD.tl i (by omega) hi1 k (by omega) with hb | ⟨_,_,hb⟩
    ·exact hnk (hdn.ZN hD hb (fun _=>hi3))
    ·omega
   subst hik
   unfold wpOp
   rw [ajF hi1]
   have ht:i - (pre.length + jR.length) < rest.length:=by omega
   rw [akC ht] at hE
   obtain ⟨s,h4,h5⟩:=zbm hE
   have hg:=hcg.2 i (by simpa using hi1) (by simp;omega)
   rw [List.getElem_append_right (by simp;omega),List.getElem_append_right (by simp;omega)] at hg
   simp only [ajb,Array.getElem_toList,Nat.sub_sub] at hg
   refine Cw heq kT hC hg h h4 fun a' w' h'=>?_
   refine ih (i + 1) _ s a' w' (by simp [hl]) (by omega) (by omega) (fun j hj=>?_) (pX hdn hl hi1 hi3) ?_ h' (by rw [show i + 1 - (pre.length + jR.length) = i - (pre.length + jR.length) + 1 from by omega];exact h5)
   ·rw [Dn.set (by omega)]
    rw [hd j hj]
    omega
   ·have:=oh (l:=l) (i:=i) (by omega) hnk
    omega
end
end
section
open Go
structure Mx (Γ:Env) (pre:List (G × List Nat)) (fI:St) (l:Array Bool) (σ:St):Prop where
 tg1:∀ i pv st (h:Can Γ fI.ob pre fI.tm i pv st),Dn l i → ∀ s,(pre[i]'h.lt).1.dst = some s → get σ.tm s = some pv
 tg2:∀ s,(∀ i (h:i < pre.length),Dn l i → pre[i].1.dst ≠ some s) → get σ.tm s = get fI.tm s
 ob1:∃ news,σ.ob = news ++ fI.ob ∧ ∀ p ∈ news,∃ i,∃ (h:i < pre.length),gN pre[i].1.i = true ∧ p.1 = dA (pre[i].1.dst.getD 999)
 ob2:∀ i pv st (h:Can Γ fI.ob pre fI.tm i pv st),Dn l i → gN (pre[i]'h.lt).1.i = true → ∀ p ∈ st.ob.take 1,p ∈ σ.ob
 fr:∀ i (h:i < pre.length),gN pre[i].1.i = true → ¬ Dn l i → fresh σ (dA (pre[i].1.dst.getD 999)) = true
section
variable {Γ : Env} {σ fI σ':St} {ops:Array Oper} {pre:List (G × List Nat)} {lY:List Nat} {jR rest:List G} {l:Array Bool}
theorem Can.uniq {rA:List (Nat × Ob)} {zT:List (Nat × PV)} {i:Nat} {pv pv':PV} {s s':St} (h:Can Γ rA pre zT i pv s) (h':Can Γ rA pre zT i pv' s'):pv = pv' ∧ s = s':=by
 have:=h.ev.symm.trans h'.ev
 simp only [ajl,ajm] at this
 exact this
theorem p8 {d:Option Nat} {tm:List (Nat × PV)} {v:PV} {s:Nat}:get (sN d tm v) s = if d = some s then some v else get tm s:=by
 cases d with
 | none=>simp [sN]
 | some d =>
  simp only [sN,get_put,ajl]
  by_cases h:s = d
  ·rw [ai8 h,ai8 h.symm]
  ·rw [ai9 h,ai9 (fun e=>h e.symm)]
theorem Eo {d:Option Nat} {tm:List (Nat × PV)} {v:PV} {p:Nat × PV} (h:p ∈ sN d tm v):p.2 = v ∨ p ∈ tm:=by
 cases d with
 | none=>exact .inr h
 | some d =>
  rcases iH h with rfl | ⟨h,_⟩
  ·exact .inl rfl
  ·exact .inr h
theorem tK (hD:Mw ops pre lY jR rest) (hall:∀ j,j < pre.length → ∃ pv st,Can Γ fI.ob pre fI.tm j pv st):∀ i,i ≤ pre.length →
  (∀ j pv st (h:Can Γ fI.ob pre fI.tm j pv st),j < i → ∀ s,(pre[j]'h.lt).1.dst = some s → get (jy Γ fI.ob pre fI.tm i) s = some pv) ∧
  (∀ s,(∀ j (h:j < pre.length),j < i → pre[j].1.dst ≠ some s) → get (jy Γ fI.ob pre fI.tm i) s = get fI.tm s) ∧
  ∀ p ∈ jy Γ fI.ob pre fI.tm i,p ∈ fI.tm ∨ ∃ j pv st,j < i ∧ Can Γ fI.ob pre fI.tm j pv st ∧ p.2 = pv
 | 0,_=>⟨fun j _ _ _ h=>by omega,fun s _=>rfl,fun p hp=>.inl hp⟩
 | i + 1,hi=>by
  obtain ⟨e1,e2,e3⟩:=tK hD hall i (by omega)
  obtain ⟨pv,st,hc⟩:=hall i (by omega)
  rw [hc.nx]
  refine ⟨fun j pv' st' h hj s hs=>?_,fun s hs=>?_,fun p hp=>?_⟩
  ·rw [p8]
   by_cases hji:j = i
   ·subst hji
    rw [ai8 hs,(h.uniq hc).1]
   ·rw [ai9 (hD.dst j i h.lt hc.lt hji s hs),e1 j pv' st' h (by omega) s hs]
  ·rw [p8,ai9 (hs i hc.lt (by omega))]
   exact e2 s (fun j h hj=>hs j h (by omega))
  ·rcases Eo hp with h | h
   ·exact .inr ⟨i,pv,st,by omega,hc,h⟩
   ·rcases e3 p h with h | ⟨j,pv',st',h1,h2,h3⟩
    ·exact .inl h
    ·exact .inr ⟨j,pv',st',by omega,h2,h3⟩
theorem J6.lt (hD:Mw ops pre lY jR rest) {i j:Nat} (h:J6 ops j i):j < i:=by
 induction h with
 | dir h he=>exact hD.lt _ h _ he
 | step h he hj ih=>have:=hD.lt _ h _ he;omega
theorem IK {α:Type} {l m:List (Nat × α)} {k:Nat} (h:∀ p ∈ l,p.1 ≠ k):get (l ++ m) k = get m k:=by
 induction l with
 | nil=>rfl
 | cons p l ih =>
  obtain ⟨j,u⟩:=p
  rw [List.cons_append]
  conv=>lhs;unfold get
  rw [ai9 (h _ akr),ih (fun p hp=>h p (ajY _ hp))]
theorem Cx : ∀ {i:I},Ql i = true → gN i = true → False:=by
 intro i h1 h2
 cases i <;> simp [Ql,gN] at h1 h2
theorem ZO (hD:Mw ops pre lY jR rest) (hall:∀ j,j < pre.length → ∃ pv st,Can Γ fI.ob pre fI.tm j pv st) (hfr:∀ i (h:i < pre.length),gN pre[i].1.i = true → fresh fI (dA (pre[i].1.dst.getD 999)) = true)
  (hI:Mx Γ pre fI l σ) (hl:l.size = ops.size) (hdn:Down ops l) {i:Nat} (hi:i < pre.length) (hi':i < ops.size) (hn:¬ Dn l i) (hr:∀ e ∈ iW ops[i],Dn l e) :
  ∃ pv σ1,mH Γ true σ pre[i].1 = some (pv,σ1) ∧ Mx Γ pre fI (l.setIfInBounds i true) (qU σ1 pre[i].1.dst pv):=by
 obtain ⟨pv,st,hc⟩:=hall i hi
 obtain ⟨c1,c2,c3⟩:=tK hD hall i (by omega)
 have hset:∀ {j},Dn (l.setIfInBounds i true) j ↔ j = i ∨ Dn l j:=fun {j}=>Dn.set (by omega)
 have hsame:Same (rd pre[i].1) ⟨jy Γ fI.ob pre fI.tm i,fI.ob⟩ σ:=by
  intro s hs
  by_cases hw:∃ j,∃ (h:j < pre.length),pre[j].1.dst = some s
  ·obtain ⟨j,hj,hjs⟩:=hw
   have hje:=hD.data i hi hi' s hs j hj hjs
   obtain ⟨pv',st',hc'⟩:=hall j hj
   rw [hI.tg1 j pv' st' hc' (hr j hje) s hjs,c1 j pv' st' hc' (hD.lt i hi' j hje) s hjs]
  ·have hw':∀ j (h:j < pre.length),pre[j].1.dst ≠ some s:=fun j h e=>hw ⟨j,h,e⟩
   rw [hI.tg2 s (fun j h _=>hw' j h),c2 s (fun j h _=>hw' j h)]
 have hnk:∀ j (h:j < pre.length),gN pre[j].1.i = true → ¬ Dn l j → j ≠ i → dA (pre[j].1.dst.getD 999) ∈ pre[i].2:=by
  intro j h hN hdj hji
  rcases hD.nk j i h hi hji hN with h1 | h1
  ·exact h1
  ·exact absurd (hdn.ZN hD h1 (fun _=>hr)) hdj
 obtain ⟨news,ho1,ho2⟩:=hI.ob1
 have hkey:∀ k o,get fI.ob k = some o → get σ.ob k = some o:=by
  intro k o hk
  rw [ho1,IK]
  ·exact hk
  ·intro p hp e
   obtain ⟨j,hj,hN,hpk⟩:=ho2 p hp
   have:=(jG.mp (hfr j hj hN)).1 _ (get_mem hk)
   exact this.1 (by show k = _;rw [← e,hpk])
 have fin:∀ (σ1:St) (new:List (Nat × Ob)),σ1.tm = σ.tm → σ1.ob = new ++ σ.ob → (∀ p ∈ new,gN pre[i].1.i = true ∧ p.1 = dA (pre[i].1.dst.getD 999)) → (gN pre[i].1.i = true → new = st.ob.take 1) → Mx Γ pre fI (l.setIfInBounds i true) (qU σ1 pre[i].1.dst pv):=by
  intro σ1 new ht fZ hnew hst
  have TL:(qU σ1 pre[i].1.dst pv).tm = sN pre[i].1.dst σ.tm pv:=by
   unfold qU sN
   cases pre[i].1.dst <;> simp [ht]
  have VF:(qU σ1 pre[i].1.dst pv).ob = new ++ σ.ob:=by
   unfold qU
   cases pre[i].1.dst <;> simp [fZ]
  refine ⟨fun j pv' st' h hd s hs=>?_,fun s hs=>?_,⟨new ++ news,by rw [VF,ho1,ajW],fun p hp=>?_⟩,fun j pv' st' h hd hN p hp=>?_,fun j h hN hd=>?_⟩
  ·rw [TL,p8]
   rcases hset.mp hd with rfl | hd
   ·rw [ai8 hs,(h.uniq hc).1]
   ·have hji:j ≠ i:=fun e=>hn (e ▸ hd)
    rw [ai9 (hD.dst j i h.lt hi hji s hs)]
    exact hI.tg1 j pv' st' h hd s hs
  ·rw [TL,p8,ai9 (hs i hi (hset.mpr (.inl rfl)))]
   exact hI.tg2 s (fun j h hd=>hs j h (hset.mpr (.inr hd)))
  ·rcases ajE.mp hp with hp | hp
   ·exact ⟨i,hi,hnew p hp⟩
   ·exact ho2 p hp
  ·rw [VF]
   rcases hset.mp hd with rfl | hd
   ·refine List.mem_append_left _ ?_
    rw [hst hN,(hc.uniq h).2];exact hp
   ·exact List.mem_append_right _ (hI.ob2 j pv' st' h hd hN p hp)
  ·have hji:j ≠ i:=fun e=>hd (hset.mpr (.inl e))
   have hdj:¬ Dn l j:=fun e=>hd (hset.mpr (.inr e))
   have hk:=hnk j h hN hdj hji
   obtain ⟨f1,f2⟩:=jG.mp (hI.fr j h hN hdj)
   obtain ⟨g1,g2⟩:=hc.nk _ hk
   refine jG.mpr ⟨fun p hp=>?_,fun p hp=>?_⟩
   ·rw [VF] at hp
    rcases ajE.mp hp with hp | hp
    ·have hNi:=(hnew p hp).1
     exact g2 hNi p (by rw [← hst hNi];exact hp)
    ·exact f1 p hp
   ·rw [TL] at hp
    rcases Eo hp with h | h
    ·rw [h];exact g1
    ·exact f2 p h
 rcases hD.cls i hi with hV | ⟨hN,hgd⟩
 ·obtain ⟨e1,e2⟩:=tJ hV hsame hkey hc.ev
  refine ⟨pv,σ,e2,fin σ [] rfl rfl (fun p hp=>by simp at hp) (fun hN=>?_)⟩
  exact (Cx hV hN).elim
 ·have hfc:fresh ⟨jy Γ fI.ob pre fI.tm i,fI.ob⟩ (dA (pre[i].1.dst.getD 999)) = true:=by
   obtain ⟨f1,f2⟩:=jG.mp (hfr i hi hN)
   refine jG.mpr ⟨f1,fun p hp=>?_⟩
   rcases c3 p hp with h | ⟨j,pv',st',h1,h2,h3⟩
   ·exact f2 p h
   ·rcases hD.nk i j hi h2.lt (by omega) hN with h4 | h4
    ·rw [h3];exact (h2.nk _ h4).1
    ·have:=h4.lt hD;omega
  obtain ⟨o,e1,e2⟩:=Mv hN hgd hsame hfc (hI.fr i hi hN hn) hc.ev
  refine ⟨pv,_,e2,fin _ [(dA (pre[i].1.dst.getD 999),o)] rfl rfl (fun p hp=>by simp at hp;exact ⟨hN,by rw [hp]⟩) (fun _=>by rw [e1];rfl)⟩
end
end
section
open Go
section
variable {P : Program} {Γ:Env} {bn:Nat → Prop} {w0 w w':World} {bg:List Nat} {N:Fr} {d:Nat} {iV:Nat → Value} {σ fI σ':St} {a:Act} {X:Hx} {ops:Array Oper} {pre:List (G × List Nat)} {lY:List Nat} {jR rest:List G} {l:Array Bool} {Q:Exit → Act → World → Prop} {pv:PV}
theorem VG {tm tm2:List (Nat × PV)} {ob:List (Nat × Ob)} {n key off:Nat} {x y:dM} {s:St} (hv:val ⟨tm,ob⟩ x = some (.one (.ptr key off))) (hE:bZ Γ true ⟨tm,ob⟩ d (.store n x y) = some (pv,s)) :
  s.tm = tm ∧ (Same (nJ (.store n x y)) ⟨tm,ob⟩ ⟨tm2,ob⟩ → ∀ q d,bZ Γ q ⟨tm2,ob⟩ d (.store n x y) = some (pv,⟨tm2,s.ob⟩)) ∧ ∀ k o,k ≠ key → get ob k = some o → get s.ob k = some o:=by
 simp only [bZ] at hE
 rw [hv] at hE
 simp only [Option.bind_some] at hE
 obtain ⟨u,h1,h2⟩:=zbm hE
 split at h2
 ·rename_i hc
  split at h2
  ·rename_i xs fZ
   obtain ⟨l,h3,h4⟩:=zmm h2
   cases h4
   refine ⟨rfl,fun hs q d=>?_,fun k o hk hg=>?_⟩
   ·simp only [bZ]
    simp only [nJ] at hs
    rw [hs.l.val,hv,Option.bind_some,hs.r.val,h1,Option.bind_some,ai8 hc]
    simp only [fZ]
    simp only [h3,Option.map_some,jA]
   ·simp only [jA,get_put,ai9 hk]
    exact hg
  ·cases h2
 ·cases h2
theorem VH {tm:List (Nat × PV)} {ob ob':List (Nat × Ob)} {x:dM}:val ⟨tm,ob⟩ x = val ⟨tm,ob'⟩ x:=by
 cases x <;> rfl
theorem get_filter {α:Type} {l:List (Nat × α)} {p:Nat → Bool} {k:Nat} {o:α} (h:get (l.filter fun x=>p x.1) k = some o):p k = true ∧ get l k = some o:=by
 induction l with
 | nil=>cases h
 | cons q l ih =>
  obtain ⟨j,u⟩:=q
  rw [List.filter_cons] at h
  by_cases hp:p j = true
  ·rw [ai8 hp] at h
   unfold get at h ⊢
   by_cases hj:j = k
   ·rw [ai8 hj] at h ⊢
    exact ⟨hj ▸ hp,h⟩
   ·rw [ai9 hj] at h ⊢
    exact ih h
  ·rw [ai9 hp] at h
   obtain ⟨h1,h2⟩:=ih h
   refine ⟨h1,?_⟩
   unfold get
   rw [ai9 (by intro e;subst e;exact hp h1)]
   exact h2
theorem Ok.less (h:Ok bn w0 bg N iV σ a w) (ht:∀ p ∈ σ'.tm,p ∈ σ.tm) (ho:∀ p ∈ σ'.ob,p ∈ σ.ob):Ok bn w0 bg N iV σ' a w:=by
 obtain ⟨Fz,κ,hr,hk⟩:=h
 exact ⟨Fz,κ,hr.less ht ho,hk⟩
def Vis (pre:List (G × List Nat)) (l:Array Bool) (s:Nat):Prop:=∀ j (h:j < pre.length),¬ Dn l j → pre[j].1.dst ≠ some s
theorem VI (hD:Mw ops pre lY jR rest) (heq:∀ t ∈ X.eqs,lK P t) (kT:iC P Γ) (hC:dN P Γ) (hc:kg P X ops N.ok ops.toList = some (pre.map (·.1) ++ (jR ++ rest))) (hQ:∀ a' w',Ok bn w0 bg N iV σ' a' w' → Q .normal a' w')
  {tm:List (Nat × PV)} {obS Qo:List (Nat × Ob)} (TL:∀ p ∈ tm,get tm p.1 = some p.2)
  (hpv:∀ j (h:j < pre.length),j ∈ lY → ∃ pv s,mH Γ true ⟨tm,obS.filter (fun p=>!(jR.flatMap (sO tm)).contains p.1)⟩ pre[j].1 = some (pv,s) ∧ ∀ s,pre[j].1.dst = some s → get tm s = some pv)
  (hE:wI Γ false rest ⟨tm,Qo⟩ = some σ') :
  ∀ (fuel m:Nat) (l:Array Bool) (Ep:List (Nat × PV)) (ob:List (Nat × Ob)) (a:Act) (w:World),l.size = ops.size → m ≤ jR.length → (∀ i,i < ops.size → pre.length ≤ i → (Dn l i ↔ i < pre.length + m)) → (∀ j,j < pre.length → j ∉ lY → Dn l j) → Down ops l → left l ≤ fuel →
   LD Γ tm (jR.drop m) ob = some Qo → (∀ k o,(jR.flatMap (sO tm)).contains k = false → get obS k = some o → get ob k = some o) → (∀ s,Vis pre l s → get Ep s = get tm s) → Ok bn w0 bg N iV ⟨Ep,ob⟩ a w → wpAny P .any ops Q fuel l a w:=by
 intro fuel
 have hcg:=iY hc
 have hlen:=hD.len
 have over:∀ (fuel m:Nat) (l:Array Bool) (Ep:List (Nat × PV)) (ob:List (Nat × Ob)) (a:Act) (w:World),l.size = ops.size → m = jR.length → (∀ i,i < ops.size → pre.length ≤ i → (Dn l i ↔ i < pre.length + m)) → (∀ j,j < pre.length → Dn l j) → Down ops l → left l ≤ fuel →
   LD Γ tm (jR.drop m) ob = some Qo → (∀ s,Vis pre l s → get Ep s = get tm s) → Ok bn w0 bg N iV ⟨Ep,ob⟩ a w → wpAny P .any ops Q fuel l a w:=by
  intro fuel m l Ep ob a w hl hm hd hall hdn hf hL hv h
  subst hm
  rw [List.drop_of_length_le (ajd _)] at hL
  cases hL
  refine VE hD heq kT hC hc hQ fuel (pre.length + jR.length) l ⟨tm,Qo⟩ a w hl (ajd _) (by omega) (fun i hi=>?_) hdn hf (h.less (fun p hp=>?_) (fun _ hp=>hp)) (by rw [Nat.sub_self,aj9];exact hE)
  ·by_cases hi':i < pre.length
   ·exact ⟨fun _=>by omega,fun _=>hall i hi'⟩
   ·exact hd i hi (by omega)
  ·have:=hv p.1 (fun j hj hnd=>absurd (hall j hj) hnd)
   rw [TL p hp] at this
   exact get_mem this
 induction fuel with
 | zero =>
  intro m l Ep ob a w hl hm hd hfl hdn hf hL fZ hv h
  have hdone:∀ i,i < ops.size → Dn l i:=by
   intro i hi
   apply ajR
   intro hn
   have:=oh (l:=l) (i:=i) (by omega) hn
   omega
  refine over 0 m l Ep ob a w hl ?_ hd (fun j hj=>hdone j (by omega)) hdn hf hL hv h
  apply ajR
  intro hne
  have:=(hd (pre.length + m) (by omega) (by omega)).mp (hdone _ (by omega))
  omega
 | succ fuel ih =>
  intro m l Ep ob a w hl hm hd hfl hdn hf hL fZ hv h
  by_cases hfin:m = jR.length ∧ ∀ j,j < pre.length → Dn l j
  ·exact over (fuel + 1) m l Ep ob a w hl hfin.1 hd hfin.2 hdn hf hL hv h
  ·have hex:∃ i,i < pre.length + jR.length ∧ i < ops.size ∧ ¬ Dn l i:=by
    apply ajR
    intro hno
    have hall:∀ i,i < pre.length + jR.length → i < ops.size → Dn l i:=fun i h1 h2=>ajR fun hn=>hno ⟨i,h1,h2,hn⟩
    refine hfin ⟨?_,fun j hj=>hall j (by omega) (by omega)⟩
    apply ajR
    intro hne
    have:=(hd (pre.length + m) (by omega) (by omega)).mp (hall _ (by omega) (by omega))
    omega
   obtain ⟨i0,hi0,aeV,hn0⟩:=hex
   rw [kX]
   refine ⟨fun hn=>absurd hn (pY hD hl aeV hn0),fun i hi=>?_⟩
   obtain ⟨hi1,hi2,hi3⟩:=(gu hl).mp hi
   have hset:∀ {j},Dn (l.setIfInBounds i true) j ↔ j = i ∨ Dn l j:=fun {j}=>Dn.set (by omega)
   have hleft:=oh (l:=l) (i:=i) (by omega) hi2
   unfold wpOp
   rw [ajF hi1]
   have hg:=hcg.2 i (by simpa using hi1) (by simp;omega)
   by_cases VJ:i < pre.length
   ·
    have hif:i ∈ lY:=ajR fun hn=>hi2 (hfl i VJ hn)
    rw [List.getElem_append_left (by simpa using VJ)] at hg
    simp only [akk,Array.getElem_toList] at hg
    obtain ⟨pv,s,h1,h2⟩:=hpv i VJ hif
    have hsame:Same (rd pre[i].1) ⟨tm,obS.filter (fun p=>!(jR.flatMap (sO tm)).contains p.1)⟩ ⟨Ep,ob⟩:=fun s hs=>hv s (fun j hj hnd he=>hnd (hi3 j (hD.data i VJ hi1 s hs j hj he)))
    obtain ⟨e1,e2⟩:=tJ (σ2:=⟨Ep,ob⟩) (hD.fl i hif VJ) hsame (fun k o hk=>by
     obtain ⟨g1,g2⟩:=get_filter (p:=fun k=>!(jR.flatMap (sO tm)).contains k) hk
     exact fZ k o (by simpa using g1) g2) h1
    refine wV heq kT hC hg h e2 fun a' w' h'=>?_
    refine ih m _ (sN pre[i].1.dst Ep pv) ob a' w' (by simp [hl]) hm (fun j hj hj'=>?_) (fun j hj hjf=>hset.mpr (.inr (hfl j hj hjf))) (pX hdn hl hi1 hi3) (by omega) hL fZ (fun s hs=>?_) ?_
    ·rw [hset,hd j hj hj']
     omega
    ·rw [p8]
     split
     ·rename_i he
      exact (h2 s he).symm
     ·rename_i he
      refine hv s (fun j hj hnd hjs=>?_)
      by_cases hji:j = i
      ·subst hji;exact he hjs
      ·exact hs j hj (fun hdj=>by rcases hset.mp hdj with h | h;exact hji h;exact hnd h) hjs
    ·cases hdst:pre[i].1.dst with
     | none=>rw [hdst] at h';exact h'
     | some s=>rw [hdst] at h';exact h'
   ·
    have him:i = pre.length + m ∧ m < jR.length:=by
     have hge:pre.length + m ≤ i:=by
      apply ajR
      intro hlt
      exact hi2 ((hd i hi1 (by omega)).mpr (by omega))
     have hlt':i < pre.length + jR.length:=by
      apply ajR
      intro hnl
      rcases hD.tl i (by omega) hi1 i0 (by omega) with hb | ⟨_,_,hb⟩
      ·exact hn0 (hdn.ZN hD hb (fun _=>hi3))
      ·omega
     refine ⟨?_,by omega⟩
     apply ajR
     intro hne
     have hnm:¬ Dn l (pre.length + m):=fun hh=>by have:=(hd (pre.length + m) (by omega) (by omega)).mp hh;omega
     rcases hD.tl i (by omega) hi1 (pre.length + m) (by omega) with hb | ⟨hb,_,_⟩
     ·exact hnm (hdn.ZN hD hb (fun _=>hi3))
     ·omega
    obtain ⟨rfl,hml⟩:=him
    rw [List.getElem_append_right (by simp),List.getElem_append_left (by simpa using hml)] at hg
    simp only [ajb,Array.getElem_toList,Nat.add_sub_cancel_left] at hg
    rw [akC hml] at hL
    have hlg:=hD.lt' _ (List.getElem_mem hml)
    have hld:=hD.ld m hml hi1
    have hkey:∀ k,k ∈ sO tm jR[m] → (jR.flatMap (sO tm)).contains k = true:=fun k hk=>by
     rw [List.contains_iff_mem]
     exact List.mem_flatMap.mpr ⟨_,List.getElem_mem hml,hk⟩
    generalize jR[m] = g at hg hL hlg hld hkey
    obtain ⟨gd,gg,gi⟩:=g
    unfold isLt at hlg
    simp only [ajg] at hlg
    obtain ⟨⟨hl1,hl2⟩,hl3⟩:=hlg
    have hgd:gd = none:=by cases gd <;> simp_all
    have hgg:gg = none:=by cases gg <;> simp_all
    subst hgd
    subst hgg
    cases gi with
    | store n x y =>
     simp only [LD] at hL
     split at hL
     ·rename_i key off hval
      obtain ⟨p,h1,h2⟩:=zbm hL
      obtain ⟨pv,s⟩:=p
      have hsame:Same (nJ (.store n x y)) ⟨tm,ob⟩ ⟨Ep,ob⟩:=fun s hs=>hv s (fun j hj hnd he=>hnd (hi3 j (hld s (by unfold rd;exact List.mem_append_left _ hs) j hj he)))
      obtain ⟨e1,e2,e3⟩:=VG (tm2:=Ep) hval h1
      have e2':=e2 hsame true 999
      refine wV (q:=true) (pv:=pv) (σ':=⟨Ep,s.ob⟩) heq kT hC hg h (by simp only [mH,zO,Option.bind_some,ajH];exact e2') fun a' w' h'=>?_
      refine ih (m + 1) _ Ep s.ob a' w' (by simp [hl]) (by omega) (fun j hj hj'=>?_) (fun j hj hjf=>hset.mpr (.inr (hfl j hj hjf))) (pX hdn hl hi1 hi3) (by omega) h2 (fun k o hk hg'=>?_) (fun s hs=>hv s (fun j hj hnd=>hs j hj (fun hdj=>by rcases hset.mp hdj with h | h;omega;exact hnd h))) h'
      ·rw [hset,hd j hj hj']
       omega
      ·refine e3 k o (fun e=>?_) (fZ k o hk hg')
       subst e
       have hv0:val ⟨tm,[]⟩ x = some (.one (.ptr k off)):=(VH (ob':=ob)).trans hval
       have:=hkey k (by simp only [sO,hv0,aj0])
       rw [this] at hk;cases hk
     ·cases hL
    | _=>simp at hl3
end
end
section
open Go
section
variable {P : Program} {Γ:Env} {bn:Nat → Prop} {w0 w w':World} {bg:List Nat} {N:Fr} {iV:Nat → Value} {σ fI σ':St} {a:Act} {X:Hx} {ops:Array Oper} {pre:List (G × List Nat)} {lY:List Nat} {jR rest:List G} {l:Array Bool} {Q:Exit → Act → World → Prop}
theorem Cy {α:Type} {ks:List Nat} {l:List (Nat × α)} {p:Nat × α} (h:p ∈ pick ks l):get l p.1 = some p.2:=by
 unfold pick at h
 obtain ⟨i,_,h2⟩:=List.mem_filterMap.mp h
 obtain ⟨v,h3,h4⟩:=zmm h2
 subst h4
 exact h3
theorem Er {α:Type} {l:List (Nat × α)} {s:Nat}:∀ {ks:List Nat},get (pick ks l) s = if s ∈ ks then get l s else none
 | []=>rfl
 | k :: ks=>by
  have ih:=Er (l:=l) (s:=s) (ks:=ks)
  unfold pick at ih ⊢
  rw [List.filterMap_cons]
  cases hg:get l k with
  | none =>
   simp only [Option.map_none]
   rw [ih]
   by_cases hk:s = k
   ·subst hk;simp [hg]
   ·simp [hk]
  | some v =>
   simp only [Option.map_some]
   conv=>lhs;unfold get
   by_cases hk:k = s
   ·subst hk;simp [hg]
   ·rw [ai9 hk,ih]
    have:¬ s = k:=fun e=>hk e.symm
    simp [this]
theorem get_none {α:Type} {l:List (Nat × α)} {s:Nat} (h:s ∉ l.map (·.1)):get l s = none:=by
 cases hg:get l s with
 | none=>rfl
 | some v=>exact absurd (ajx.mpr ⟨_,get_mem hg,rfl⟩) h
theorem Qp {α:Type} {l:List (Nat × α)} {s:Nat}:get (pick (l.map (·.1)) l) s = get l s:=by
 rw [Er]
 split
 ·rfl
 ·rename_i h;exact (get_none h).symm
theorem aeW (hD:Mw ops pre lY jR rest) (hall:∀ j,j < pre.length → ∃ pv st,Can Γ fI.ob pre fI.tm j pv st) (hfr:∀ i (h:i < pre.length),gN pre[i].1.i = true → fresh fI (dA (pre[i].1.dst.getD 999)) = true)
  {i:Nat} {pv:PV} {st:St} (hc:Can Γ fI.ob pre fI.tm i pv st) (hN:gN (pre[i]'hc.lt).1.i = true):∀ p ∈ st.ob.take 1,p.1 = dA ((pre[i]'hc.lt).1.dst.getD 999):=by
 have hi:=hc.lt
 obtain ⟨c1,c2,c3⟩:=tK hD hall i (by omega)
 have hgd:pre[i].1.gd = none:=by
  rcases hD.cls i hi with h | h
  ·exact (Cx h hN).elim
  ·exact h.2
 have hfc:fresh ⟨jy Γ fI.ob pre fI.tm i,fI.ob⟩ (dA (pre[i].1.dst.getD 999)) = true:=by
  obtain ⟨f1,f2⟩:=jG.mp (hfr i hi hN)
  refine jG.mpr ⟨f1,fun p hp=>?_⟩
  rcases c3 p hp with h | ⟨j,pv',st',h1,h2,h3⟩
  ·exact f2 p h
  ·rcases hD.nk i j hi h2.lt (by omega) hN with h4 | h4
   ·rw [h3];exact (h2.nk _ h4).1
   ·have:=h4.lt hD;omega
 obtain ⟨o,e1,_⟩:=Mv (σ2:=⟨jy Γ fI.ob pre fI.tm i,fI.ob⟩) hN hgd (fun _ _=>rfl) hfc hfc hc.ev
 intro p hp
 rw [e1] at hp
 simp at hp
 rw [hp]
theorem VK (hD:Mw ops pre lY jR rest) (heq:∀ t ∈ X.eqs,lK P t) (kT:iC P Γ) (hC:dN P Γ) (hc:kg P X ops N.ok ops.toList = some (pre.map (·.1) ++ (jR ++ rest))) (hQ:∀ a' w',Ok bn w0 bg N iV σ' a' w' → Q .normal a' w')
  (hall:∀ j,j < pre.length → ∃ pv st,Can Γ fI.ob pre fI.tm j pv st) (hfr:∀ i (h:i < pre.length),gN pre[i].1.i = true → fresh fI (dA (pre[i].1.dst.getD 999)) = true)
  {tm:List (Nat × PV)} {sob Qo news':List (Nat × Ob)} (TL:tm = pick ((jy Γ fI.ob pre fI.tm pre.length).map (·.1)) (jy Γ fI.ob pre fI.tm pre.length))
  (ZP:sob = news' ++ fI.ob) (hnews:∀ p ∈ news',∃ j pv st,∃ (h:Can Γ fI.ob pre fI.tm j pv st),gN (pre[j]'h.lt).1.i = true ∧ p ∈ st.ob.take 1)
  (Qq:lY.all (fun j=>(mH Γ true ⟨tm,fI.ob.filter (fun p=>!(jR.flatMap (sO tm)).contains p.1)⟩ (pre.getD j default).1).isSome) = true)
  (hL:LD Γ tm jR sob = some Qo) (hE:wI Γ false rest ⟨tm,Qo⟩ = some σ') :
  ∀ (fuel:Nat) (l:Array Bool) (σ:St) (a:Act) (w:World),l.size = ops.size → (∀ i,pre.length ≤ i → ¬ Dn l i) → Down ops l → left l ≤ fuel → Ok bn w0 bg N iV σ a w → Mx Γ pre fI l σ → wpAny P .any ops Q fuel l a w:=by
 intro fuel
 have hcg:=iY hc
 have hlen:=hD.len
 obtain ⟨c1,c2,c3⟩:=tK (Γ:=Γ) hD hall pre.length (ajd _)
 have htg:∀ s,get tm s = get (jy Γ fI.ob pre fI.tm pre.length) s:=fun s=>by rw [TL];exact Qp
 have aeX:∀ p ∈ tm,get tm p.1 = some p.2:=fun p hp=>by
  rw [htg]
  rw [TL] at hp
  exact Cy hp
 have hpv:∀ j (h:j < pre.length),j ∈ lY → ∃ pv s,mH Γ true ⟨tm,fI.ob.filter (fun p=>!(jR.flatMap (sO tm)).contains p.1)⟩ pre[j].1 = some (pv,s) ∧ ∀ s,pre[j].1.dst = some s → get tm s = some pv:=by
  intro j h hj
  have h1:=ajp.mp Qq j hj
  rw [ajy,ajo h,Option.getD_some] at h1
  obtain ⟨q,hq⟩:=akw.mp h1
  obtain ⟨pv',s'⟩:=q
  refine ⟨pv',s',hq,fun s hs=>?_⟩
  obtain ⟨pv,st,hcj⟩:=hall j h
  obtain ⟨d1,d2,d3⟩:=tK (Γ:=Γ) hD hall j (by omega)
  have hV:=hD.fl j hj h
  obtain ⟨_,g1⟩:=tJ (σ:=⟨tm,fI.ob.filter (fun p=>!(jR.flatMap (sO tm)).contains p.1)⟩) (σ2:=⟨tm,fI.ob⟩) hV (fun _ _=>rfl) (fun k o hk=>(get_filter (p:=fun k=>!(jR.flatMap (sO tm)).contains k) hk).2) hq
  have hsame:Same (rd pre[j].1) ⟨jy Γ fI.ob pre fI.tm j,fI.ob⟩ ⟨tm,fI.ob⟩:=by
   intro s hs
   show get tm s = get (jy Γ fI.ob pre fI.tm j) s
   rw [htg]
   by_cases hw:∃ i,∃ (hi:i < pre.length),pre[i].1.dst = some s
   ·obtain ⟨i,hi,his⟩:=hw
    have hie:=hD.data j h (by omega) s hs i hi his
    obtain ⟨pv',st',hc'⟩:=hall i hi
    rw [c1 i pv' st' hc' hi s his,d1 i pv' st' hc' (hD.lt j (by omega) i hie) s his]
   ·have hw':∀ i (h:i < pre.length),pre[i].1.dst ≠ some s:=fun i h e=>hw ⟨i,h,e⟩
    rw [c2 s (fun i h _=>hw' i h),d2 s (fun i h _=>hw' i h)]
  obtain ⟨_,g2⟩:=tJ (σ2:=⟨tm,fI.ob⟩) hV hsame (fun k o hk=>hk) hcj.ev
  rw [g1] at g2
  simp only [ajl,ajm] at g2
  rw [htg,c1 j pv st hcj h s hs,g2.1]
 have over:∀ (fuel:Nat) (l:Array Bool) (σ:St) (a:Act) (w:World),l.size = ops.size → (∀ i,pre.length ≤ i → ¬ Dn l i) → Down ops l → left l ≤ fuel → Ok bn w0 bg N iV σ a w → Mx Γ pre fI l σ → (∀ i,i < pre.length → i ∉ lY → Dn l i) → wpAny P .any ops Q fuel l a w:=by
  intro fuel l σ a w hl hno hdn hf h hI hdone
  refine VI (tm:=tm) (obS:=fI.ob) (Qo:=Qo) hD heq kT hC hc hQ aeX hpv hE fuel 0 l σ.tm sob a w hl (ajO _) (fun i hi VJ=>⟨fun hd=>absurd hd (hno i VJ),fun hd=>by omega⟩) hdone hdn hf (by rw [aj9];exact hL) (fun k o _ hk=>?_) (fun s hs=>?_) (h.less (fun _ hp=>hp) (fun p hp=>?_))
  ·rw [ZP,IK]
   ·exact hk
   ·intro p hp e
    obtain ⟨j,pv,st,hcj,hN,hpt⟩:=hnews p hp
    have hk':=aeW hD hall hfr hcj hN p hpt
    have:=(jG.mp (hfr j hcj.lt hN)).1 _ (get_mem hk)
    exact this.1 (by show k = _;rw [← e,hk'])
  ·rw [htg]
   by_cases hw:∃ j,∃ (h:j < pre.length),pre[j].1.dst = some s
   ·obtain ⟨j,hj,hjs⟩:=hw
    obtain ⟨pv,st,hcj⟩:=hall j hj
    have hdj:Dn l j:=ajR fun hn=>hs j hj hn hjs
    rw [c1 j pv st hcj hj s hjs]
    exact hI.tg1 j pv st hcj hdj s hjs
   ·have hw':∀ j (h:j < pre.length),pre[j].1.dst ≠ some s:=fun j h e=>hw ⟨j,h,e⟩
    rw [c2 s (fun j h _=>hw' j h)]
    exact hI.tg2 s (fun j h _=>hw' j h)
  ·rw [ZP] at hp
   rcases ajE.mp hp with hp | hp
   ·obtain ⟨j,pv,st,hcj,hN,hpt⟩:=hnews p hp
    refine hI.ob2 j pv st hcj (hdone j hcj.lt (fun hj=>?_)) hN p hpt
    exact Cx (hD.fl j hj hcj.lt) hN
   ·obtain ⟨news,ho,_⟩:=hI.ob1
    rw [ho]
    exact List.mem_append_right _ hp
 induction fuel with
 | zero =>
  intro l σ a w hl hno hdn hf h hI
  refine over 0 l σ a w hl hno hdn hf h hI fun i hi _=>?_
  apply ajR
  intro hn
  have:=oh (l:=l) (i:=i) (by omega) hn
  omega
 | succ fuel ih =>
  intro l σ a w hl hno hdn hf h hI
  by_cases hdone:∀ i,i < pre.length → i ∉ lY → Dn l i
  ·exact over (fuel + 1) l σ a w hl hno hdn hf h hI hdone
  ·have:∃ i,i < pre.length ∧ i ∉ lY ∧ ¬ Dn l i:=by
    apply ajR
    intro hc
    exact hdone fun i hi hif=>ajR fun hn=>hc ⟨i,hi,hif,hn⟩
   obtain ⟨i0,hi0,aeY,hn0⟩:=this
   rw [kX]
   refine ⟨fun hn=>absurd hn (pY hD hl (by omega) hn0),fun i hi=>?_⟩
   obtain ⟨hi1,hi2,hi3⟩:=(gu hl).mp hi
   have him:i < pre.length:=by
    apply ajR
    intro hge
    rcases hD.tl i (by omega) hi1 i0 (by omega) with hb | ⟨_,hb,_⟩
    ·exact hn0 (hdn.ZN hD hb (fun _=>hi3))
    ·exact aeY hb
   obtain ⟨pv,σ1,h1,h2⟩:=ZO hD hall hfr hI hl hdn him hi1 hi2 hi3
   unfold wpOp
   rw [ajF hi1]
   have hg:=hcg.2 i (by simpa using hi1) (by simp;omega)
   rw [List.getElem_append_left (by simpa using him)] at hg
   simp only [akk,Array.getElem_toList] at hg
   refine wV heq kT hC hg h h1 fun a' w' h'=>?_
   refine ih _ _ a' w' (by simp [hl]) (fun j hj hd=>?_) (pX hdn hl hi1 hi3) ?_ h' h2
   ·rcases (Dn.set (by omega)).mp hd with rfl | hd
    ·omega
    ·exact hno j hj hd
   ·have:=oh (l:=l) (i:=i) (by omega) hi2
    omega
theorem VL {id:Nat} (hm:P.follows .mixedOrders = true) (hD:Mw ops pre lY jR rest) (heq:∀ t ∈ X.eqs,lK P t) (kT:iC P Γ) (hC:dN P Γ) (hc:kg P X ops N.ok ops.toList = some (pre.map (·.1) ++ (jR ++ rest))) (h:Ok bn w0 bg N iV σ a w) (hE:Yi Γ pre lY jR rest σ = some σ')
  (hQ:∀ a' w',Ok bn w0 bg N iV σ' a' w' → Q .normal a' w'):(Code.region id ops true).wp P Q a w:=by
 refine wp_region_any hm ?_
 unfold Yi at hE
 split at hE
 ·rename_i hfr
  obtain ⟨s,h1,h2⟩:=zbm hE
  split at h2
  ·rename_i Qq
   obtain ⟨ob,h3,h4⟩:=zbm h2
   obtain ⟨e1,e2,news,e3,e4⟩:=En (Γ:=Γ) (rA:=σ.ob) (pre:=pre) (zT:=σ.tm) pre.length 0 σ.ob s (by omega) (by rw [aj9];exact h1)
   have hall:∀ j,j < pre.length → ∃ pv st,Can Γ σ.ob pre σ.tm j pv st:=fun j hj=>e1 j (by omega) hj
   have ZR:∀ i (h:i < pre.length),gN pre[i].1.i = true → fresh σ (dA (pre[i].1.dst.getD 999)) = true:=by
    intro i hi hN
    have:=ajp.mp hfr pre[i] (List.getElem_mem hi)
    rw [hN] at this
    exact this
   have hoff:∀ i,¬ Dn (Array.replicate ops.size false) i:=by
    intro i hd
    unfold Dn at hd
    rw [ajT,Array.getElem?_replicate] at hd
    split at hd <;> simp at hd
   rw [e2] at Qq h3 h4
   refine VK (fI:=σ) hD heq kT hC hc hQ hall ZR rfl e3 (fun p hp=>?_) Qq h3 h4 ops.size _ σ a _ (by simp) (fun i _=>hoff i) (fun i hi hd=>absurd hd (hoff i)) ?_ ?_ ⟨fun i pv st h hd=>absurd hd (hoff i),fun s _=>rfl,⟨[],rfl,fun p hp=>by simp at hp⟩,fun i pv st h hd=>absurd hd (hoff i),fun i hi hN _=>ZR i hi hN⟩
   ·obtain ⟨j,pv,st,_,_,h5,h6,h7⟩:=e4 p hp
    exact ⟨j,pv,st,h5,h6,h7⟩
   ·unfold left
    exact aju (List.length_filter_le _ _) (by simp)
   ·obtain ⟨Fz,κ,hr,hk⟩:=h
    exact ⟨Fz,κ,hr.grow (w':={ w with drawn:=w.drawn + 1 }) (ajd _) (fun _ _=>rfl) ⟨rfl,rfl⟩,hk⟩
  ·cases h2
 ·cases hE
end
end
section
open Go
def Ext (w w':World):Prop:=w.heap.size ≤ w'.heap.size ∧ ∀ b,b < w.heap.size → w'.heap[b]? = w.heap[b]?
theorem Ext.refl (w:World):Ext w w:=⟨ajd _,fun _ _=>rfl⟩
theorem Ext.trans {w w1 w2:World} (h:Ext w w1) (h':Ext w1 w2):Ext w w2:=⟨aju h.1 h'.1,fun b hb=>(h'.2 b (ajK hb h.1)).trans (h.2 b hb)⟩
theorem Ext.cell {w w':World} (h:Ext w w') {b o:Nat} {v:Value} (hc:w.cell? ⟨b,o,none⟩ = some v):w'.cell? ⟨b,o,none⟩ = some v:=by
 have hb:b < w.heap.size:=by
  apply ajR
  intro hn
  have:w.heap[b]? = none:=akh (by omega)
  simp [World.cell?,this] at hc
 rw [cell_of (h.2 b hb),hc]
section
variable {P : Program} {Γ:Env} {bn Fz:Nat → Prop} {w0 w:World} {bg:List Nat} {N:Fr} {d:Nat} {q:Bool} {κ:Nat → Value} {σ σ':St} {a:Act} {pv:PV} {o:Oper}
theorem p9 {t:TypeId} {g:Bool} {n b o:Nat} {xs:List PL} {vs:List Value} {u:CV} (hg:uP P t = some g) (hn:lJ P t = some n) (hx:aT Fz κ w xs vs) (hc:∀ j v,vs[j]? = some v → w.cell? ⟨b,o + j,none⟩ = some v)
  (hl:vs.length = if g then n else 1) (hm:mk g xs = some u):∃ v,(∀ w',Ext w w' → (loadVar t ⟨b,o,none⟩).run P w' = .ok v w') ∧ fV Fz κ w u v:=by
 unfold loadVar
 cases g with
 | true =>
  cases hm
  refine ⟨.agg vs.toArray,fun w' hw=>?_,vs.toArray,rfl,hx⟩
  have:=vQ (P:=P) (w:=w') b o vs (fun j v h=>hw.cell (hc j v h))
  rw [hl,ai8 rfl] at this
  simp only [Sem.run_bind,mq hg,nT hn,this,Result.andThen_ok,ajH,Sem.run_pure]
 | false =>
  simp only [mk,ajB,ajv] at hm
  split at hm
  ·rename_i x
   cases hm
   cases vs with
   | nil=>exact hx.elim
   | cons v vs =>
    have h1:=hc 0 v rfl
    rw [Nat.add_zero] at h1
    refine ⟨v,fun w' hw=>?_,hx.1⟩
    simp only [Sem.run_bind,mq hg,Result.andThen_ok,ajB,ajv]
    rw [run_load,hw.cell h1]
  ·cases hm
theorem MB (h:Rel bn w0 bg N Fz κ σ a w) {t:TypeId} {x:Operand} {x':dM} {g:Bool} {n:Nat} (hg:uP P t = some g) (hn:lJ P t = some n) (hx:fC x = some x') (hE:bZ Γ q σ d (.load (if g then n else 1) g x') = some (pv,σ')) :
  σ' = σ ∧ ∃ v,(∀ w',Ext w w' → (Instr.loadAt t (a.eval x)).run P w' = .ok v w') ∧ iK Fz κ w pv v:=by
 obtain ⟨v,h1,h2⟩:=zbm hE
 have hv:=h.eval hx h1
 split at h2
 ·rename_i key off
  split at h2
  ·rename_i xs fZ
   obtain ⟨l,h3,h4⟩:=zbm h2
   obtain ⟨u,h5,h6⟩:=zmm h4
   cases h6
   obtain ⟨b,e1,e2⟩:=hv
   obtain ⟨b',cs,e,e3,e4,e5⟩:=h.obj fZ
   rw [e1] at e3
   cases e3
   obtain ⟨e6,e7,e8⟩:=e5.seg h3
   obtain ⟨r,e9,e10⟩:=p9 (P:=P) (b:=b) (o:=off) hg hn e6 (fun j v hj=>by
    have:=kW (w:=w) (b:=b) (o:=0) (off:=off) (vs:=cs.toList) (n:=if g then n else 1) (fun j v hj=>by
     rw [ajD]
     simp only [World.cell?,e4]
     simpa using hj) j v hj
    rwa [ajD] at this) e7 h5
   exact ⟨rfl,r,fun w' hw=>by rw [e2];exact e9 w' hw,e10⟩
  ·cases h2
 ·rename_i cs
  obtain ⟨l,h3,h4⟩:=zbm h2
  obtain ⟨u,h5,h6⟩:=zmm h4
  cases h6
  obtain ⟨b,o,e1,e2,e3⟩:=hv
  obtain ⟨vs,e4,e5⟩:=e3.cells
  obtain ⟨e6,e7,e8⟩:=e4.seg h3
  obtain ⟨r,e9,e10⟩:=p9 (P:=P) (b:=b) (o:=o) hg hn (e6.Yk (κ:=κ)) (fun j v hj=>by
    have:=kW (w:=w) (b:=b) (o:=o) (off:=0) e5 j v hj
    rwa [Nat.add_zero] at this) e7 h5
  exact ⟨rfl,r,fun w' hw=>by rw [e1];exact e9 w' hw,e10⟩
 ·rename_i key z i off
  split at h2
  ·rename_i sz rows fZ
   split at h2
   ·cases h2
   ·rename_i hz
    obtain ⟨rr,h3,h4⟩:=zbm h2
    obtain ⟨l,h5,h6⟩:=zbm h4
    obtain ⟨u,h7,h8⟩:=zmm h6
    cases h8
    obtain ⟨b,n',c,e1,e2⟩:=hv
    obtain ⟨e3,vs,e4,e5⟩:=Im (h.obj fZ) e1 h3
    have hz':sz = z:=ajQ.mp hz
    subst hz'
    obtain ⟨e6,e7,e8⟩:=e4.seg h5
    obtain ⟨r,e9,e10⟩:=p9 (P:=P) (b:=b) (o:=i * sz + off) hg hn (e6.Yk (κ:=κ)) (kW e5) e7 h7
    exact ⟨rfl,r,fun w' hw=>by rw [e2];exact e9 w' hw,e10⟩
  ·cases h2
 ·cases h2
theorem MC (h:Rel bn w0 bg N Fz κ σ a w) {x:Operand} {x':dM} (hx:fC x = some x') (hE:bZ Γ q σ d (.gZ x') = some (pv,σ')) (ho:o.op = .nilCheck x) :
  σ' = σ ∧ ∃ v,(∀ w',(execOp a.eval o).run P w' = .ok (.value v) w') ∧ iK Fz κ w pv v:=by
 obtain ⟨v,h1,h2⟩:=zbm hE
 have hv:=h.eval hx h1
 have key:∀ ad,a.eval x = .pointer (some ad) → σ' = σ → pv = .c v → σ' = σ ∧ ∃ v,(∀ w',(execOp a.eval o).run P w' = .ok (.value v) w') ∧ iK Fz κ w pv v:=by
  intro ad he e1 e2
  subst e1 e2
  refine ⟨rfl,.pointer (some ad),fun w'=>?_,by rw [← he];exact hv⟩
  unfold execOp
  simp only [ho,he]
  rfl
 split at h2
 ·cases h2;obtain ⟨b,_,e⟩:=hv;exact key _ e rfl rfl
 ·cases h2;obtain ⟨b,_,e,_⟩:=hv;exact key _ e rfl rfl
 ·cases h2;obtain ⟨b,_,_,_,e⟩:=hv;exact key _ e rfl rfl
 ·cases h2
theorem VN (h:Rel bn w0 bg N Fz κ σ a w) {op:BinOp} {c:Ar} {t:TypeId} {x y:Operand} {x' y':dM} (ho:Yj op = some c) (hx:fC x = some x') (hy:fC y = some y') (hE:bZ Γ q σ d (.ar c x' y') = some (pv,σ')) :
  σ' = σ ∧ ∃ v,(∀ w',(do eqGuard op t x y (a.eval x) (a.eval y);binOp op t (a.eval x) (a.eval y):Sem Value).run P w' = .ok v w') ∧ iK Fz κ w pv v:=by
 obtain ⟨u,h1,h2⟩:=zbm hE
 obtain ⟨v,h3,h4⟩:=zbm h2
 obtain ⟨m,h5,h6⟩:=zbm h4
 obtain ⟨n,h7,h8⟩:=zbm h6
 split at h8
 ·rename_i hk
  obtain ⟨r,h9,h10⟩:=zbm h8
  cases h10
  have e1:=iD h5 (h.eval hx h1)
  have e2:=iD h7 (h.eval hy h3)
  obtain ⟨k,m⟩:=m
  obtain ⟨k',n⟩:=n
  simp only at hk e1 e2 h9
  subst hk
  refine ⟨rfl,.int k r,fun w'=>?_,rfl⟩
  rw [e1,e2]
  exact j4 nS (Al ho h9)
 ·cases h8
theorem VO (h:Rel bn w0 bg N Fz κ σ a w) {t e:TypeId} {sz:Nat} {x y:Operand} {x' y':dM} (hu:TG P t = some e) (hn:lJ P e = some sz) (hx:fC x = some x') (hy:fC y = some y') (hE:bZ Γ q σ d (.ia sz x' y') = some (pv,σ')) :
  σ' = σ ∧ ∃ v,(∀ w',(Instr.indexAt t (a.eval x) (a.eval y)).run P w' = .ok v w') ∧ iK Fz κ w pv v:=by
 obtain ⟨v,h1,h2⟩:=zbm hE
 obtain ⟨j,h3,h4⟩:=zbm h2
 obtain ⟨p,h5,h6⟩:=zbm h4
 have hv:=h.eval hx h1
 have hj:=iD h5 (h.eval hy h3)
 have run:∀ b o len c,a.eval x = .slice (some ⟨b,o,none⟩) len c → 0 ≤ p.2 → p.2 < len → ∀ w',(Instr.indexAt t (a.eval x) (a.eval y)).run P w' = .ok (.pointer (some ⟨b,o + p.2.toNat * sz,none⟩)) w':=by
  intro b o len c he h0 hl w'
  rw [he,hj]
  unfold Instr.indexAt
  simp only [Sem.run_bind,iX,run_underlying (uR hu),Result.andThen_ok,Sem.run_pure]
  simp only [ai8 (And.intro h0 hl),Sem.run_bind,nT hn,Result.andThen_ok,Sem.run_pure,mK]
 split at h6
 ·rename_i h0
  split at h6
  ·rename_i rows
   obtain ⟨r,h7,h8⟩:=zbm h6
   split at h8
   ·rename_i hl
    cases h8
    simp only [fV,eB,eY] at hv
    obtain ⟨A,c,e1,e2,e3,e4⟩:=hv
    rcases e4 with e4 | ⟨b,o,sz',rfl,e5,e6⟩
    ·subst e4;simp at h7
    ·obtain ⟨e7,e8⟩:=e6.get h7
     have hlt:p.2.toNat < rows.length:=(aj1.mp h7).1
     have:sz' = sz:=by omega
     subst this
     exact ⟨rfl,_,run b o _ c e1 h0 (by omega),b,_,rfl,e5,e8⟩
   ·cases h8
  ·rename_i key n
   split at h6
   ·rename_i sz' rows fZ
    split at h6
    ·rename_i hc
     cases h6
     obtain ⟨e1,A,c,e2⟩:=hv
     obtain ⟨h00,e,inner,A',c',e3,e4,e5⟩:=h.obj fZ
     obtain ⟨e6,e7⟩:=e4
     rcases e7 with ⟨e7,e8⟩ | ⟨g,cap,cur,e7,e8⟩
     ·exfalso
      rw [hc.2.2,e8] at hc
      have:=hc.2.1
      omega
     ·rw [e2] at e1
      rw [e7] at e1
      injection e1 with e9 e10 e11
      subst e9
      refine ⟨rfl,_,run g 0 n c e2 h0 hc.2.1,g,_,_,e7,?_⟩
      simp
    ·cases h6
   ·cases h6
  ·cases h6
 ·cases h6
end
section
variable {P : Program} {ops:Array Oper} {Q:Exit → Act → World → Prop} {M:Nat → Bool} {S:World → Prop}
def VP (P:Program) (ops:Array Oper) (Q:Exit → Act → World → Prop) (M:Nat → Bool) (S:World → Prop):Nat → Array Bool → Act → World → Prop
 | 0,l,a,w=>Region.ready .any ops l = [] ∧ Q .normal a w
 | n + 1,l,a,w=>(Region.ready .any ops l = [] → Q .normal a w) ∧ ∀ i ∈ Region.ready .any ops l,wpOp P ops Q i (fun a' w'=>(M i = true → S w → S w') ∧ VP P ops Q M S n (l.setIfInBounds i true) a' w') a w
theorem IL : ∀ (n:Nat) (l:Array Bool) (a:Act) (w:World),VP P ops Q M S n l a w → wpAny P .any ops Q n l a w
 | 0,_,_,_,h=>h
 | n + 1,_,_,_,h=>⟨h.1,fun i hi=>wpOp_mono (fun a' w' h'=>IL n _ a' w' h'.2) (h.2 i hi)⟩
theorem J7 {i:Nat} {oi:Oper} {v:Value} (hi:ops[i]? = some oi) (hsel:∀ (j:Nat) (o:Oper) cs b,ops[j]? = some o → o.op ≠ .select cs b) (hQ:∀ c a w,¬ Q (.panic c) a w)
  (hM:∀ l j,l.size = ops.size → Down ops l → j ∈ Region.ready .any ops l → ¬ Dn l i → j ≠ i → M j = true) :
  ∀ (n:Nat) (l:Array Bool) (a:Act) (w:World),l.size = ops.size → Down ops l → (∀ j oj,ops[j]? = some oj → j ≠ i → l.getD j true = false → (∀ e ∈ oj.after,Region.binds .any e = true → e.on ≠ i) → oi.apart ops oj = true) →
   i ∈ Region.ready .any ops l → YieldsIf P ops S oi v a → S w → VP P ops Q M S n (l.setIfInBounds i true) (a.put oi.dst v) w → VP P ops Q M S (n + 1) l a w:=by
 intro n
 induction n with
 | zero =>
  intro l a w _ _ _ hr hy hS H
  refine ⟨fun h=>(by rw [h] at hr;cases hr),fun j hj=>?_⟩
  by_cases hji:j = i
  ·subst hji;exact hy.wpOp hi hS ⟨fun _ _=>hS,H⟩
  ·have:=ready_mono hj hji
   rw [H.1] at this
   cases this
 | succ n ih =>
  intro l a w hl hdn hfree hr hy hS H
  refine ⟨fun h=>(by rw [h] at hr;cases hr),fun j hj=>?_⟩
  by_cases hji:j = i
  ·subst hji;exact hy.wpOp hi hS ⟨fun _ _=>hS,H⟩
  ·have h1:=H.2 j (ready_mono hj hji)
   obtain ⟨hjun,oj,hoj,hall⟩:=mem_ready.1 hj
   have hnot:∀ e ∈ oj.after,Region.binds .any e = true → e.on ≠ i:=fun e he hb heq=>by
    have h1:=hall e he hb
    have h0:=(mem_ready.1 hr).1
    rw [heq] at h1
    rcases ako i l.size with h' | h'
    ·simp [h'] at h0 h1;rw [h0] at h1;cases h1
    ·simp [akh h'] at h1
   have hap:=hfree j oj hoj hji hjun hnot
   obtain ⟨hj1,hj2,hj3⟩:=(gu hl).mp hj
   have hMj:=hM l j hl hdn hj ((gu hl).mp hr).2.1 hji
   have h2:=wpOp_putIf hoj hap (fun cs b=>hsel i oi cs b hi) (fun cs b=>hsel j oj cs b hoj) (fun c a w h=>absurd h (hQ _ _ _)) hy h1
   have hfree':∀ k ok,ops[k]? = some ok → k ≠ i → (l.setIfInBounds j true).getD k true = false → (∀ e ∈ ok.after,Region.binds .any e = true → e.on ≠ i) → oi.apart ops ok = true:=fun k ok hk hki hun hno=>by
    refine hfree k ok hk hki ?_ hno
    by_cases hjk:j = k
    ·subst hjk;exact hjun
    ·rw [getD_set_ne true hjk] at hun;exact hun
   refine wpOp_mono (fun a' w' h3=>⟨fun _ _=>h3.2.1 hMj hS,ih (l.setIfInBounds j true) a' w' (by simp [hl]) (pX hdn hl hj1 hj3) hfree' (ready_mono hr (Ne.symm hji)) h3.1 (h3.2.1 hMj hS) ?_⟩) h2
   rw [Array.setIfInBounds_comm _ _ hji]
   exact h3.2.2
theorem Gu {i:Nat} {o:Oper} {e:TypeId} {z:List PL} (hi:ops[i]? = some o) (ho:o.op = .alloc e) (hz:Ai P e = some z) {w1:World} {K:Act → World → Prop} {a:Act} {w:World} (h:wpOp P ops Q i K a w) :
  wpOp P ops Q i (fun a' w'=>(Ext w1 w → Ext w1 w') ∧ K a' w') a w:=by
 unfold wpOp at *
 simp only [hi] at *
 split
 ·rename_i hw
  rw [ai8 hw] at h
  rcases h with h | h
  ·refine .inl ?_
   unfold Oper.wp at *
   have hr:∃ v x,(execOp a.eval o).run P w = .ok (.value v) (w.alloc x):=by
    obtain ⟨i,h3,h4⟩:=zbm hz
    obtain ⟨zv,h5,h6⟩:=zbm h4
    unfold execOp
    simp only [ho]
    unfold Instr.alloc
    simp only [Sem.run_bind,zeroValue,typeInfo]
    simp [h3,h5,newVar,newRow]
    exact ⟨_,rfl⟩
   obtain ⟨v,x,hr⟩:=hr
   rw [hr] at h ⊢
   simp only [Oper.upon] at h ⊢
   obtain ⟨_,g1,g2⟩:=mD w x
   exact ⟨fun hx=>hx.trans ⟨by omega,g1⟩,h⟩
  ·exact .inr h
 ·rename_i hw
  rw [ai9 hw] at h
  exact ⟨id,h⟩
end
end
section
open Go
def jL : List (List Nat) → List (List Nat) → List (List Nat)
 | acc,[]=>acc
 | acc,es :: l=>jL (acc ++ [(List.range acc.length).filter fun x=>es.any fun e=>e == x || (acc.getD e []).contains x]) l
def Cz : List G → Nat
 | []=>0
 | g :: l=>if Ql g.i || (gN g.i && g.gd.isNone) then Cz l + 1 else 0
def VQ {α:Type} (n:Nat) (k:Nat → α):α:=match n with
 | 0=>k 0
 | j + 1=>k (j + 1)
theorem Gv {α:Type} {n:Nat} {k:Nat → α}:VQ n k = k n:=by cases n <;> rfl
def ZT : Nat → List (List Nat) → Nat
 | i,[]=>i
 | i,es :: l=>VQ (ZT (i + 1) l) fun r=>if r == i + 1 && es.length == i then i else r
def ZU (C:List (List Nat)) (gs:List G):Nat:=min (Cz gs) (ZT 0 C)
def ME (gs:List G) (C:List (List Nat)) (m j:Nat):List Nat:=((List.range m).filter fun i=>i != j && gN (gs.getD i default).i && !(C.getD j []).contains i).map fun i=>dA ((gs.getD i default).dst.getD 999)
def TM : List G → Nat
 | []=>0
 | g :: l=>if isLt g then TM l + 1 else 0
def ZV (C:List (List Nat)) (m nl:Nat):List Nat:=(List.range m).filter fun j=>(List.range nl).any fun t=>!(C.getD (m + t) []).contains j
def aeZ (lY:List Nat) (n:Nat):Nat:=if lY.isEmpty then 0 else n
def VR (E C:List (List Nat)) (gs:List G) (n m:Nat) (lY:List Nat) (nl:Nat):Bool :=
 (List.range n).all (fun i=>(E.getD i []).all (· < i)) &&
 (List.range m).all (fun i=>(rd (gs.getD i default)).all fun s=>(List.range m).all fun j=>!((gs.getD j default).dst == some s) || (E.getD i []).contains j) &&
 (List.range m).all (fun i=>(List.range m).all fun j=>i == j || (gs.getD i default).dst.isNone || !((gs.getD i default).dst == (gs.getD j default).dst)) &&
 (List.range m).all (fun i=>Ql (gs.getD i default).i || (gN (gs.getD i default).i && (gs.getD i default).gd.isNone)) &&
 (List.range n).all (fun k=>k < m || (List.range k).all fun j=>(C.getD k []).contains j || (j < m && lY.contains j && k < m + nl)) &&
 lY.all (fun j=>Ql (gs.getD j default).i) &&
 ((gs.drop m).take nl).all isLt &&
 (List.range nl).all (fun t=>(rd (gs.getD (m + t) default)).all fun s=>(List.range m).all fun j=>!((gs.getD j default).dst == some s) || (E.getD (m + t) []).contains j)
structure Hi where
 ks:List Nat
 BO:List Nat
 rws:List (Nat × Nat)
def ZW (k:Array Bool → Option (List (List Nat))) (l:Array Bool):List Nat → Option (List (List Nat))
 | []=>some []
 | i :: is=>(k (l.setIfInBounds i true)).bind fun a=>(ZW k l is).map fun b=>a.map (i :: ·) ++ b
def MF (ops:Array Oper) (i:Nat):Bool:=match ops[i]? with
 | some o=>(match o.op with
  | .move _=>true
  | .assign _=>true
  | .fieldAddr _ _ _=>true
  | .build _ _=>true
  | .extract _ _=>true
  | _=>false)
 | none=>false
def exts (ops:Array Oper):Nat → Array Bool → Option (List (List Nat))
 | 0,l=>if Region.ready .any ops l = [] then some [[]] else none
 | n + 1,l=>match Region.ready .any ops l with
  | []=>some [[]]
  | i :: is=>match (i :: is).find? (fun j=>MF ops j && Region.free .any ops l j) with
   | some j=>(exts ops n (l.setIfInBounds j true)).map fun a=>a.map (j :: ·)
   | none=>ZW (exts ops n) l (i :: is)
def ZX : Nat → List Nat → Nat
 | i,[]=>i
 | i,j :: l=>if i == j then ZX (i + 1) l else i
def Es (C:List (List Nat)):Nat → Nat → Nat
 | 0,_=>C.length
 | n + 1,k=>VQ (Es C n (k + 1)) fun r=>VQ (ZX 0 (C.getD k [])) fun p=>if p < k then min p r else r
def IQ (E C:List (List Nat)) (n h:Nat):Bool:=(List.range n).all (fun i=>(E.getD i []).all (· < i)) && (List.range n).all fun k=>(C.getD k []).take (min k h) == List.range (min k h)
def mask (h n:Nat):Array Bool:=(List.replicate h true ++ List.replicate (n - h) false).toArray
def MG (ops:Array Oper):Option (List (List Nat)) :=
 let E:=ops.toList.map iW
 let C:=jL [] E
 VQ (Es C ops.size 0) fun h=>if h ≤ ops.size ∧ IQ E C ops.size h = true then (exts ops (ops.size - h) (mask h ops.size)).map fun a=>a.map (List.range h ++ ·) else none
def Qr (ops:Array Oper) (i:Nat):Bool:=MF ops i || match ops[i]? with
 | some o=>(match o.op with
  | .load _ _=>true
  | .nilCheck _=>true
  | .binOp .sub _ _ _ _=>true
  | .indexAddr _ _ (.tmp _)=>true
  | _=>false)
 | none=>false
def Gw (ops:Array Oper) (i:Nat):Bool:=match ops[i]? with
 | some o=>(match o.op with
  | .alloc _=>true
  | _=>false)
 | none=>false
def MH (ops:Array Oper):Nat → Nat → Nat
 | 0,i=>i
 | n + 1,i=>if Qr ops i then MH ops n (i + 1) else i
def Gx (E C:List (List Nat)) (ops:Array Oper) (h:Nat):Bool:=(List.range ops.size).all (fun i=>(E.getD i []).all (· < i)) && ((List.range h).all (fun i=>Qr ops i && Region.free .any ops (mask i ops.size) i) && (List.range ops.size).all fun k=>decide (k < h) || Gw ops k || (C.getD k []).take h == List.range h)
def MI (ops:Array Oper):Option (List (List Nat)) :=
 let E:=ops.toList.map iW
 let C:=jL [] E
 VQ (MH ops ops.size 0) fun h=>if h ≤ ops.size ∧ Gx E C ops h = true then (exts ops (ops.size - h) (mask h ops.size)).map fun a=>a.map (List.range h ++ ·) else none
def ZY (P:Program) (X:Hx) (N:Nat → Bool) (ops:Array Oper) (draw:Bool) (ks BO:List Nat):Option CC :=
 (kg P X ops N ops.toList).bind fun gs=>match draw with
  | false=>some (.reg gs ks)
  | true=>match BO with
   | 0 :: _=>if Region.noSelect ops then (MI ops).map fun o=>.any gs o ks BO else none
   | _ :: _=>if Region.noSelect ops then (MG ops).map fun o=>.any gs o ks BO else none
   | [] =>
   let E:=ops.toList.map iW
   let C:=jL [] E
   VQ (ZU C gs) fun m =>
   let nl0:=TM (gs.drop m)
   let lY:=ZV C m nl0
   let nl:=aeZ lY nl0
   if VR E C gs ops.size m lY nl then some (.sD ((List.range m).map fun j=>(gs.getD j default,ME gs C m j)) lY ((gs.drop m).take nl) ((gs.drop m).drop nl) ks) else none
def comp (P:Program) (X:Hx) (N:Nat → Bool):Code → List Hi → Option (CC × List Hi)
 | .skip,h=>some (.skip,h)
 | .region _ ops draw,h=>match h with
  | []=>none
  | k :: h=>(ZY P X N ops draw k.ks k.BO).map fun c=>(c,h)
 | .seq x y,h=>(comp P X N x h).bind fun p=>(comp P X N y p.2).map fun r=>(.seq p.1 r.1,r.2)
 | .cond c x y,h=>(fC c).bind fun o=>(comp P X N x h).bind fun p=>(comp P X N y p.2).map fun r=>(.cond o p.1 r.1,r.2)
 | .block id c,h=>(comp P X N c h).map fun p=>(.block id p.1,p.2)
 | .loop c,h=>match h with
  | []=>none
  | k :: h=>(comp P X N c h).map fun p=>(.loop k.ks k.BO k.rws p.1,p.2)
 | .exit id,h=>some (.exit id,h)
 | .ret,h=>some (.ret,h)
 | .scope c,h=>comp P X N c h
 | .label _,h=>some (.skip,h)
 | _,_=>none
section
variable {P : Program} {Γ:Env} {bn:Nat → Prop} {w0 w w':World} {bg:List Nat} {N:Fr} {F:Nat} {iV:Nat → Value} {σ fI σ':St} {a:Act} {X:Hx} {ops:Array Oper} {gs:List G} {Q:Exit → Act → World → Prop}
theorem yh : ∀ (l acc:List (List Nat)),(∀ j,∀ x ∈ acc.getD j [],J6 ops x j) → (∀ k,k < l.length → ∃ h:acc.length + k < ops.size,l[k]? = some (iW ops[acc.length + k])) → ∀ j,∀ x ∈ (jL acc l).getD j [],J6 ops x j
 | [],acc,h,_=>h
 | es :: l,acc,h,hl=>by
  unfold jL
  obtain ⟨h0,h1⟩:=hl 0 (by simp)
  simp only [List.getElem?_cons_zero,ajl,Nat.add_zero] at h1
  refine yh l _ (fun j x hx=>?_) (fun k hk=>?_)
  ·rw [ajy,akS] at hx
   split at hx
   ·rename_i hj
    exact h j x (by rw [ajy];exact hx)
   ·by_cases hj:j - acc.length = 0
    ·have hje:j = acc.length:=by omega
     subst hje
     simp only [Nat.sub_self,List.getElem?_cons_zero,Option.getD_some] at hx
     obtain ⟨_,hx⟩:=akB.mp hx
     obtain ⟨e,he,hor⟩:=aj8.mp hx
     rw [h1] at he
     rw [aj4] at hor
     rcases hor with hor | hor
     ·have:e = x:=by simpa using hor
      subst this
      exact .dir h0 he
     ·exact .step h0 he (h e x (by simpa using hor))
    ·rw [akx (by simp;omega)] at hx
     simp at hx
  ·obtain ⟨h2,h3⟩:=hl (k + 1) (by simpa using hk)
   simp only [ajh,List.length_cons,List.length_nil]
   refine ⟨by omega,?_⟩
   simp only [List.getElem?_cons_succ] at h3
   rw [h3]
   congr 3
   omega
theorem AA : ∀ (gs:List G),Cz gs ≤ gs.length
 | []=>ajd _
 | g :: l=>by
  unfold Cz
  have:=AA l
  split <;> simp <;> omega
theorem Qs (C:List (List Nat)) (gs:List G):ZU C gs ≤ gs.length:=by
 exact aju (Nat.min_le_left _ _) (AA gs)
theorem J8 {lY:List Nat} {nl m:Nat} (hm:m ≤ gs.length) (h:kg P X ops N.ok ops.toList = some gs) (hb:VR (ops.toList.map iW) (jL [] (ops.toList.map iW)) gs ops.size m lY nl = true) :
  Mw ops ((List.range m).map fun j=>(gs.getD j default,ME gs (jL [] (ops.toList.map iW)) m j)) lY ((gs.drop m).take nl) ((gs.drop m).drop nl) ∧
  ((List.range m).map fun j=>(gs.getD j default,ME gs (jL [] (ops.toList.map iW)) m j)).map (·.1) ++ ((gs.drop m).take nl ++ (gs.drop m).drop nl) = gs:=by
 obtain ⟨hlen,_⟩:=iY h
 rw [Array.length_toList] at hlen
 unfold VR at hb
 simp only [ajg] at hb
 obtain ⟨⟨⟨⟨⟨⟨⟨b1,b2⟩,b3⟩,b4⟩,b5⟩,b6⟩,b7⟩,b8⟩:=hb
 have hE:∀ i (hi:i < ops.size),(ops.toList.map iW).getD i [] = iW ops[i]:=by
  intro i hi
  rw [ajy,ajf,akm,ajF hi]
  rfl
 have hC:∀ j,∀ x ∈ (jL [] (ops.toList.map iW)).getD j [],J6 ops x j:=yh _ _ (fun j x hx=>by simp at hx) (fun k hk=>by
  have hk':k < ops.size:=by simpa using hk
  refine ⟨by simpa using hk',?_⟩
  rw [ajf,akm,ajF hk']
  simp)
 refine ⟨⟨?_,fun i hi e he=>?_,fun i hi hi' s hs j hj hjs=>?_,fun i j hi hj hne s h1 h2=>?_,fun i hi=>?_,fun i j hi hj hne hN=>?_,fun k h1 h2 j hj=>?_,fun j hj h=>?_,fun g hg=>ajp.mp b7 g hg,fun t ht ht' s hs j hj hjs=>?_⟩,?_⟩
 ·simp only [ajb,aky,ajA,ajq]
  omega
 ·have:=ajp.mp b1 i (ajL.mpr hi)
  rw [hE i hi] at this
  have:=ajp.mp this e he
  simpa using this
 ·simp only [ajb,aky] at hi hj
  simp only [akk,akO] at hs hjs
  have:=ajp.mp b2 i (ajL.mpr hi)
  have:=ajp.mp this s hs
  have:=ajp.mp this j (ajL.mpr hj)
  rw [hjs,hE i hi'] at this
  simpa using this
 ·simp only [ajb,aky] at hi hj
  simp only [akk,akO] at h1 h2
  have:=ajp.mp b3 i (ajL.mpr hi)
  have:=ajp.mp this j (ajL.mpr hj)
  rw [h1,h2] at this
  simp [hne] at this
 ·simp only [ajb,aky] at hi
  have:=ajp.mp b4 i (ajL.mpr hi)
  simp only [akk,akO]
  rw [aj4,ajg] at this
  rcases this with h | h
  ·exact .inl h
  ·exact .inr ⟨h.1,by simpa using h.2⟩
 ·simp only [ajb,aky] at hi hj
  simp only [akk,akO] at hN ⊢
  cases hcc:((jL [] (ops.toList.map iW)).getD j []).contains i with
  | true=>exact .inr (hC j i (by simpa using hcc))
  | false =>
   left
   unfold ME
   refine ajx.mpr ⟨i,akB.mpr ⟨ajL.mpr hi,?_⟩,rfl⟩
   rw [hN,hcc]
   simp [hne]
 ·simp only [ajb,aky] at h1 ⊢
  have:=ajp.mp b5 k (ajL.mpr h2)
  rw [aj4] at this
  rcases this with h | h
  ·have:k < m:=by simpa using h
   omega
  ·have:=ajp.mp h j (ajL.mpr hj)
   rw [aj4,ajg,ajg] at this
   rcases this with h | ⟨⟨g1,g2⟩,g3⟩
   ·exact .inl (hC k j (by simpa using h))
   ·refine .inr ⟨by simpa using g1,by simpa using g2,?_⟩
    have g3':k < m + nl:=by simpa using g3
    simp only [ajq,ajA]
    omega
 ·simp only [ajb,aky] at h
  simp only [akk,akO]
  exact ajp.mp b6 j hj
 ·simp only [ajb,aky] at hj ht' ⊢
  simp only [ajq,ajA] at ht
  simp only [akk,akO] at hjs
  have h1:=ajp.mp b8 t (ajL.mpr (by omega))
  have hgt:((gs.drop m).take nl)[t]'(by simp only [ajq,ajA];omega) = gs.getD (m + t) default:=by
   rw [List.getElem_take,List.getElem_drop,ajy,ajo (by omega)]
   rfl
  rw [hgt] at hs
  have h2:=ajp.mp h1 s hs
  have h3:=ajp.mp h2 j (ajL.mpr hj)
  rw [hjs,hE _ ht'] at h3
  simpa using h3
 ·rw [aku]
  have:((List.range m).map ((fun x:G × List Nat=>x.1) ∘ fun j=>(gs.getD j default,ME gs (jL [] (ops.toList.map iW)) m j))) = gs.take m:=by
   refine List.ext_getElem (by simp;omega) fun i h1 h2=>?_
   simp only [ajb,aky] at h1
   simp only [akk,akO,Function.comp,List.getElem_take]
   rw [ajy,ajo (by omega)]
   rfl
  rw [this,akV,akV]
def CB : Out → Exit
 | .jg=>.normal
 | .ext id=>.exit id
 | .ret=>.ret
theorem Rel.put' {Fz:Nat → Prop} {κ:Nat → Value} (h:Rel bn w0 bg N Fz κ σ a w) {d:Nat} {pv:PV} (hv:iK Fz κ w pv (a.tmps.getD d undef)):Rel bn w0 bg N Fz κ ⟨Ev.put σ.tm d pv,σ.ob⟩ a w where
 tm:=fun p hp=>by
  rcases iH hp with rfl | ⟨hp,_⟩
  ·exact hv
  ·exact h.tm p hp
 sz:=h.sz
 mh:=h.mh
 fs:=h.fs
 ob:=h.ob
 uO:=h.uO
 pos:=h.pos
 fz:=h.fz
 zJ:=h.zJ
 big:=h.big
 ext:=h.ext
 kp:=h.kp
theorem Ok.keep (h:Ok bn w0 bg N iV σ a w) (ks:List Nat):Ok bn w0 bg N iV ⟨pick ks σ.tm,σ.ob⟩ a w:=h.less (fun _ hp=>kK hp) (fun _ hp=>hp)
theorem Ok.jg : ∀ (l:List (Nat × Nat)) {σ:St},Ok bn w0 bg N iV σ a w → Ok bn w0 bg N iV (Ev.jg σ l) a w
 | [],σ,h=>h
 | (s,sz) :: l,σ,h=>by
  unfold Ev.jg
  split
  ·rename_i hg
   split
   ·exact Ok.jg l h
   ·rename_i hz
    split
    ·rename_i t hn
     refine Ok.jg l ?_
     obtain ⟨Fz,κ,hr,hk⟩:=h
     have hv:a.tmps.getD s undef = .slice none 0 0:=hr.val hg
     have hnew:=hr.new (w':=w) (v:=.slice none 0 0) hn (ajd _) (fun _ _=>rfl) (fun b hb=>by cases hb) ⟨rfl,rfl⟩ ⟨by omega,0,[],none,0,by rw [bO];rfl,by rw [bO];exact World.ownsRow_nil w _ _ _,rfl⟩
     refine ⟨Fz,pJ κ (dA s) (.slice none 0 0),hnew.put' ⟨?_,none,0,hv⟩,fun k hk'=>?_⟩
     ·rw [bO];exact hv
     ·rw [eF (fun e=>by unfold dA at e;omega)];exact hk k hk'
    ·exact Ok.jg l h
  ·exact Ok.jg l h
theorem Ok.res (h:Ok bn w0 bg N iV σ a w) (ks os:List Nat) (rws:List (Nat × Nat)):Ok bn w0 bg N iV (Ev.res ks os rws σ) a w :=
 (Ok.jg rws h).less (fun _ hp=>kK hp) (fun _ hp=>kK hp)
theorem qD : ∀ (n:Nat) (l:Array Bool),exts ops n l ≠ some []
 | 0,l,h=>by unfold exts at h;split at h <;> simp at h
 | n + 1,l,h=>by
  unfold exts at h
  split at h
  ·simp at h
  ·split at h
   ·obtain ⟨A,h1,h2⟩:=zmm h
    have:A = []:=by
     cases A with
     | nil=>rfl
     | cons _ _=>simp at h2
    subst this
    exact qD n _ h1
   ·obtain ⟨A,h1,h2⟩:=zbm h
    obtain ⟨B,_,h3⟩:=zmm h2
    have:A = []:=by
     cases A with
     | nil=>rfl
     | cons _ _=>simp at h3
    subst this
    exact qD n _ h1
theorem kV.app {ks mF:List Nat} {r:St}:∀ {A B:List (List Nat)},kV Γ gs ks mF σ r (A ++ B) → kV Γ gs ks mF σ r A ∧ kV Γ gs ks mF σ r B
 | [],_,h=>⟨trivial,h⟩
 | _ :: A,_,h=>⟨⟨h.1,(kV.app (A:=A) h.2).1⟩,(kV.app (A:=A) h.2).2⟩
theorem kV.step {ks mF:List Nat} {r:St} {i:Nat}:∀ {A:List (List Nat)},kV Γ gs ks mF σ r (A.map (i :: ·)) → A ≠ [] → ∃ s,PE Γ false σ (gs.getD i default) = some s ∧ kV Γ gs ks mF s r A
 | [],_,h=>absurd rfl h
 | x :: A,h,_=>by
  obtain ⟨⟨s,h1,h2⟩,h3⟩:=h
  obtain ⟨s1,h4,h5⟩:=zbm h1
  refine ⟨s1,h4,⟨s,h5,h2⟩,?_⟩
  by_cases hA:A = []
  ·subst hA;trivial
  ·obtain ⟨s2,g1,g2⟩:=kV.step h3 hA
   rw [h4] at g1;cases g1
   exact g2
theorem J9 {Fz:Nat → Prop} {κ:Nat → Value} (h:Rel bn w0 bg N Fz κ σ a w) {t:TypeId} {ps:Array (Nat × Operand)} {z:List PL} {l:List (Nat × Nat × dM)} {d:Nat} {p:PV × St} (hz:Ai P t = some z) (hp:(∃ fs,P.underlying t = some (.struct fs) ∧ fs.toList.all (fun (f:Field)=>(lJ P f.type).isSome) = true ∧ parts P fs ps.toList = some l) ∨ ∃ n e sz,P.underlying t = some (.array n e) ∧ lJ P e = some sz ∧ oK sz ps.toList = some l) (hE:bZ Γ false σ d (.build z l) = some p) :
  p.2 = σ ∧ ∃ v,(∀ w',(Instr.build t (ps.map fun (i,x)=>(i,a.eval x))).run P w' = .ok v w') ∧ iK Fz κ w p.1 v:=by
 obtain ⟨vs,h1,h2⟩:=zbm hE
 obtain ⟨z',h3,h4⟩:=zmm h2
 cases h4
 obtain ⟨i,zv,e1,e2,e3⟩:=uS (Fz:=Fz) (κ:=κ) (w:=w) hz
 refine ⟨rfl,?_⟩
 rcases hp with ⟨fs,hu,hall,hp⟩ | ⟨n,e,sz,hu,hn,hp⟩
 ·have hpl:∃ places:List (Nat × Nat),fs.toList.mapM (fun (f:Field)=>(P.info? f.type).map fun i=>(f.offset,i.size)) = some places ∧ ∀ i:Nat,places.toArray[i]? = (fs[i]?.bind fun (f:Field)=>(lJ P f.type).map fun n=>(f.offset,n)):=by
   have key:∀ (l:List Field),l.all (fun (f:Field)=>(lJ P f.type).isSome) = true → ∃ places:List (Nat × Nat),l.mapM (fun (f:Field)=>(P.info? f.type).map fun i=>(f.offset,i.size)) = some places ∧ ∀ i:Nat,places[i]? = (l[i]?.bind fun (f:Field)=>(lJ P f.type).map fun n=>(f.offset,n)):=by
    intro l
    induction l with
    | nil=>intro _;exact ⟨[],rfl,fun i=>by simp⟩
    | cons f l ih =>
     intro ha
     simp only [List.all_cons,ajg] at ha
     obtain ⟨pl,e1,e2⟩:=ih ha.2
     obtain ⟨n,hn⟩:=akw.mp ha.1
     obtain ⟨inf,hi,hs⟩:=zmm hn
     refine ⟨(f.offset,n) :: pl,by simp [List.mapM_cons,hi,hs,e1],fun i=>?_⟩
     cases i with
     | zero=>simp [hn]
     | succ i=>simpa using e2 i
   obtain ⟨pl,e1,e2⟩:=key fs.toList hall
   exact ⟨pl,e1,fun i=>by have:=e2 i;simpa using this⟩
  obtain ⟨places,e4,e5⟩:=hpl
  obtain ⟨cs',e6,e7,_⟩:=nI h (place:=(places.toArray[·]?)) (ps:=ps.toList) (cs:=zv.cells) (fun _=>trivial) (by
   refine (xR hp).imp fun {p r} hpr=>⟨?_,hpr.2⟩
   rw [e5];exact hpr.1) h1 h3 e3
  refine ⟨.agg cs',fun w'=>run_build w' t _ cs' ?_,cs',rfl,e7⟩
  unfold Program.built
  rw [e1,hu]
  simp only [e2,e4]
  rw [akn]
  exact e6
 ·obtain ⟨ie,g1,g2⟩:=zmm hn
  obtain ⟨cs',e6,e7,_⟩:=nI h (place:=fun i=>some (i * sz,sz)) (ps:=ps.toList) (cs:=zv.cells) (fun _=>trivial) (qB hp) h1 h3 e3
  refine ⟨.agg cs',fun w'=>run_build w' t _ cs' ?_,cs',rfl,e7⟩
  unfold Program.built
  rw [e1,hu]
  simp only [e2,g1]
  rw [akn,g2]
  exact e6
theorem Qt {Fz:Nat → Prop} {κ:Nat → Value} (h:Rel bn w0 bg N Fz κ σ a w) {x:Operand} {x':dM} {i d:Nat} {p:PV × St} (hx:fC x = some x') (hE:bZ Γ false σ d (.ext x' i) = some p) :
  p.2 = σ ∧ ∃ v,(∀ w',(Instr.extract (a.eval x) i).run P w' = .ok v w') ∧ iK Fz κ w p.1 v:=by
 simp only [bZ] at hE
 split at hE
 ·rename_i l hl
  obtain ⟨v,h1,h2⟩:=zmm hE
  cases h2
  obtain ⟨vs,e1,e2⟩:=h.Ik hx hl
  have key:∀ (l:List CV) (us:List Value) (i:Nat) (v:CV),dO Fz κ w l us → l[i]? = some v → ∃ u,us[i]? = some u ∧ fV Fz κ w v u:=by
   intro l
   induction l with
   | nil=>intro us i v _ h;simp at h
   | cons x l ih =>
    intro us i v h h2
    cases us with
    | nil=>exact h.elim
    | cons u us =>
     cases i with
     | zero=>simp at h2;subst h2;exact ⟨u,rfl,h.1⟩
     | succ i=>simp at h2;exact ih us i v h.2 h2
  obtain ⟨u,h3,h4⟩:=key _ _ _ _ e2 h1
  refine ⟨rfl,u,fun w'=>?_,h4⟩
  rw [e1]
  rw [akm] at h3
  simp [Instr.extract,h3]
 ·cases hE
theorem IU {i:Nat} {o:Oper} {g:G} (ho:ops[i]? = some o) (hp:MF ops i = true) (hg:sW P X ops N.ok o = some g) (h:Ok bn w0 bg N iV σ a w) (hE:PE Γ false σ g = some σ'):∃ v,Yields P ops o v a ∧ Ok bn w0 bg N iV σ' (a.put o.dst v) w:=by
 obtain ⟨Fz,κ,hr,hk⟩:=h
 obtain ⟨p,h1,rfl⟩:=zmm hE
 obtain ⟨i',hi,h2⟩:=zbm hg
 split at h2
 ·rename_i hd
  cases h2
  have hput:∀ {pv v},iK Fz κ w pv v → Ok bn w0 bg N iV (qU σ o.dst pv) (a.put o.dst v) w:=by
   intro pv v hv
   refine ⟨Fz,κ,?_,hk⟩
   cases hdst:o.dst with
   | none=>exact hr.LJ v
   | some d =>
    rw [hdst] at hd
    exact hr.put (by simpa using hd) hv
  obtain ⟨t,h3,h4⟩:=zbm h1
  cases t with
  | false =>
   rw [ai9 (by decide)] at h4
   cases h4
   exact ⟨undef,.inr ⟨El hr h3,rfl⟩,hput rfl⟩
  | true =>
   rw [ai8 rfl] at h4
   have hw:=El hr h3
   unfold MF at hp
   rw [ho] at hp
   simp only at hp
   have mv:∀ x,(o.op = .move x ∨ o.op = .assign x) → ∃ v,Yields P ops o v a ∧ Ok bn w0 bg N iV (qU p.2 o.dst p.1) (a.put o.dst v) w:=by
    intro x hx
    have hi2:(fC x).map I.mv = some i':=by
     unfold sV sU jM at hi
     rcases hx with hx | hx <;> simp only [hx] at hi <;> (split at hi <;> first | (split at hi <;> first | (cases hi;assumption) | cases hi) | cases hi)
    obtain ⟨y,h5,rfl⟩:=zmm hi2
    obtain ⟨v,h6,h7⟩:=zmm h4
    cases h7
    refine ⟨a.eval x,.inl ⟨hw,fun w'=>?_⟩,hput (hr.Ik h5 h6)⟩
    unfold execOp
    rcases hx with hx | hx <;> simp only [hx] <;> rfl
   split at hp
   ·rename_i x hx;exact mv x (.inl hx)
   ·rename_i x hx;exact mv x (.inr hx)
   ·rename_i s x f hx
    have hi2:jM P X o = some i':=by
     unfold sV sU at hi
     simp only [hx] at hi
     split at hi
     ·split at hi
      ·cases hi
      ·cases hi;assumption
     ·cases hi
    unfold jM at hi2
    simp only [hx] at hi2
    obtain ⟨fl,h5,hi2⟩:=zbm hi2
    obtain ⟨n,h6,hi2⟩:=zbm hi2
    split at hi2
    ·cases hi2
    ·rename_i h0
     obtain ⟨y,h7,rfl⟩:=zmm hi2
     obtain ⟨v,h8,h9⟩:=zbm h4
     have hv:=hr.eval h7 h8
     obtain ⟨fs,hu,hfi⟩:=Ce h5
     have run:∀ b o' (w':World),a.eval x = .pointer (some ⟨b,o',none⟩) → (execOp a.eval o).run P w' = .ok (.value (.pointer (some ⟨b,o' + fl.offset,none⟩))) w':=by
      intro b o' w' he
      unfold execOp
      simp only [hx,he]
      unfold Instr.fieldAt
      simp only [Sem.run_bind,run_underlying hu,Result.andThen_ok,hfi]
      simp only [Instr.sureAddr,Sem.run_bind,Sem.run_pure,Result.andThen_ok,pQ h6 h0]
     split at h9
     ·cases h9;obtain ⟨b,e1,e2⟩:=hv;exact ⟨_,.inl ⟨hw,fun w'=>run _ _ w' e2⟩,hput ⟨b,e1,rfl⟩⟩
     ·cases h9;obtain ⟨b,o',e1,e2,e3⟩:=hv;exact ⟨_,.inl ⟨hw,fun w'=>run _ _ w' e1⟩,hput ⟨b,_,rfl,e2,e3.drop _⟩⟩
     ·cases h9;obtain ⟨b,n',c,e1,e2⟩:=hv;exact ⟨_,.inl ⟨hw,fun w'=>run _ _ w' e2⟩,hput ⟨b,n',c,e1,by rw [Nat.add_assoc]⟩⟩
     ·cases h9
   ·rename_i s t ps hx
    have hi2:jM P X o = some i':=by
     unfold sV sU at hi
     simp only [hx] at hi
     split at hi
     ·split at hi
      ·cases hi
      ·cases hi;assumption
     ·cases hi
    unfold jM at hi2
    simp only [hx] at hi2
    have hb:∃ z l,Ai P t = some z ∧ i' = .build z l ∧ ((∃ fs,P.underlying t = some (.struct fs) ∧ fs.toList.all (fun (f:Field)=>(lJ P f.type).isSome) = true ∧ parts P fs ps.toList = some l) ∨ ∃ n e sz,P.underlying t = some (.array n e) ∧ lJ P e = some sz ∧ oK sz ps.toList = some l):=by
     split at hi2
     ·rename_i fs hu
      split at hi2
      ·rename_i hall
       obtain ⟨z,g1,g2⟩:=zbm hi2
       obtain ⟨l,g3,rfl⟩:=zmm g2
       exact ⟨z,l,g1,rfl,.inl ⟨fs,hu,hall,g3⟩⟩
      ·cases hi2
     ·rename_i n e hu
      obtain ⟨sz,g0,g00⟩:=zbm hi2
      obtain ⟨z,g1,g2⟩:=zbm g00
      obtain ⟨l,g3,rfl⟩:=zmm g2
      exact ⟨z,l,g1,rfl,.inr ⟨n,e,sz,hu,g0,g3⟩⟩
     ·cases hi2
    obtain ⟨z,l,g1,rfl,g2⟩:=hb
    obtain ⟨g3,v,g4,g5⟩:=J9 hr g1 g2 h4
    refine ⟨v,.inl ⟨hw,fun w'=>?_⟩,by rw [g3];exact hput g5⟩
    unfold execOp
    simp only [hx,Sem.run_bind,g4,Result.andThen_ok,Sem.run_pure]
   ·rename_i s x n hx
    have hi2:jM P X o = some i':=by
     unfold sV sU at hi
     simp only [hx] at hi
     split at hi
     ·split at hi
      ·cases hi
      ·cases hi;assumption
     ·cases hi
    unfold jM at hi2
    simp only [hx] at hi2
    obtain ⟨y,g1,rfl⟩:=zmm hi2
    obtain ⟨g3,v,g4,g5⟩:=Qt (P:=P) hr g1 h4
    refine ⟨v,.inl ⟨hw,fun w'=>?_⟩,by rw [g3];exact hput g5⟩
    unfold execOp
    simp only [hx,Sem.run_bind,g4,Result.andThen_ok,Sem.run_pure]
   ·cases hp
 ·cases h2
theorem CG (heq:∀ t ∈ X.eqs,lK P t) (kT:iC P Γ) (hC:dN P Γ) {ks mF:List Nat} {r:St} {Q:Exit → Act → World → Prop} (hns:Region.noSelect ops = true) (hg:kg P X ops N.ok ops.toList = some gs) (Ym:∀ c a w,¬ Q (.panic c) a w) (hQ:∀ a' w',Ok bn w0 bg N iV r a' w' → Q .normal a' w'):∀ (n:Nat) (l:Array Bool) (os:List (List Nat)) {σ:St} {a:Act} {w:World},l.size = ops.size → exts ops n l = some os → kV Γ gs ks mF σ r os → Ok bn w0 bg N iV σ a w → wpAny P .any ops Q n l a w
 | 0,l,os,σ,a,w,hl,he,hA,hO=>by
  unfold exts at he
  split at he
  ·rename_i hn
   cases he
   obtain ⟨⟨s,h1,h2⟩,_⟩:=hA
   cases h1
   exact ⟨hn,hQ a w (h2 ▸ hO.less (fun _ hp=>kK hp) (fun _ hp=>kK hp))⟩
  ·cases he
 | n + 1,l,os,σ,a,w,hl,he,hA,hO=>by
  unfold exts at he
  obtain ⟨e1,e2⟩:=iY hg
  have hgd:∀ i (hi1:i < ops.size),sW P X ops N.ok ops[i] = some (gs.getD i default):=by
   intro i hi1
   have hgi:=e2 i (by simpa using hi1) (by rw [← e1];simpa using hi1)
   rw [ajy,ajo (by rw [← e1];simpa using hi1)]
   simpa using hgi
  split at he
  ·rename_i hn
   cases he
   obtain ⟨⟨s,h1,h2⟩,_⟩:=hA
   cases h1
   rw [kX]
   exact ⟨fun _=>hQ a w (h2 ▸ hO.less (fun _ hp=>kK hp) (fun _ hp=>kK hp)),fun i hi=>by rw [hn] at hi;simp at hi⟩
  ·rename_i i0 is0 hn
   split at he
   ·rename_i j hf
    obtain ⟨A,h1,rfl⟩:=zmm he
    have hj:=List.find?_some hf
    rw [ajg] at hj
    have hjr:j ∈ Region.ready .any ops l:=by rw [hn];exact ak1 hf
    obtain ⟨hj1,hj2,hj3⟩:=(gu hl).mp hjr
    obtain ⟨s,g1,g2⟩:=hA.step (fun e=>qD n _ (e ▸ h1))
    obtain ⟨v,hy,CJ⟩:=IU (ajF hj1) hj.1 (hgd j hj1) hO g1
    exact wpAny_take (ajF hj1) hns hj.2 (by simpa using hjr) (fun c a w h=>absurd h (Ym c _ w)) hy (CG heq kT hC hns hg Ym hQ n _ A (by simp [hl]) h1 g2 CJ)
   ·rw [kX]
    refine ⟨fun h=>(by rw [hn] at h;cases h),?_⟩
    rw [hn]
    have hall:∀ i ∈ i0 :: is0,i ∈ Region.ready .any ops l:=fun i hi=>by rw [hn];exact hi
    rename_i hfn
    clear hfn
    generalize i0 :: is0 = is at he hall
    clear hn
    induction is generalizing os with
    | nil=>intro i hi;simp at hi
    | cons j is ih =>
     obtain ⟨A,h1,h2⟩:=zbm he
     obtain ⟨B,h3,rfl⟩:=zmm h2
     obtain ⟨hA1,hA2⟩:=hA.app
     intro i hi
     rcases ajr.mp hi with rfl | hi
     ·obtain ⟨hi1,hi2,hi3⟩:=(gu hl).mp (hall i (by simp))
      obtain ⟨s,g1,g2⟩:=hA1.step (fun e=>qD n _ (e ▸ h1))
      unfold wpOp
      rw [ajF hi1]
      exact Cw heq kT hC (hgd i hi1) hO g1 fun a' w' h'=>CG heq kT hC hns hg Ym hQ n _ A (by simp [hl]) h1 g2 h'
     ·exact ih B hA2 h3 (fun i hi=>hall i (ajY _ hi)) i hi
theorem kV.pre {ks mF:List Nat} {r:St}:∀ {p:List Nat} {A:List (List Nat)} {σ:St},kV Γ gs ks mF σ r (A.map (p ++ ·)) → A ≠ [] → ∃ s,wI Γ false (p.map fun i=>gs.getD i default) σ = some s ∧ kV Γ gs ks mF s r A
 | [],A,σ,h,_=>⟨σ,rfl,by simpa using h⟩
 | i :: p,A,σ,h,hA=>by
  have e:A.map (i :: p ++ ·) = (A.map (p ++ ·)).map (i :: ·):=by rw [aku];rfl
  rw [e] at h
  obtain ⟨s,h1,h2⟩:=h.step (by simpa using hA)
  obtain ⟨s',h3,h4⟩:=kV.pre h2 hA
  refine ⟨s',?_,h4⟩
  show (PE Γ false σ _).bind _ = _
  rw [h1]
  exact h3
theorem Et (ops:Array Oper):∀ j,∀ x ∈ (jL [] (ops.toList.map iW)).getD j [],J6 ops x j:=yh _ _ (fun j x hx=>by simp at hx) (fun k hk=>by
 have hk':k < ops.size:=by simpa using hk
 refine ⟨by simpa using hk',?_⟩
 rw [ajf,akm,ajF hk']
 simp)
theorem MJ {l:Array Bool} (hd:Down ops l) {i j:Nat} (hb:J6 ops j i):(∀ (h:i < ops.size),∀ e ∈ iW ops[i],Dn l e) → Dn l j:=by
 induction hb with
 | dir h he=>intro hr;exact hr h _ he
 | step h he hj ih=>intro hr;exact ih (fun h'=>hd _ h' (hr h _ he))
theorem CK {h n i:Nat} (hh:h ≤ n):Dn (mask h n) i ↔ i < h:=by
 unfold Dn mask
 rw [ajT,List.getElem?_toArray,akS,List.length_replicate]
 split
 ·rename_i h1;simp [List.getElem?_replicate,h1]
 ·rename_i h1
  rw [List.getElem?_replicate]
  split <;> simp [h1]
theorem Eu {h n:Nat} (hh:h < n):(mask h n).setIfInBounds h true = mask (h + 1) n:=by
 unfold mask
 refine Array.ext' ?_
 rw [Array.toList_setIfInBounds]
 refine akl fun i=>?_
 rw [List.getElem?_set]
 simp only [akS,List.length_replicate,List.getElem?_replicate,ajh]
 by_cases h1:h = i
 ·subst h1
  rw [ai8 rfl,ai8 (by simp;omega),ai8 (by omega),ai8 (by omega)]
 ·rw [ai9 h1]
  by_cases h2:i < h
  ·rw [ai8 h2,ai8 h2,ai8 (by omega),ai8 (by omega)]
  ·have h4:¬ i < h + 1:=by omega
   simp only [h2,h4,ajv]
   by_cases h3:i < n
   ·rw [ai8 (by omega),ai8 (by omega)]
   ·rw [ai9 (by omega),ai9 (by omega)]
theorem IV (heq:∀ t ∈ X.eqs,lK P t) (kT:iC P Γ) (hC:dN P Γ) {Q:Exit → Act → World → Prop} (hg:kg P X ops N.ok ops.toList = some gs) {h:Nat} (hh:h ≤ ops.size) (hB:IQ (ops.toList.map iW) (jL [] (ops.toList.map iW)) ops.size h = true) {Z0:St}
  (hK:∀ a' w',Ok bn w0 bg N iV Z0 a' w' → wpAny P .any ops Q (ops.size - h) (mask h ops.size) a' w'):∀ (m i:Nat) {σ:St} {a:Act} {w:World},m + i = h → wI Γ false ((List.range' i m).map fun i=>gs.getD i default) σ = some Z0 → Ok bn w0 bg N iV σ a w → wpAny P .any ops Q (ops.size - i) (mask i ops.size) a w
 | 0,i,σ,a,w,hm,hE,hO=>by
  have:i = h:=by omega
  subst this
  cases hE
  exact hK a w hO
 | m + 1,i,σ,a,w,hm,hE,hO=>by
  obtain ⟨e1,e2⟩:=iY hg
  have hi:i < ops.size:=by omega
  have hgd:sW P X ops N.ok ops[i] = some (gs.getD i default):=by
   have hgi:=e2 i (by simpa using hi) (by rw [← e1];simpa using hi)
   rw [ajy,ajo (by rw [← e1];simpa using hi)]
   simpa using hgi
  unfold IQ at hB
  rw [ajg] at hB
  have Z4:∀ k (hk:k < ops.size),∀ e ∈ iW ops[k],e < k:=fun k hk e he=>by
   have h1:=ajp.mp hB.1 k (ajL.mpr hk)
   rw [ajy,ajf,akm,ajF hk] at h1
   simpa using ajp.mp h1 e he
  have hsz:(mask i ops.size).size = ops.size:=by simp [mask];omega
  have hdn:∀ j,Dn (mask i ops.size) j ↔ j < i:=fun j=>CK (by omega)
  have MK:Down ops (mask i ops.size):=fun j hj hd e he=>(hdn e).mpr (by have:=(hdn j).mp hd;have:=Z4 j hj e he;omega)
  have hri:i ∈ Region.ready .any ops (mask i ops.size):=(gu hsz).mpr ⟨hi,fun hd=>by have:=(hdn i).mp hd;omega,fun e he=>(hdn e).mpr (Z4 i hi e he)⟩
  rw [show ops.size - i = (ops.size - (i + 1)) + 1 from by omega,kX]
  refine ⟨fun hn=>by rw [hn] at hri;simp at hri,fun j hj=>?_⟩
  obtain ⟨hj1,hj2,hj3⟩:=(gu hsz).mp hj
  have hij:j = i:=by
   apply ajR
   intro hne
   have hlt:i < j:=by
    have:¬ j < i:=fun hx=>hj2 ((hdn j).mpr hx)
    omega
   have h1:=ajp.mp hB.2 j (ajL.mpr hj1)
   have h2:(List.getD (jL [] (ops.toList.map iW)) j []).take (min j h) = List.range (min j h):=by simpa using h1
   have h3:i ∈ (jL [] (ops.toList.map iW)).getD j []:=List.mem_of_mem_take (by rw [h2];exact ajL.mpr (by omega))
   have:=(hdn i).mp (MJ MK (Et ops j i h3) (fun _=>hj3))
   omega
  subst hij
  rw [List.range'_succ,ajk] at hE
  obtain ⟨s,g1,g2⟩:=zbm hE
  unfold wpOp
  rw [ajF hi]
  refine Cw heq kT hC hgd hO g1 fun a' w' h'=>?_
  rw [Eu hi]
  exact IV heq kT hC hg hh (by unfold IQ;rw [ajg];exact hB) hK m (j + 1) (by omega) g2 h'
theorem VT (hm:P.follows .mixedOrders = true) (heq:∀ t ∈ X.eqs,lK P t) (kT:iC P Γ) (hC:dN P Γ) {ks mF:List Nat} {os:List (List Nat)} {o:Out} {id:Nat} (hns:Region.noSelect ops = true) (hg:kg P X ops N.ok ops.toList = some gs) (he:MG ops = some os) (hO:Ok bn w0 bg N iV σ a w) (hE:evO Γ gs ks mF σ os = some (o,σ')) (hQ:∀ a' w',Ok bn w0 bg N iV σ' a' w' → Q (CB o) a' w'):(Code.region id ops true).wp P Q a w:=by
 refine wp_mono (Q:=fun e a w=>e = .normal ∧ Q e a w) ?_ (fun _ _ _ h=>h.2)
 refine wp_region_any hm ?_
 replace hO:Ok bn w0 bg N iV σ a { w with drawn:=w.drawn + 1 }:=by
  obtain ⟨Fz,κ,hr,hk⟩:=hO
  exact ⟨Fz,κ,hr.grow (w':={ w with drawn:=w.drawn + 1 }) (ajd _) (fun _ _=>rfl) ⟨rfl,rfl⟩,hk⟩
 cases os with
 | nil=>cases hE
 | cons o1 os =>
  obtain ⟨s,h1,h2⟩:=zbm hE
  split at h2
  ·rename_i hA
   cases h2
   unfold MG at he
   simp only [Gv] at he
   split at he
   ·rename_i hcond
    obtain ⟨A,h5,h6⟩:=zmm he
    have hA':kV Γ gs ks mF σ _ (A.map (List.range (Es (jL [] (ops.toList.map iW)) ops.size 0) ++ ·)):=h6 ▸ (show kV Γ gs ks mF σ ⟨pick ks s.tm,pick mF s.ob⟩ (o1 :: os) from ⟨⟨s,h1,rfl⟩,hA⟩)
    obtain ⟨sh,h7,h8⟩:=hA'.pre (fun e=>qD _ _ (e ▸ h5))
    have hm0:Array.replicate ops.size false = mask 0 ops.size:=by
     unfold mask
     refine Array.ext' ?_
     simp
    rw [hm0]
    refine IV (i:=0) (h:=Es (jL [] (ops.toList.map iW)) ops.size 0) heq kT hC hg hcond.1 hcond.2 (fun a' w' h'=>?_) (Es (jL [] (ops.toList.map iW)) ops.size 0) (by omega) (by rw [← List.range_eq_range'];exact h7) hO
    exact CG heq kT hC hns hg (fun c a w h=>by cases h.1) (fun a' w' h=>⟨rfl,hQ a' w' h⟩) _ _ A (by simp [mask];omega) h5 h8 h'
   ·cases he
  ·cases h2
theorem ML {i:Nat} {o:Oper} {g:G} (ho:ops[i]? = some o) (hp:Qr ops i = true) (hg:sW P X ops N.ok o = some g) (h:Ok bn w0 bg N iV σ a w) (hE:PE Γ false σ g = some σ'):∃ v,YieldsIf P ops (Ext w) o v a ∧ Ok bn w0 bg N iV σ' (a.put o.dst v) w:=by
 unfold Qr at hp
 cases hpo:MF ops i with
 | true=>obtain ⟨v,h1,h2⟩:=IU ho hpo hg h hE;exact ⟨v,h1.yieldsIf,h2⟩
 | false =>
 rw [hpo,Bool.false_or,ho] at hp
 simp only at hp
 obtain ⟨Fz,κ,hr,hk⟩:=h
 obtain ⟨p,h1,rfl⟩:=zmm hE
 obtain ⟨i',hi,h2⟩:=zbm hg
 split at h2
 ·rename_i hd
  cases h2
  have hput:∀ {pv v},iK Fz κ w pv v → Ok bn w0 bg N iV (qU σ o.dst pv) (a.put o.dst v) w:=by
   intro pv v hv
   refine ⟨Fz,κ,?_,hk⟩
   cases hdst:o.dst with
   | none=>exact hr.LJ v
   | some d =>
    rw [hdst] at hd
    exact hr.put (by simpa using hd) hv
  obtain ⟨t,h3,h4⟩:=zbm h1
  cases t with
  | false =>
   rw [ai9 (by decide)] at h4
   cases h4
   exact ⟨undef,.inr ⟨El hr h3,rfl⟩,hput rfl⟩
  | true =>
   rw [ai8 rfl] at h4
   have hw:=El hr h3
   have h0:(∀ c,o.op ≠ .call c) → jM P X o = some i':=by
    intro hn
    unfold sV sU at hi
    split at hi
    ·rename_i hh
     split at hh
     ·rename_i c hc;exact absurd hc (hn c)
     ·cases hh
    ·split at hi
     ·split at hi
      ·cases hi
      ·cases hi;assumption
     ·cases hi
   have fin:∀ {v:Value},p.2 = σ → iK Fz κ w p.1 v → (∀ w',Ext w w' → (execOp a.eval o).run P w' = .ok (.value v) w') → ∃ v,YieldsIf P ops (Ext w) o v a ∧ Ok bn w0 bg N iV (qU p.2 o.dst p.1) (a.put o.dst v) w:=fun {v} e1 e2 e3=>⟨v,.inl ⟨hw,e3⟩,by rw [e1];exact hput e2⟩
   split at hp
   ·rename_i t x hx
    have hi2:=h0 (fun c hc=>by rw [hx] at hc;cases hc)
    unfold jM at hi2
    simp only [hx] at hi2
    obtain ⟨g,g1,hi2⟩:=zbm hi2
    obtain ⟨n,g2,hi2⟩:=zbm hi2
    obtain ⟨y,g3,rfl⟩:=zmm hi2
    obtain ⟨g4,v,g5,g6⟩:=MB (P:=P) hr g1 g2 g3 h4
    refine fin g4 g6 fun w' hw'=>?_
    unfold execOp
    simp only [hx,Sem.run_bind,g5 w' hw',Result.andThen_ok,Sem.run_pure]
   ·rename_i x hx
    have hi2:=h0 (fun c hc=>by rw [hx] at hc;cases hc)
    unfold jM at hi2
    simp only [hx] at hi2
    obtain ⟨y,g3,rfl⟩:=zmm hi2
    obtain ⟨g4,v,g5,g6⟩:=MC (P:=P) hr g3 h4 hx
    exact fin g4 g6 fun w' _=>g5 w'
   ·rename_i t x y u hx
    have hi2:=h0 (fun c hc=>by rw [hx] at hc;cases hc)
    unfold jM at hi2
    simp only [hx] at hi2
    obtain ⟨x',g1,hi2⟩:=zbm hi2
    obtain ⟨y',g2,hi2⟩:=zbm hi2
    have hb:i' = .ar .sub x' y':=by
     split at hi2 <;> first | (cases hi2;done) | (simp [Yj] at hi2;done) | (simp [Yj] at hi2;exact hi2.symm) | skip
     all_goals (split at hi2 <;> first | (cases hi2;done) | (simp at hi2;done))
    subst hb
    obtain ⟨g4,v,g5,g6⟩:=VN (P:=P) (op:=.sub) (t:=t) (x:=x) (y:=y) hr rfl g1 g2 h4
    refine fin g4 g6 fun w' _=>?_
    unfold execOp
    simp only [hx]
    rw [Sem.run_bind,g5 w']
    rfl
   ·rename_i t x z hx
    have hi2:=h0 (fun c hc=>by rw [hx] at hc;cases hc)
    unfold jM at hi2
    simp only [hx,Qc] at hi2
    obtain ⟨e,g1,hi2⟩:=zbm hi2
    obtain ⟨sz,g2,hi2⟩:=zbm hi2
    obtain ⟨x',g3,hi2⟩:=zbm hi2
    obtain ⟨y',g4,rfl⟩:=zmm hi2
    obtain ⟨g5,v,g6,g7⟩:=VO (P:=P) hr g1 g2 g3 g4 h4
    refine fin g5 g7 fun w' _=>?_
    unfold execOp
    simp only [hx,Sem.run_bind,g6,Result.andThen_ok,Sem.run_pure]
   ·cases hp
 ·cases h2
theorem yj (hg:kg P X ops N.ok ops.toList = some gs) {Q:Exit → Act → World → Prop} {h:Nat} {w1:World}:∀ (n:Nat) (l:Array Bool) (a:Act) (w:World),l.size = ops.size → (∀ i,i < h → Dn l i) → wpAny P .any ops Q n l a w → VP P ops Q (fun j=>decide (j < h) || Gw ops j) (Ext w1) n l a w
 | 0,_,_,_,_,_,hh=>hh
 | n + 1,l,a,w,hl,hd,hh=>by
  refine ⟨hh.1,fun i hi=>?_⟩
  obtain ⟨hi1,hi2,hi3⟩:=(gu hl).mp hi
  have rcu:∀ a' w',wpAny P .any ops Q n (l.setIfInBounds i true) a' w' → VP P ops Q (fun j=>decide (j < h) || Gw ops j) (Ext w1) n (l.setIfInBounds i true) a' w':=fun a' w' hx=>yj hg n _ a' w' (by simp [hl]) (fun j hj=>(Dn.set (by omega)).mpr (.inr (hd j hj))) hx
  cases hal:Gw ops i with
  | false=>exact wpOp_mono (fun a' w' hx=>⟨fun hm=>by have hm':(decide (i < h) || Gw ops i) = true:=hm;rw [hal,Bool.or_false] at hm';exact absurd (hd i (ajw hm')) hi2,rcu a' w' hx⟩) (hh.2 i hi)
  | true =>
   unfold Gw at hal
   rw [ajF hi1] at hal
   simp only at hal
   split at hal
   ·rename_i e he
    obtain ⟨e1,e2⟩:=iY hg
    have hgi:=e2 i (by simpa using hi1) (by rw [← e1];simpa using hi1)
    obtain ⟨i',g1,_⟩:=zbm hgi
    have hz:∃ z,Ai P e = some z:=by
     have he':(ops.toList[i]'(by simpa using hi1)).op = .alloc e:=by simpa using he
     unfold sV sU jM at g1
     simp only [he'] at g1
     cases hz:Ai P e with
     | none=>rw [hz] at g1;cases g1
     | some z=>exact ⟨z,rfl⟩
    obtain ⟨z,hz⟩:=hz
    exact wpOp_mono (fun a' w' hx=>⟨fun _=>hx.1,rcu a' w' hx.2⟩) (Gu (ajF hi1) he hz (hh.2 i hi))
   ·cases hal
theorem Ew {Q:Exit → Act → World → Prop} (Ym:∀ c a w,¬ Q (.panic c) a w) (hns:Region.noSelect ops = true) (hg:kg P X ops N.ok ops.toList = some gs) {h:Nat} (hh:h ≤ ops.size) (hB:Gx (ops.toList.map iW) (jL [] (ops.toList.map iW)) ops h = true) {Z0:St}
  (hK:∀ a' w',Ok bn w0 bg N iV Z0 a' w' → wpAny P .any ops Q (ops.size - h) (mask h ops.size) a' w'):∀ (m i:Nat) {σ:St} {a:Act},m + i = h → wI Γ false ((List.range' i m).map fun i=>gs.getD i default) σ = some Z0 → Ok bn w0 bg N iV σ a w → VP P ops Q (fun j=>decide (j < h) || Gw ops j) (Ext w) (ops.size - i) (mask i ops.size) a w
 | 0,i,σ,a,hm,hE,hO=>by
  have:i = h:=by omega
  subst this
  cases hE
  exact yj hg _ _ _ _ (by simp [mask];omega) (fun j hj=>(CK hh).mpr hj) (hK a w hO)
 | m + 1,i,σ,a,hm,hE,hO=>by
  obtain ⟨e1,e2⟩:=iY hg
  have hi:i < ops.size:=by omega
  have hgd:sW P X ops N.ok ops[i] = some (gs.getD i default):=by
   have hgi:=e2 i (by simpa using hi) (by rw [← e1];simpa using hi)
   rw [ajy,ajo (by rw [← e1];simpa using hi)]
   simpa using hgi
  have hB':=hB
  unfold Gx at hB
  rw [ajg,ajg] at hB
  have Z4:∀ k (hk:k < ops.size),∀ e ∈ iW ops[k],e < k:=fun k hk e he=>by
   have h1:=ajp.mp hB.1 k (ajL.mpr hk)
   rw [ajy,ajf,akm,ajF hk] at h1
   simpa using ajp.mp h1 e he
  have hsz:(mask i ops.size).size = ops.size:=by simp [mask];omega
  have hdn:∀ j,Dn (mask i ops.size) j ↔ j < i:=fun j=>CK (by omega)
  have MK:Down ops (mask i ops.size):=fun j hj hd e he=>(hdn e).mpr (by have:=(hdn j).mp hd;have:=Z4 j hj e he;omega)
  have hri:i ∈ Region.ready .any ops (mask i ops.size):=(gu hsz).mpr ⟨hi,fun hd=>by have:=(hdn i).mp hd;omega,fun e he=>(hdn e).mpr (Z4 i hi e he)⟩
  have hV:=ajp.mp hB.2.1 i (ajL.mpr (by omega))
  rw [ajg] at hV
  rw [List.range'_succ,ajk] at hE
  obtain ⟨s,g1,g2⟩:=zbm hE
  obtain ⟨v,hy,CJ⟩:=ML (ajF hi) hV.1 hgd hO g1
  rw [show ops.size - i = (ops.size - (i + 1)) + 1 from by omega]
  refine J7 (ajF hi) (Region.noSelect_spec hns) Ym (fun l j hl hd hj hni hne=>?_) _ _ _ _ hsz MK (Region.free_spec (ajF hi) hV.2) hri hy (Ext.refl w) ?_
  ·obtain ⟨hj1,hj2,hj3⟩:=(gu hl).mp hj
   have h1:=ajp.mp hB.2.2 j (ajL.mpr hj1)
   rw [aj4] at h1
   rcases h1 with h1 | h1
   ·exact h1
   ·have h2:(List.getD (jL [] (ops.toList.map iW)) j []).take h = List.range h:=by simpa using h1
    have h3:i ∈ (jL [] (ops.toList.map iW)).getD j []:=List.mem_of_mem_take (by rw [h2];exact ajL.mpr (by omega))
    exact absurd (MJ hd (Et ops j i h3) (fun _=>hj3)) hni
  ·rw [Eu hi]
   exact Ew Ym hns hg hh hB' hK m (i + 1) (by omega) g2 CJ
theorem Qu (hm:P.follows .mixedOrders = true) (heq:∀ t ∈ X.eqs,lK P t) (kT:iC P Γ) (hC:dN P Γ) {ks mF:List Nat} {os:List (List Nat)} {o:Out} {id:Nat} (hns:Region.noSelect ops = true) (hg:kg P X ops N.ok ops.toList = some gs) (he:MI ops = some os) (hO:Ok bn w0 bg N iV σ a w) (hE:evO Γ gs ks mF σ os = some (o,σ')) (hQ:∀ a' w',Ok bn w0 bg N iV σ' a' w' → Q (CB o) a' w'):(Code.region id ops true).wp P Q a w:=by
 refine wp_mono (Q:=fun e a w=>e = .normal ∧ Q e a w) ?_ (fun _ _ _ h=>h.2)
 refine wp_region_any hm ?_
 replace hO:Ok bn w0 bg N iV σ a { w with drawn:=w.drawn + 1 }:=by
  obtain ⟨Fz,κ,hr,hk⟩:=hO
  exact ⟨Fz,κ,hr.grow (w':={ w with drawn:=w.drawn + 1 }) (ajd _) (fun _ _=>rfl) ⟨rfl,rfl⟩,hk⟩
 cases os with
 | nil=>cases hE
 | cons o1 os =>
  obtain ⟨s,h1,h2⟩:=zbm hE
  split at h2
  ·rename_i hA
   cases h2
   unfold MI at he
   simp only [Gv] at he
   split at he
   ·rename_i hcond
    obtain ⟨A,h5,h6⟩:=zmm he
    have hA':kV Γ gs ks mF σ _ (A.map (List.range (MH ops ops.size 0) ++ ·)):=h6 ▸ (show kV Γ gs ks mF σ ⟨pick ks s.tm,pick mF s.ob⟩ (o1 :: os) from ⟨⟨s,h1,rfl⟩,hA⟩)
    obtain ⟨sh,h7,h8⟩:=hA'.pre (fun e=>qD _ _ (e ▸ h5))
    have hm0:Array.replicate ops.size false = mask 0 ops.size:=by
     unfold mask
     refine Array.ext' ?_
     simp
    rw [hm0]
    refine IL _ _ _ _ (Ew (i:=0) (h:=MH ops ops.size 0) (fun c a w h=>by cases h.1) hns hg hcond.1 hcond.2 (fun a' w' h'=>?_) (MH ops ops.size 0) (by omega) (by rw [← List.range_eq_range'];exact h7) hO)
    exact CG heq kT hC hns hg (fun c a w h=>by cases h.1) (fun a' w' h=>⟨rfl,hQ a' w' h⟩) _ _ A (by simp [mask];omega) h5 h8 h'
   ·cases he
  ·cases h2
theorem Ey (hm:P.follows .mixedOrders = true) (heq:∀ t ∈ X.eqs,lK P t) (kT:iC P Γ) (hC:dN P Γ):∀ (c:Code) {h h':List Hi} {cc:CC} {σ σ':St} {o:Out} {a:Act} {w:World} {Q:Exit → Act → World → Prop},comp P X N.ok c h = some (cc,h') → Ok bn w0 bg N iV σ a w → ev Γ F cc σ = some (o,σ') →
  (∀ a' w',Ok bn w0 bg N iV σ' a' w' → Q (CB o) a' w') → c.wp P Q a w:=by
 intro c
 induction c with
 | skip =>
  intro h h' cc σ σ' o a w Q hc hO hE hQ
  cases hc
  cases hE
  exact wp_skip (hQ a w hO)
 | region id ops draw =>
  intro h h' cc σ σ' o a w Q hc hO hE hQ
  cases h with
  | nil=>cases hc
  | cons k h =>
  obtain ⟨cr,h1,h2⟩:=zmm hc
  cases h2
  obtain ⟨gs,h3,h4⟩:=zbm h1
  cases draw with
  | false =>
   cases h4
   obtain ⟨s,h5,h6⟩:=zmm hE
   cases h6
   exact wp_region_list (Ms heq kT hC h3 hO h5 fun a' w' h=>hQ a' w' (h.keep _))
  | true =>
   simp only [Gv] at h4
   split at h4
   ·split at h4
    ·rename_i hns
     obtain ⟨os,h5,h6⟩:=zmm h4
     cases h6
     exact Qu hm heq kT hC hns h3 h5 hO hE hQ
    ·cases h4
   ·split at h4
    ·rename_i hns
     obtain ⟨os,h5,h6⟩:=zmm h4
     cases h6
     exact VT hm heq kT hC hns h3 h5 hO hE hQ
    ·cases h4
   split at h4
   ·rename_i hb
    cases h4
    obtain ⟨s,h5,h6⟩:=zmm hE
    cases h6
    obtain ⟨g1,g2⟩:=J8 (Qs _ _) h3 hb
    exact VL hm g1 heq kT hC (by rw [g2];exact h3) hO h5 fun a' w' h=>hQ a' w' (h.keep _)
   ·cases h4
 | seq x y ihx ihy =>
  intro h h' cc σ σ' o a w Q hc hO hE hQ
  obtain ⟨p,h1,h2⟩:=zbm hc
  obtain ⟨r,h3,h4⟩:=zmm h2
  cases h4
  obtain ⟨s,h5,h6⟩:=zbm hE
  refine wp_seq (ihx h1 hO h5 fun a' w' CJ=>?_)
  cases hs:s.1 with
  | jg=>rw [hs] at h6;exact ihy h3 CJ h6 hQ
  | ext id=>rw [hs] at h6;cases h6;exact hQ a' w' CJ
  | ret=>rw [hs] at h6;cases h6;exact hQ a' w' CJ
 | cond c x y ihx ihy =>
  intro h h' cc σ σ' o a w Q hc hO hE hQ
  obtain ⟨co,h0,hc⟩:=zbm hc
  obtain ⟨p,h1,h2⟩:=zbm hc
  obtain ⟨r,h3,h4⟩:=zmm h2
  cases h4
  obtain ⟨v,h5,h6⟩:=zbm hE
  obtain ⟨t,h7,h8⟩:=zbm h6
  have hv:a.eval c = .bool t:=by
   obtain ⟨Fz,κ,hr,_⟩:=hO
   exact Cb h7 (hr.eval h0 h5)
  refine wp_cond hv ?_
  cases t with
  | true=>exact ihx h1 hO h8 hQ
  | false=>exact ihy h3 hO h8 hQ
 | block id c ih =>
  intro h h' cc σ σ' o a w Q hc hO hE hQ
  obtain ⟨p,h1,h2⟩:=zmm hc
  cases h2
  obtain ⟨s,h3,h4⟩:=zmm hE
  refine wp_block (ih h1 hO h3 fun a' w' CJ=>?_)
  cases hs:s.1 with
  | jg=>rw [hs] at h4;cases h4;exact hQ a' w' CJ
  | ret=>rw [hs] at h4;cases h4;exact hQ a' w' CJ
  | ext i =>
   rw [hs] at h4
   simp only [CB,Exit.inBlock]
   by_cases hi:i = id
   ·simp only [ai8 hi] at h4
    cases h4;rw [ai8 hi];exact hQ a' w' CJ
   ·simp only [ai9 hi] at h4
    cases h4;rw [ai9 hi];exact hQ a' w' CJ
 | loop c ih =>
  intro h h' cc σ σ' o a w Q hc hO hE hQ
  cases h with
  | nil=>cases hc
  | cons k h =>
   obtain ⟨p,h1,h2⟩:=zmm hc
   cases h2
   have key:∀ (n:Nat) (σ:St) (a:Act) (w:World),Ok bn w0 bg N iV σ a w → iter (ev Γ F p.1) (Ev.res k.ks k.BO k.rws) n σ = some (o,σ') → Code.rounds P c Q n a w:=by
    intro n
    induction n with
    | zero=>intro σ a w _ hE;cases hE
    | succ n ihn =>
     intro σ a w hO hE
     obtain ⟨s,h3,h4⟩:=zbm hE
     rw [rounds_succ]
     refine ih h1 (hO.res k.ks k.BO k.rws) h3 fun a' w' CJ=>?_
     cases hs:s.1 with
     | jg=>rw [hs] at h4;exact ihn s.2 a' w' CJ h4
     | ext id=>rw [hs] at h4;cases h4;exact hQ a' w' CJ
     | ret=>rw [hs] at h4;cases h4;exact hQ a' w' CJ
   exact wp_loop_rounds F (key F σ a w hO hE)
 | exit id =>
  intro h h' cc σ σ' o a w Q hc hO hE hQ
  cases hc
  cases hE
  exact wp_exit (hQ a w hO)
 | ret =>
  intro h h' cc σ σ' o a w Q hc hO hE hQ
  cases hc
  cases hE
  exact wp_ret (hQ a w hO)
 | scope c ih =>
  intro h h' cc σ σ' o a w Q hc hO hE hQ
  refine wp_scope_straight (ih hc hO hE fun a' w' h'=>?_)
  have:=hQ a' w' h'
  cases o <;> exact this
 | label l =>
  intro h h' cc σ σ' o a w Q hc hO hE hQ
  cases hc
  cases hE
  exact wp_label (hQ a w hO)
 | _=>intro h h' cc σ σ' o a w Q hc;cases hc
end
end
section
open Go
section
variable {P : Program} {Γ:Env} {bn Fz bD:Nat → Prop} {w0 w w':World} {bg bs:List Nat} {N:Fr} {F:Nat} {κ iV:Nat → Value} {σ fI σ':St} {a:Act} {X:Hx}
theorem Ez {bo:List Nat}:∀ {dS:List AV} {vals:List Value} {bx bs:List Nat} {i:Nat} {pend:List PL} {jK:List Value} {nA:List CV} {κ:Nat → Value} {σ σ':St},bT bn w0 bg N (bx ++ bs) Fz κ σ a w → fD Fz w dS vals bx → (∀ j v,vals[j]? = some v → a.tmps.getD (i + j) undef = v) → aT Fz κ w pend jK → enter bo i pend σ dS = some (nA,σ') →
  ∃ eZ,bT bn w0 bg N bs Fz eZ σ' a w ∧ dO Fz eZ w nA vals ∧ aT Fz eZ w pend jK
 | [],[],bx,bs,i,pend,jK,nA,κ,σ,σ',h,hx,ht,hp,hs=>by cases hs;cases hx;exact ⟨κ,h,trivial,hp⟩
 | [],_ :: _,_,_,_,_,_,_,_,_,_,_,hx,_,_,_=>hx.elim
 | _ :: _,[],_,_,_,_,_,_,_,_,_,_,hx,_,_,_=>hx.elim
 | x :: dS,v :: vals,bx,bs,i,pend,jK,nA,κ,σ,σ',h,hx,ht,hp,hs=>by
  obtain ⟨b1,b2,h1,h2,rfl⟩:=hx
  obtain ⟨p,h3,h4⟩:=zbm hs
  obtain ⟨r,h5,h6⟩:=zmm h4
  cases h6
  obtain ⟨zS,e1,e2,e3,_⟩:=Mg (Kp:=fun _=>True) (fun _ _=>trivial) (fun _ _ _=>trivial) trivial (bs:=b2 ++ bs) (by rw [← ajW];exact h) h1 hp h3
  have hv:a.tmps.getD i undef = v:=by have:=ht 0 v rfl;rwa [Nat.add_zero] at this
  have hrel:bT bn w0 bg N (b2 ++ bs) Fz zS ⟨Ev.put p.2.tm i (.c p.1),p.2.ob⟩ a w:=⟨e1.rel.put' (by rw [hv];exact e2),e1.mh,e1.ap⟩
  obtain ⟨Gn,g1,g2,g3⟩:=Ez hrel h2 (fun j u hj=>by have:=ht (j + 1) u (by simpa using hj);rwa [show i + 1 + j = i + (j + 1) from by omega]) (show aT Fz zS w (Ev.cells p.1 ++ pend) (Ev.Eh p.1 v ++ jK) from e2.Eh.app e3) h5
  obtain ⟨g5,g6⟩:=g3.Cu (by have:=e2.Eh.length;omega)
  exact ⟨Gn,g1,⟨fV.Mh (fun xs hx=>by rw [hx] at e2;obtain ⟨cs,h,_⟩:=e2;exact ⟨cs,h⟩) g5,g2⟩,g6⟩
theorem wW (h:bT bn w0 bg N bs Fz κ σ a w) {x:PL} {y:TV} {v:Value} (hx:eB Fz κ w x v) (hs:outT σ x = some (y,σ')):∃ bD bx,bT bn w0 bg N (bx ++ bs) bD κ σ' a w ∧ (∀ b,Fz b → bD b) ∧ nD bD w y v bx:=by
 cases x with
 | f x=>cases hs;exact ⟨Fz,[],h,fun _ h=>h,hx,rfl⟩
 | bY=>cases hs;exact ⟨Fz,[],h,fun _ h=>h,by simp only [eY];exact ⟨none,0,hx,ajd _,by simp,.inl trivial⟩,rfl⟩
 | iU=>cases hs;exact ⟨Fz,[],h,fun _ h=>h,hx,rfl⟩
 | fA=>cases hs;exact ⟨Fz,[],h,fun _ h=>h,hx,rfl⟩
 | fp cs=>cases hs;exact ⟨Fz,[],h,fun _ h=>h,eB.mono (κ:=κ) (eZ:=fun _=>undef) (fun _ h=>h) (fun _ _=>rfl) (fun k hk=>by cases hk) hx,rfl⟩
 | fn f cs=>cases hs;exact ⟨Fz,[],h,fun _ h=>h,eB.mono (κ:=κ) (eZ:=fun _=>undef) (fun _ h=>h) (fun _ _=>rfl) (fun k hk=>by cases hk) hx,rfl⟩
 | own key n =>
  obtain ⟨p,h1,h2⟩:=zmm hs
  cases h2
  obtain ⟨bD,g1,g2,g3⟩:=h.vN hx h1
  exact ⟨bD,[],g1,g2,g3,rfl⟩
 | mp key =>
  simp only [outT] at hs
  split at hs
  ·rename_i sh ents fZ
   cases hs
   obtain ⟨b,h1,h2⟩:=h.rel.obj fZ
   exact ⟨Fz,[b],h.take fZ (by rw [h1];rfl),fun _ h=>h,b,by rw [hx.1,h1],h2,rfl⟩
  ·cases hs
 | ptr key off =>
  cases off with
  | succ n=>cases hs
  | zero =>
   simp only [outT] at hs
   split at hs
   ·rename_i xs fZ
    obtain ⟨p,h1,h2⟩:=zmm hs
    cases h2
    obtain ⟨b,cs,e,g1,g2,g3⟩:=h.rel.obj fZ
    obtain ⟨b',g4,g5⟩:=hx
    rw [g1] at g4
    cases g4
    obtain ⟨F1,bx,e1,e2,e3⟩:=Co (h.take fZ (by rw [g1];rfl)) g3 h1
    exact ⟨F1,b :: bx,e1.perm List.perm_middle,e2,b,cs,e,bx,g5,g2,e3,rfl⟩
   ·cases hs
 | _=>cases hs
theorem EA : ∀ {xs:List PL} {ys:List TV} {vs:List Value} {bs:List Nat} {Fz:Nat → Prop} {σ σ':St},bT bn w0 bg N bs Fz κ σ a w → aT Fz κ w xs vs → vO σ xs = some (ys,σ') → ∃ bD bx,bT bn w0 bg N (bx ++ bs) bD κ σ' a w ∧ (∀ b,Fz b → bD b) ∧ kS bD w ys vs bx
 | [],ys,[],bs,Fz,σ,σ',h,_,hs=>by cases hs;exact ⟨Fz,[],h,fun _ h=>h,rfl⟩
 | x :: xs,ys,v :: vs,bs,Fz,σ,σ',h,hx,hs=>by
  obtain ⟨p,h1,h2⟩:=zbm hs
  obtain ⟨r,h3,h4⟩:=zmm h2
  cases h4
  obtain ⟨F1,b1,e1,e2,e3⟩:=wW h hx.1 h1
  obtain ⟨F2,b2,e4,e5,e6⟩:=EA e1 (aT.mono e2 (fun _ _=>rfl) xs (fun _ _=>rfl) vs hx.2) h3
  refine ⟨F2,b1 ++ b2,e4.perm ?_,fun b hb=>e5 b (e2 b hb),b1,b2,e3.mono e5 (fun _ _=>rfl) (fun _ _=>rfl),e6,rfl⟩
  rw [← ajW]
  exact List.perm_append_comm.append_right bs
 | [],_,_ :: _,_,_,_,_,_,h,_=>h.elim
 | _ :: _,_,[],_,_,_,_,_,h,_=>h.elim
theorem Qv (h:bT bn w0 bg N bs Fz κ σ a w) {x:CV} {y:AV} {v:Value} (hx:fV Fz κ w x v) (hs:P8 σ x = some (y,σ')):∃ bD bx,bT bn w0 bg N (bx ++ bs) bD κ σ' a w ∧ (∀ b,Fz b → bD b) ∧ oM bD w y v bx:=by
 cases x with
 | one x =>
  obtain ⟨p,h1,h2⟩:=zmm hs
  cases h2
  exact wW h hx h1
 | agg xs =>
  obtain ⟨p,h1,h2⟩:=zmm hs
  cases h2
  obtain ⟨cs,rfl,hx⟩:=hx
  obtain ⟨F1,b1,e1,e2,e3⟩:=EA h hx h1
  exact ⟨F1,b1,e1,e2,cs,rfl,e3⟩
theorem Qw (h:bT bn w0 bg N bs Fz κ σ a w) {sz:Nat} {x:PL} {y:TV} {v:Value} (hx:eB Fz κ w x v) (hs:BR sz σ x = some (y,σ')):∃ bx,bT bn w0 bg N (bx ++ bs) Fz κ σ' a w ∧ nD Fz w y v bx:=by
 cases x with
 | own key n =>
  simp only [BR] at hs
  split at hs
  ·rename_i z rows fZ
   split at hs
   ·rename_i hz
    subst hz
    cases hs
    obtain ⟨g1,g2⟩:=h.Iq fZ
    exact ⟨_,g1,by rw [hx.1];exact g2⟩
   ·cases hs
  ·cases hs
 | bY =>
  simp only [BR] at hs
  split at hs
  ·cases hs
  ·rename_i hz
   cases hs
   have hv:v = .slice none 0 0:=hx
   subst hv
   exact ⟨[],h,by omega,0,[],none,0,rfl,World.ownsRow_nil w _ _ _,rfl,rfl⟩
 | _=>cases hs
theorem Qx (h:bT bn w0 bg N bs Fz κ σ a w) {fl:Option Nat} {x:CV} {y:AV} {v:Value} (hx:fV Fz κ w x v) (hs:BS fl σ x = some (y,σ')):∃ bD bx,bT bn w0 bg N (bx ++ bs) bD κ σ' a w ∧ (∀ b,Fz b → bD b) ∧ oM bD w y v bx:=by
 cases fl with
 | none=>exact Qv h hx (by cases x <;> exact hs)
 | some sz =>
  cases x with
  | one x =>
   obtain ⟨p,h1,h2⟩:=zmm hs
   cases h2
   obtain ⟨bx,e1,e2⟩:=Qw h hx h1
   exact ⟨Fz,bx,e1,fun _ h=>h,e2⟩
  | agg xs=>cases hs
theorem EB : ∀ {xs:List CV} {ys:List AV} {vs:List Value} {fl:List (Option Nat)} {bs:List Nat} {Fz:Nat → Prop} {σ σ':St},bT bn w0 bg N bs Fz κ σ a w → dO Fz κ w xs vs → mI fl σ xs = some (ys,σ') → ∃ bD bx,bT bn w0 bg N (bx ++ bs) bD κ σ' a w ∧ (∀ b,Fz b → bD b) ∧ fD bD w ys vs bx
 | [],ys,[],fl,bs,Fz,σ,σ',h,_,hs=>by cases hs;exact ⟨Fz,[],h,fun _ h=>h,rfl⟩
 | x :: xs,ys,v :: vs,fl,bs,Fz,σ,σ',h,hx,hs=>by
  obtain ⟨p,h1,h2⟩:=zbm hs
  obtain ⟨r,h3,h4⟩:=zmm h2
  cases h4
  obtain ⟨F1,b1,e1,e2,e3⟩:=Qx h hx.1 h1
  obtain ⟨F2,b2,e4,e5,e6⟩:=EB e1 (dO.mono e2 (fun _ _=>rfl) xs (fun _ _=>rfl) vs hx.2) h3
  refine ⟨F2,b1 ++ b2,e4.perm ?_,fun b hb=>e5 b (e2 b hb),b1,b2,e3.mono e5 (fun _ _=>rfl) (fun _ _=>rfl),e6,rfl⟩
  rw [← ajW]
  exact List.perm_append_comm.append_right bs
 | [],_,_ :: _,_,_,_,_,_,_,h,_=>h.elim
 | _ :: _,_,[],_,_,_,_,_,_,h,_=>h.elim
theorem EC {x:PL} {y z:TV} {v:Value} {Gc:List Nat} {F0:Nat → Prop} {u0:World} (h:bT bn w0 bg N bs Fz κ σ a w) {MN:Nat → Value} (hx:eB F0 MN u0 x v) (Li:∀ k,k % 2 = 1 → κ k = MN k) (hy:nD F0 u0 y v Gc) (hf:∀ b,F0 b → Fz b) (hw:∀ b,F0 b → w.heap[b]? = u0.heap[b]?) (hs:jS σ x y = some (z,σ')) :
  ∃ bD bx,bT bn w0 bg N (bx ++ bs) bD κ σ' a w ∧ (∀ b,Fz b → bD b) ∧ nD bD w z v bx:=by
 have plain:Gc = [] → some (y,σ) = some (z,σ') → ∃ bD bx,bT bn w0 bg N (bx ++ bs) bD κ σ' a w ∧ (∀ b,Fz b → bD b) ∧ nD bD w z v bx:=by
  intro hb hs
  cases hs
  subst hb
  exact ⟨Fz,[],h,fun _ h=>h,hy.mono hf hw (fun b hb=>by simp at hb)⟩
 cases y with
 | ptr cs =>
  cases x with
  | ptr key off =>
   cases off with
   | succ n=>cases hs
   | zero =>
    simp only [jS] at hs
    split at hs
    ·rename_i hk
     exact wW h (show eB Fz κ w (.ptr key 0) v by obtain ⟨b,h1,h2⟩:=hx;exact ⟨b,(Li key hk).trans h1,h2⟩) hs
    ·cases hs
  | _=>cases hs
 | mp sh ents =>
  cases x with
  | mp key =>
   simp only [jS] at hs
   split at hs
   ·rename_i hk
    exact wW h (show eB Fz κ w (.mp key) v by obtain ⟨h1,h2⟩:=hx;exact ⟨h1.trans (Li key hk).symm,h2⟩) hs
   ·cases hs
  | ptr key off=>cases off <;> cases hs
  | _=>cases hs
 | own sz rows =>
  have g:z = .any → σ' = σ → ∃ bD bx,bT bn w0 bg N (bx ++ bs) bD κ σ' a w ∧ (∀ b,Fz b → bD b) ∧ nD bD w z v bx:=by
   rintro rfl rfl
   exact ⟨Fz,[],h,fun _ h=>h,rfl⟩
  cases x with
  | ptr key off=>cases off <;> (cases hs;exact g rfl rfl)
  | own key n =>
   simp only [jS] at hs
   split at hs
   ·rename_i hk
    split at hs
    ·rename_i z' rows' fZ
     cases hs
     obtain ⟨g1,g2⟩:=h.Iq fZ
     refine ⟨Fz,_,g1,fun _ h=>h,?_⟩
     rw [hx.1,← Li key hk]
     exact g2
    ·cases hs
   ·cases hs;exact g rfl rfl
  | _=>cases hs;exact g rfl rfl
 | fp cs =>
  cases x with
  | ptr key off=>cases off <;> exact plain hy.2 hs
  | _=>exact plain hy.2 hs
 | fn f cs =>
  cases x with
  | ptr key off=>cases off <;> exact plain hy.2 hs
  | _=>exact plain hy.2 hs
 | any =>
  cases x with
  | ptr key off=>cases off <;> exact plain hy hs
  | _=>exact plain hy hs
 | f y =>
  cases x with
  | ptr key off=>cases off <;> exact plain hy.2 hs
  | _=>exact plain hy.2 hs
 | iU =>
  cases x with
  | ptr key off=>cases off <;> exact plain hy.2 hs
  | _=>exact plain hy.2 hs
 | fA =>
  cases x with
  | ptr key off=>cases off <;> exact plain hy.2 hs
  | _=>exact plain hy.2 hs
theorem AB {F0:Nat → Prop} {u0:World} {MN:Nat → Value} (Li:∀ k,k % 2 = 1 → κ k = MN k):∀ {xs:List PL} {ys zs:List TV} {vs:List Value} {bs Gc:List Nat} {Fz:Nat → Prop} {σ σ':St},bT bn w0 bg N bs Fz κ σ a w → aT F0 MN u0 xs vs → kS F0 u0 ys vs Gc → (∀ b,F0 b → Fz b) → (∀ b,F0 b → w.heap[b]? = u0.heap[b]?) → oJ σ xs ys = some (zs,σ') →
  ∃ bD bx,bT bn w0 bg N (bx ++ bs) bD κ σ' a w ∧ (∀ b,Fz b → bD b) ∧ kS bD w zs vs bx
 | [],[],zs,[],bs,Gc,Fz,σ,σ',h,hx,hy,hf,hw,hs=>by cases hs;exact ⟨Fz,[],h,fun _ h=>h,rfl⟩
 | x :: xs,y :: ys,zs,v :: vs,bs,Gc,Fz,σ,σ',h,hx,hy,hf,hw,hs=>by
  obtain ⟨y1,y2,h1,h2,_⟩:=hy
  obtain ⟨p,h3,h4⟩:=zbm hs
  obtain ⟨r,h5,h6⟩:=zmm h4
  cases h6
  obtain ⟨F1,b1,e1,e2,e3⟩:=EC h hx.1 Li h1 hf hw h3
  obtain ⟨F2,b2,e4,e5,e6⟩:=AB Li e1 hx.2 h2 (fun b hb=>e2 b (hf b hb)) hw h5
  refine ⟨F2,b1 ++ b2,e4.perm ?_,fun b hb=>e5 b (e2 b hb),b1,b2,e3.mono e5 (fun _ _=>rfl) (fun _ _=>rfl),e6,rfl⟩
  rw [← ajW]
  exact List.perm_append_comm.append_right bs
 | [],[],_,_ :: _,_,_,_,_,_,_,hx,_,_,_,_=>hx.elim
 | _ :: _,_ :: _,_,[],_,_,_,_,_,_,hx,_,_,_,_=>hx.elim
 | [],_ :: _,_,_,_,_,_,_,_,_,_,_,_,_,hs=>by cases hs
 | _ :: _,[],_,_,_,_,_,_,_,_,_,_,_,_,hs=>by cases hs
theorem MO {F0:Nat → Prop} {u0:World} {MN:Nat → Value} (Li:∀ k,k % 2 = 1 → κ k = MN k) {x:CV} {y z:AV} {v:Value} {Gc:List Nat} (h:bT bn w0 bg N bs Fz κ σ a w) (hx:fV F0 MN u0 x v) (hy:oM F0 u0 y v Gc) (hf:∀ b,F0 b → Fz b) (hw:∀ b,F0 b → w.heap[b]? = u0.heap[b]?) (hs:xI σ x y = some (z,σ')) :
  ∃ bD bx,bT bn w0 bg N (bx ++ bs) bD κ σ' a w ∧ (∀ b,Fz b → bD b) ∧ oM bD w z v bx:=by
 cases x with
 | one x =>
  cases y with
  | one y =>
   obtain ⟨p,h1,h2⟩:=zmm hs
   cases h2
   exact EC h hx Li hy hf hw h1
  | agg ys=>cases hs
 | agg xs =>
  cases y with
  | one y=>cases hs
  | agg ys =>
   obtain ⟨p,h1,h2⟩:=zmm hs
   cases h2
   obtain ⟨cs,rfl,hx⟩:=hx
   obtain ⟨cs',hcs,hy⟩:=hy
   cases hcs
   obtain ⟨F1,b1,e1,e2,e3⟩:=AB Li h hx hy hf hw h1
   exact ⟨F1,b1,e1,e2,cs,rfl,e3⟩
theorem AJ {F0:Nat → Prop} {u0:World} {MN:Nat → Value} (Li:∀ k,k % 2 = 1 → κ k = MN k):∀ {xs:List CV} {ys zs:List AV} {vs:List Value} {bs Gc:List Nat} {Fz:Nat → Prop} {σ σ':St},bT bn w0 bg N bs Fz κ σ a w → dO F0 MN u0 xs vs → fD F0 u0 ys vs Gc → (∀ b,F0 b → Fz b) → (∀ b,F0 b → w.heap[b]? = u0.heap[b]?) → j6 σ xs ys = some (zs,σ') →
  ∃ bD bx,bT bn w0 bg N (bx ++ bs) bD κ σ' a w ∧ (∀ b,Fz b → bD b) ∧ fD bD w zs vs bx
 | [],[],zs,[],bs,Gc,Fz,σ,σ',h,hx,hy,hf,hw,hs=>by cases hs;exact ⟨Fz,[],h,fun _ h=>h,rfl⟩
 | x :: xs,y :: ys,zs,v :: vs,bs,Gc,Fz,σ,σ',h,hx,hy,hf,hw,hs=>by
  obtain ⟨y1,y2,h1,h2,_⟩:=hy
  obtain ⟨p,h3,h4⟩:=zbm hs
  obtain ⟨r,h5,h6⟩:=zmm h4
  cases h6
  obtain ⟨F1,b1,e1,e2,e3⟩:=MO Li h hx.1 h1 hf hw h3
  obtain ⟨F2,b2,e4,e5,e6⟩:=AJ Li e1 hx.2 h2 (fun b hb=>e2 b (hf b hb)) hw h5
  refine ⟨F2,b1 ++ b2,e4.perm ?_,fun b hb=>e5 b (e2 b hb),b1,b2,e3.mono e5 (fun _ _=>rfl) (fun _ _=>rfl),e6,rfl⟩
  rw [← ajW]
  exact List.perm_append_comm.append_right bs
 | [],[],_,_ :: _,_,_,_,_,_,_,hx,_,_,_,_=>hx.elim
 | _ :: _,_ :: _,_,[],_,_,_,_,_,_,hx,_,_,_,_=>hx.elim
 | [],_ :: _,_,_,_,_,_,_,_,_,_,_,_,_,hs=>by cases hs
 | _ :: _,[],_,_,_,_,_,_,_,_,_,_,_,_,hs=>by cases hs
end
end
section
open Go
def nK (P:Program):List ResultVar → Option (List Rs)
 | []=>some []
 | .tmp t :: l=>(nK P l).map fun r=>.t t :: r
 | .cell a t :: l=>(uP P t).bind fun g=>(lJ P t).bind fun n=>(nK P l).map fun r=>.cell a (if g then n else 1) g :: r
section
variable {P : Program} {Γ:Env} {bn Fz bD:Nat → Prop} {w0 w w':World} {bg bs:List Nat} {N:Fr} {F:Nat} {κ iV:Nat → Value} {σ fI σ':St} {a:Act} {X:Hx}
def AL (tmps:Array Value) (r:ResultVar):Sem Value:=match r with
 | .tmp t=>pure (tmps.getD t undef)
 | .cell a t=>do loadVar t (← asAddr (tmps.getD a undef))
theorem yt (h:Rel bn w0 bg N Fz κ σ a w):∀ {rv:List ResultVar} {rs:List Rs} {nA:List CV},nK P rv = some rs → slots σ rs = some nA → ∃ vs,(rv.mapM (AL a.tmps)).run P w = .ok vs w ∧ dO Fz κ w nA vs
 | [],rs,nA,hc,hs=>by cases hc;cases hs;exact ⟨[],by simp,trivial⟩
 | .tmp t :: l,rs,nA,hc,hs=>by
  obtain ⟨r,h1,rfl⟩:=zmm hc
  obtain ⟨x,h2,hs⟩:=zbm hs
  obtain ⟨m,h3,rfl⟩:=zmm hs
  obtain ⟨vs,e1,e2⟩:=yt h h1 h3
  have hv:=h.eval (x:=.tmp t) (y:=.t t) rfl h2
  refine ⟨a.tmps.getD t undef :: vs,?_,hv,e2⟩
  rw [List.mapM_cons]
  simp [AL,e1]
 | .cell ad t :: l,rs,nA,hc,hs=>by
  obtain ⟨g,hg,hc⟩:=zbm hc
  obtain ⟨n,hn,hc⟩:=zbm hc
  obtain ⟨r,h1,rfl⟩:=zmm hc
  obtain ⟨x,h2,hs⟩:=zbm hs
  obtain ⟨m,h3,rfl⟩:=zmm hs
  obtain ⟨vs,e1,e2⟩:=yt h h1 h3
  simp only [slot] at h2
  split at h2
  ·rename_i key off hk
   split at h2
   ·rename_i xs fZ
    obtain ⟨sg,h5,h6⟩:=zbm h2
    have hv:iK Fz κ w (.c (.one (.ptr key off))) (a.tmps.getD ad undef):=h.val hk
    obtain ⟨b,g1,g2⟩:=hv
    obtain ⟨b',cs,e,g3,g4,g5⟩:=h.obj fZ
    rw [g1] at g3
    cases g3
    obtain ⟨e6,e7,e8⟩:=g5.seg h5
    obtain ⟨v,e9,e10⟩:=nH (P:=P) (b:=b) (o:=off) hg hn e6 (fun j v hj=>by
     have:=kW (w:=w) (b:=b) (o:=0) (off:=off) (vs:=cs.toList) (n:=if g then n else 1) (fun j v hj=>by
      rw [ajD]
      simp only [World.cell?,g4]
      simpa using hj) j v hj
     rwa [ajD] at this) e7 h6
    refine ⟨v :: vs,?_,e10,e2⟩
    have ha:(asAddr (a.tmps.getD ad undef)).run P w = .ok ⟨b,off,none⟩ w:=by rw [g2];rfl
    have hro:(AL a.tmps (.cell ad t)).run P w = .ok v w:=by
     simp only [AL,Sem.run_bind,ha,Result.andThen_ok]
     exact e9
    rw [List.mapM_cons]
    simp only [Sem.run_bind,hro,e1,Result.andThen_ok,Sem.run_pure]
   ·cases h2
  ·cases h2
theorem Gy (h:Rel bn w0 bg N Fz κ σ a w) {fn:Func} {rs:List Rs} {nA:List CV} (hc:nK P fn.results.toList = some rs) (hs:slots σ rs = some nA):∃ vs,(results fn a.tmps).run P w = .ok (ret vs) w ∧ dO Fz κ w nA vs:=by
 obtain ⟨vs,h1,h2⟩:=yt h hc hs
 refine ⟨vs,?_,h2⟩
 have he:results fn a.tmps = (do let vs ← fn.results.mapM (AL a.tmps);pure (if h:vs.size = 1 then vs[0] else .tuple vs)):=by
  unfold results AL
  congr 1
 rw [he,Array.mapM_eq_mapM_toList]
 simp only [Sem.run_bind,Sem.run_map,h1,Result.andThen_ok,Sem.run_pure]
 match vs with
 | []=>rfl
 | [x]=>rfl
 | x :: y :: l=>simp [ret]
theorem MP {fn:Func} {cf:CF} {dS rs pV:List AV} {vals:List Value} {nA:List CV} {N:Fr} (hr:nK P fn.results.toList = some cf.res) (ha:fD Fz w dS vals bs) (hap:∀ b ∈ bs,¬ Fz b ∧ b < w.heap.size) (hfz:∀ b,Fz b → b < w.heap.size) (g2:dO Fz iV w nA vals) :
  ∀ a' w',Ok Fz w bs N iV σ a' w' → ((j6 σ nA dS).bind fun b=>(slots b.2 cf.res).bind fun l=>(mI cf.ro b.2 l).map fun r=>(r.1,b.1)) = some (rs,pV) →
    a'.defers = N.ds ∧ ∃ v,(results fn a'.tmps).run P w' = .ok v w' ∧ ∃ bD tF b1 b2,Ending.returned v = .returned (ret tF) ∧ Post Fz w vals bs rs pV bD w' tF b1 b2:=by
 rintro a' w' ⟨F1,κ,hr1,hk⟩ hE
 obtain ⟨b,h3,hE⟩:=zbm hE
 obtain ⟨l,h4,hE⟩:=zbm hE
 obtain ⟨r,h5,h6⟩:=zmm hE
 cases h6
 have hmv:∀ b,Fz b → w'.heap[b]? = w.heap[b]?:=fun b hb=>hr1.ext b (hfz b hb) (fun hm=>(hap b hm).1 hb)
 obtain ⟨F2,b1,e1,e2,e3⟩:=AJ hk hr1.x g2 ha (fun b hb=>hr1.zJ b hb) hmv h3
 rw [akb] at e1
 obtain ⟨tF,e4,e5⟩:=Gy e1.rel hr h4
 obtain ⟨F3,b2,e6,e7,e8⟩:=EB e1 e5 h5
 have hpm:=e6.perm List.perm_append_comm
 refine ⟨hr1.mh,ret tF,e4,F3,tF,b1,b2,rfl,fun b hb=>e7 b (e2 b (hr1.zJ b hb)),fun b hb=>e6.rel.fz b hb,hr1.big,hr1.ext,hr1.kp,e3.mono e7 (fun _ _=>rfl) (fun _ _=>rfl),e8,hpm.mh,fun b hb=>?_⟩
 have:=hpm.ap b hb
 exact ⟨this.1,this.2.1,this.2.2.1⟩
theorem fD.len : ∀ {xs:List AV} {vs:List Value} {b:List Nat},fD Fz w xs vs b → vs.length = xs.length
 | [],[],_,_=>rfl
 | [],_ :: _,_,h=>h.elim
 | _ :: _,[],_,h=>h.elim
 | x :: xs,v :: vs,_,⟨_,_,_,h2,_⟩=>by simp [fD.len h2]
theorem entered {bo:List Nat} {n:Nat} {dS:List AV} {vals:List Value} {nA:List CV} (ha:fD Fz w dS vals bs) (hnd:bs.Nodup) (hap:∀ b ∈ bs,¬ Fz b ∧ b < w.heap.size) (hfz:∀ b,Fz b → b < w.heap.size)
  (hsz:(vals.toArray ++ Array.replicate (n - vals.toArray.size) undef).size = n) (h1:enter bo 0 [] ⟨[],[]⟩ dS = some (nA,σ)) :
  ∃ iV,Ok Fz w bs (Fr.of n) iV σ { tmps:=vals.toArray ++ Array.replicate (n - vals.toArray.size) undef,defers:=[] } w ∧ dO Fz iV w nA vals:=by
 have Z5:bT Fz w bs (Fr.of n) (bs ++ []) Fz (fun _=>undef) ⟨[],[]⟩ { tmps:=vals.toArray ++ Array.replicate (n - vals.toArray.size) undef,defers:=[] } w :=
  ⟨⟨fun p hp=>by simp at hp,hsz,rfl,fun d hd=>by
   rw [ajT,akh (by rw [hsz];simpa [Fr.of,BX] using hd)];rfl,fun p hp=>by simp at hp,fun p hp=>by simp at hp,fun p hp=>by simp at hp,fun b hb=>⟨hfz b hb,.inl hb⟩,fun _ h=>h,ajd _,fun _ _ _=>rfl,rfl,rfl⟩,by rw [akb];exact hnd,fun b hb=>by
   rw [akb] at hb
   exact ⟨(hap b hb).1,(hap b hb).2,.inl hb,fun p hp=>by simp at hp⟩⟩
 obtain ⟨iV,g1,g2,_⟩:=Ez Z5 ha (fun j v hj=>by
  rw [ajD,ajT,Array.getElem?_append_left (by
   have:=(aj1.mp hj).1
   simpa using this)]
  simp [hj]) (show aT Fz (fun _=>undef) w [] [] from trivial) h1
 exact ⟨iV,⟨Fz,iV,g1.rel,fun _ _=>rfl⟩,g2⟩
theorem AO (hm:P.follows .mixedOrders = true) (heq:∀ t ∈ X.eqs,lK P t) (kT:iC P Γ) (hC:dN P Γ) {f:FuncId} {fn:Func} {c:Code} (hf:P.funcs[f]? = some fn) (hb:fn.body = some c) {cf:CF} {hints rest:List Hi}
  (hc:comp P X (BX fn.ntmps) c hints = some (cf.body,rest)) (hr:nK P fn.results.toList = some cf.res) (hnp:cf.np ≤ fn.ntmps) (F:Nat):Sat P f (JX Γ F cf):=by
 intro dS rs pV hE Fz w vals bs ha hnd hap hfz
 unfold JX at hE
 split at hE
 ·cases hE
 ·rename_i hlen
  have hlen':dS.length = cf.np:=ajQ.mp hlen
  have hvl:vals.length = dS.length:=ha.len
  obtain ⟨e,h1,hE⟩:=zbm hE
  obtain ⟨p,h2,hE⟩:=zbm hE
  refine calls_of_wp hf hb ?_
  have hsz:(vals.toArray ++ Array.replicate (fn.ntmps - vals.toArray.size) undef).size = fn.ntmps:=by simp;omega
  obtain ⟨iV,hok,g2⟩:=entered ha hnd hap hfz hsz h1
  have fin:=fun a' w'=>MP (σ:=p.2) (N:=Fr.of fn.ntmps) (rs:=rs) (pV:=pV) (cf:=cf) hr ha hap hfz g2 a' w'
  refine Ey hm heq kT hC c hc hok h2 fun a' w' hO=>?_
  cases hp:p.1 with
  | jg=>rw [hp] at hE;exact fin a' w' hO hE
  | ret=>rw [hp] at hE;exact fin a' w' hO hE
  | ext id=>rw [hp] at hE;cases hE
end
end
section
open Go
structure Tok {α:Type} (k:α → Prop):Type where
def W {α:Type} (k:α → Prop) (_:Tok k) (x:Option α):Prop:=∃ a,x = some a ∧ k a
section
variable {α β:Type} {k:α → Prop} {u:Tok k}
theorem gQ {a:α}:W k u (some a) ↔ k a:=by simp [W]
theorem uU : W k u none ↔ False:=by simp [W]
theorem Gz {x:Option β} {f:β → Option α}:W k u (x.bind f) ↔ W (fun a=>W k ⟨⟩ (f a)) ⟨⟩ x:=by
 cases x <;> simp [W]
theorem MQ {x:Option β} {f:β → α}:W k u (x.map f) ↔ W (fun a=>k (f a)) ⟨⟩ x:=by
 cases x <;> simp [W]
theorem Z6 {c:Prop} [Decidable c] {a b:Option α}:W k u (if c then a else b) ↔ (c → W k u a) ∧ (¬ c → W k u b):=by
 by_cases h:c <;> simp [h]
theorem GA {c:Prop} [Decidable c] {a:Option α}:W k u (if c then a else none) ↔ c ∧ W k u a:=by
 by_cases h:c <;> simp [h,uU]
theorem GD {c:Prop} [Decidable c] {a:Option α}:W k u (if c then none else a) ↔ ¬ c ∧ W k u a:=by
 by_cases h:c <;> simp [h,uU]
theorem uV {j:α → Prop} {x:Option α} (h:W j ⟨⟩ x) (hi:∀ a,j a → k a):W k u x:=by
 obtain ⟨a,h1,h2⟩:=h;exact ⟨a,h1,hi a h2⟩
end
def V {α:Type} (k:α → Prop) (x:Option α):Prop:=∃ a,x = some a ∧ k a
section
variable {α β:Type} {k:α → Prop} {u:Tok k}
theorem dQ {x:Option α}:W k u x ↔ V k x:=aje
theorem bC {a:α}:V k (some a) ↔ k a:=by simp [V]
theorem jC : V k none ↔ False:=by simp [V]
theorem aQ {x:Option β} {f:β → Option α}:V k (x.bind f) ↔ V (fun a=>V k (f a)) x:=by
 cases x <;> simp [V]
theorem bU {x:Option β} {f:β → α}:V k (x.map f) ↔ V (fun a=>k (f a)) x:=by
 cases x <;> simp [V]
theorem bM {c:Prop} [Decidable c] {a:Option α}:V k (if c then a else none) ↔ c ∧ V k a:=by
 by_cases h:c <;> simp [h,jC]
theorem dw {c:Prop} [Decidable c] {a:Option α}:V k (if c then none else a) ↔ ¬ c ∧ V k a:=by
 by_cases h:c <;> simp [h,jC]
theorem bX {j:β → Prop}:V k none ↔ V j none:=jC.trans jC.symm
theorem lT {j:β → Prop} {a:α} {b:β} (h:k a ↔ j b):V k (some a) ↔ V j (some b):=bC.trans (h.trans bC.symm)
theorem cZ {x:Option α} {j:α → Prop} (h:∀ a,j a ↔ k a):V j x ↔ V k x:=by
 have:j = k:=funext fun a=>propext (h a)
 rw [this]
end
structure Z7 (A B:Unit → Prop):Type where
def Br (b:Bool) (A B:Unit → Prop) (_:Z7 A B):Prop:=(b = true → A ()) ∧ (b = false → B ())
theorem Qy {A B:Unit → Prop} {u:Z7 A B}:Br true A B u ↔ A ():=by simp [Br]
theorem MR {A B:Unit → Prop} {u:Z7 A B}:Br false A B u ↔ B ():=by simp [Br]
theorem VU {b:Bool} {A B:Unit → Prop} {u:Z7 A B}:Br (!b) A B u ↔ Br b B A ⟨⟩:=by cases b <;> simp [Br]
theorem dU {b:Bool} {A B:Unit → Prop} {u:Z7 A B} (h1:b = true → A ()) (h2:b = false → B ()):Br b A B u:=⟨h1,h2⟩
theorem Ka {α:Type} {x:Option α} {a:α} (h:W (fun b=>b = a) ⟨⟩ x):x = some a:=by
 obtain ⟨b,h1,rfl⟩:=h;exact h1
theorem CO {body:St → Option (Out × St)} {rs:St → St} {k:Out × St → Prop} {u:Tok k} (I:Nat → St → Prop)
  (hstep:∀ m σ,I m σ → W (fun p=>match p.1 with
   | .jg=>∃ j,j < m ∧ I j p.2
   | o=>k (o,p.2)) ⟨⟩ (body (rs σ))):∀ (F m:Nat) (σ:St),m < F → I m σ → W k u (iter body rs F σ)
 | 0,m,σ,h,_=>by omega
 | F + 1,m,σ,h,hI=>by
  obtain ⟨p,h1,h2⟩:=hstep m σ hI
  unfold iter
  rw [h1,Option.bind_some]
  obtain ⟨o,s⟩:=p
  cases o with
  | jg =>
   obtain ⟨j,hj,hI'⟩:=h2
   exact CO I hstep F j s (by omega) hI'
  | ext i=>exact gQ.mpr h2
  | ret=>exact gQ.mpr h2
theorem MS {body:St → Option (Out × St)} {rs:St → St} {k:Out × St → Prop} {u:Tok k} {F:Nat} (N:Nat) (S:Nat → St) (P:Nat → Prop) (hF:N < F) (h0:P 0)
  (step:∀ i,i < N → P i → W (fun p=>match p.1 with
   | .jg=>p.2 = S (i + 1) ∧ P (i + 1)
   | o=>k (o,p.2)) ⟨⟩ (body (rs (S i))))
  (last:P N → W (fun p=>match p.1 with
   | .jg=>False
   | o=>k (o,p.2)) ⟨⟩ (body (rs (S N)))):W k u (iter body rs F (S 0)):=by
 refine CO (fun m σ=>∃ i,i ≤ N ∧ m = N - i ∧ σ = S i ∧ P i) ?_ F N (S 0) hF ⟨0,ajO _,rfl,rfl,h0⟩
 rintro m σ ⟨i,hi,rfl,rfl,hP⟩
 by_cases hlt:i < N
 ·refine uV (step i hlt hP) fun p hp=>?_
  obtain ⟨o,s⟩:=p
  cases o with
  | jg=>exact ⟨N - (i + 1),by omega,i + 1,by omega,rfl,hp.1,hp.2⟩
  | ext j=>exact hp
  | ret=>exact hp
 ·have:i = N:=by omega
  subst this
  refine uV (last hP) fun p hp=>?_
  obtain ⟨o,s⟩:=p
  cases o with
  | jg=>exact hp.elim
  | ext j=>exact hp
  | ret=>exact hp
def look : List (FuncId × CF) → FuncId → Option CF
 | [],_=>none
 | (k,c) :: l,f=>if k = f then some c else look l f
noncomputable def Gm (pG:List (FuncId × CF)) (ext:Env) (F:Nat):Nat → Env
 | 0=>fun _ _=>none
 | n + 1=>fun f dS=>match look pG f with
  | some cf=>JX (Gm pG ext F n) F cf dS
  | none=>ext f dS
structure jT (P:Program) (f:FuncId) (cf:CF):Prop where
 ok:∃ fn c X hints rest,P.funcs[f]? = some fn ∧ (fn.name == "runtime.NumGoroutine") = false ∧ fn.body = some c ∧ (∀ t ∈ X.eqs,lK P t) ∧ comp P X (BX fn.ntmps) c hints = some (cf.body,rest) ∧ nK P fn.results.toList = some cf.res ∧ cf.np ≤ fn.ntmps
theorem yu : ∀ {l:List (FuncId × CF)} {f:FuncId} {c:CF},look l f = some c → (f,c) ∈ l
 | [],_,_,h=>by cases h
 | (k,d) :: l,f,c,h=>by
  unfold look at h
  split at h
  ·rename_i e;subst e;cases h;simp
  ·exact ajY _ (yu h)
theorem AP {P:Program} {pG:List (FuncId × CF)} {ext:Env} {F:Nat} (hm:P.follows .mixedOrders = true) (ht:∀ p ∈ pG,jT P p.1 p.2) (he:iC P ext) (hec:dN P ext):∀ n,iC P (Gm pG ext F n) ∧ dN P (Gm pG ext F n)
 | 0=>⟨fun f dS rs pV h=>by simp [Gm] at h,fun f dS r h=>by simp [Gm] at h⟩
 | n + 1=>by
  obtain ⟨h1,h2⟩:=AP hm ht he hec n
  constructor
  ·intro f
   cases hl:look pG f with
   | none =>
    have:Gm pG ext F (n + 1) f = ext f:=by funext dS;simp only [Gm,hl]
    rw [this];exact he f
   | some cf =>
    have:Gm pG ext F (n + 1) f = JX (Gm pG ext F n) F cf:=by funext dS;simp only [Gm,hl]
    rw [this]
    obtain ⟨fn,c,X,hints,rest,e1,_,e2,e3,e4,e5,e6⟩:=(ht _ (yu hl)).ok
    exact AO hm e3 h1 h2 e1 e2 e4 e5 e6 F
  ·intro f dS r h
   cases hl:look pG f with
   | none=>exact hec f dS r (by simpa only [Gm,hl] using h)
   | some cf =>
    obtain ⟨fn,c,X,hints,rest,e1,e0,e2,_⟩:=(ht _ (yu hl)).ok
    exact ⟨fn,e1,e0,by rw [e2];rfl⟩
theorem dI {pG:List (FuncId × CF)} {ext:Env} {F n:Nat} {f:FuncId} {cf:CF} {dS:List AV} {r:List AV × List AV} (hl:look pG f = some cf) (h:W (fun z=>z = r) ⟨⟩ (JX (Gm pG ext F n) F cf dS)):Gm pG ext F (n + 1) f dS = some r:=by
 simp only [Gm,hl]
 exact Ka h
theorem iE {pG:List (FuncId × CF)} {ext:Env} {F n:Nat} {f:FuncId} (hl:look pG f = none):Gm pG ext F (n + 1) f = ext f:=by
 funext dS;simp only [Gm,hl]
end
section
open Go
def GK (P:Program):List Field → Nat → Bool
 | [],_=>true
 | f :: fs,i=>(f.name != "_") && (f.offset == i) && (Gb P f.type).isSome && GK P fs (i + 1)
def okT (P:Program) (t:TypeId):Bool:=!P.eqGuardType P.depth t && match P.underlying t with
 | some (.struct fs)=>!P.stoodInHeld t && GK P fs.toList 0
 | some (.int _)=>true
 | some .string=>true
 | some .bool=>true
 | _=>false
section
variable {P : Program} {t:TypeId} {w:World}
theorem uW {k:SK} (h:Gb P t = some k):(∃ i,P.underlying t = some (.int i) ∧ k = .int i) ∨ (P.underlying t = some .bool ∧ k = .bool) ∨ (P.underlying t = some .string ∧ k = .str):=by
 unfold Gb at h
 split at h <;> simp_all
theorem Uv {d:Nat} {k:SK} (h:Gb P t = some k) {a b:SV} (ha:a.sk = k) (hb:b.sk = k):(Op.equalIn (d + 1) t (encS a) (encS b)).run P w = .ok (decide (a = b)) w:=by
 rcases uW h with ⟨i,hu,rfl⟩ | ⟨hu,rfl⟩ | ⟨hu,rfl⟩
 ·cases a <;> cases b <;> simp_all [SV.sk,encS,Op.equalIn,run_underlying hu]
  rw [Bool.eq_iff_iff];simp
 ·cases a <;> cases b <;> simp_all [SV.sk,encS,Op.equalIn,run_underlying hu]
  rw [Bool.eq_iff_iff];simp
 ·cases a <;> cases b <;> simp_all [SV.sk,encS,Op.equalIn,run_underlying hu]
  exact Mq.uN _ _
theorem CP {k:SK} (h:Gb P t = some k) {xs:Array Value} {o:Nat} {v:Value} (hx:xs[o]? = some v):(part t xs o).run P w = .ok v w:=by
 rcases uW h with ⟨i,hu,rfl⟩ | ⟨hu,rfl⟩ | ⟨hu,rfl⟩ <;> simp [part,isAgg,run_underlying hu,hx]
theorem AQ {d:Nat} {xs ys:Array Value}:∀ {fs:List Field} {i:Nat} {ks:List SK} {ZZ9 bs:List SV},GK P fs i = true → JZ P fs = some ks → ZZ9.map SV.sk = ks → bs.map SV.sk = ks → (∀ j:Nat,xs[i + j]? = ZZ9[j]?.map encS) → (∀ j:Nat,ys[i + j]? = bs[j]?.map encS) →
  (Op.eqFields (d + 1) xs ys fs).run P w = .ok (decide (ZZ9 = bs)) w
 | [],i,ks,ZZ9,bs,_,hk,ha,hb,_,_=>by
  cases hk
  simp only [List.map_eq_nil_iff] at ha hb
  subst ha;subst hb
  simp [Op.eqFields]
 | f :: fs,i,ks,ZZ9,bs,hf,hk,ha,hb,hx,hy=>by
  obtain ⟨k,h1,h2⟩:=zbm hk
  obtain ⟨l,h3,rfl⟩:=zmm h2
  unfold GK at hf
  simp only [ajg,aki,ne_eq,ajI] at hf
  obtain ⟨⟨⟨f1,f2⟩,f3⟩,f4⟩:=hf
  cases ZZ9 with
  | nil=>simp at ha
  | cons a ZZ9 =>
  cases bs with
  | nil=>simp at hb
  | cons b bs =>
  simp only [ajk,akq] at ha hb
  have ex:xs[f.offset]? = some (encS a):=by rw [f2];simpa using hx 0
  have ey:ys[f.offset]? = some (encS b):=by rw [f2];simpa using hy 0
  have ih:=AQ (d:=d) f4 h3 ha.2 hb.2 (fun j=>by have:=hx (j + 1);rw [show i + 1 + j = i + (j + 1) from by omega];simpa using this) (fun j=>by have:=hy (j + 1);rw [show i + 1 + j = i + (j + 1) from by omega];simpa using this)
  unfold Op.eqFields
  rw [ai8 f1]
  simp only [Sem.run_bind,CP h1 ex,CP h1 ey,Result.andThen_ok,Uv h1 ha.1 hb.1,akq]
  by_cases hab:a = b
  ·subst hab;simp [ih]
  ·simp [hab]
theorem Q7 {e:Bool} {n:Nat} {k:SK} (h:Gb P t = some k) {a:SV} (ha:a.sk = k):(Instr.checkKey e (n + 1) t (encS a)).run P w = .ok () w:=by
 rcases uW h with ⟨i,hu,rfl⟩ | ⟨hu,rfl⟩ | ⟨hu,rfl⟩ <;> cases a <;> simp_all [SV.sk,encS,Instr.checkKey,run_underlying hu]
theorem EH {e:Bool} {n:Nat} {cs:Array Value}:∀ {fs:List Field} {i:Nat} {ks:List SK} {ZZ9:List SV},GK P fs i = true → JZ P fs = some ks → ZZ9.map SV.sk = ks → (∀ j:Nat,cs[i + j]? = ZZ9[j]?.map encS) →
  (forIn fs PUnit.unit (fun (f:Field) (_:PUnit)=>(do
   if f.name ≠ "_" then Instr.checkKey e (n + 1) f.type (← part f.type cs f.offset)
   pure (ForInStep.yield PUnit.unit):Sem (ForInStep PUnit)))).run P w = .ok PUnit.unit w
 | [],i,ks,ZZ9,_,_,_,_=>by simp
 | f :: fs,i,ks,ZZ9,hf,hk,ha,hx=>by
  obtain ⟨k,h1,h2⟩:=zbm hk
  obtain ⟨l,h3,rfl⟩:=zmm h2
  unfold GK at hf
  simp only [ajg,aki,ne_eq,ajI] at hf
  obtain ⟨⟨⟨f1,f2⟩,f3⟩,f4⟩:=hf
  cases ZZ9 with
  | nil=>simp at ha
  | cons a ZZ9 =>
  simp only [ajk,akq] at ha
  have ex:cs[f.offset]? = some (encS a):=by rw [f2];simpa using hx 0
  have ih:=EH (e:=e) (n:=n) f4 h3 ha.2 (fun j=>by have:=hx (j + 1);rw [show i + 1 + j = i + (j + 1) from by omega];simpa using this)
  rw [List.forIn_cons]
  simp only [ai8 f1,Sem.run_bind,CP h1 ex,Result.andThen_ok,Q7 h1 ha.1,Sem.run_pure]
  exact ih
theorem Q8 {e:Bool} {n:Nat} {fs:Array Field} {ks:List SK} {ZZ9:List SV} (hu:P.underlying t = some (.struct fs)) (hf:GK P fs.toList 0 = true) (hk:JZ P fs.toList = some ks) (ha:ZZ9.map SV.sk = ks):(Instr.checkKey e (n + 2) t (.agg (ZZ9.map encS).toArray)).run P w = .ok () w:=by
 have:=EH (w:=w) (e:=e) (n:=n) hf hk ha (cs:=(ZZ9.map encS).toArray) (fun j=>by simp)
 unfold Instr.checkKey
 simp only [Sem.run_bind,run_underlying hu,Result.andThen_ok]
 rw [← Array.forIn_toList]
 simp only [ne_eq,ite_not] at this ⊢
 simp at this ⊢
 rw [this]
 rfl
theorem Q9 {n:Nat} {ZZ9:List SV} (hs:∀ (n:Nat) (a:SV),Instr.sameBits n (encS a) (encS a) = true):Instr.sameBits (n + 1) (.agg (ZZ9.map encS).toArray) (.agg (ZZ9.map encS).toArray) = true:=by
 unfold Instr.sameBits
 simp only [beq_self_eq_true,Bool.true_and,ajp]
 intro p hp
 have:∀ (l:List Value) (p:Value × Value),p ∈ l.zip l → p.1 = p.2 ∧ p.1 ∈ l:=by
  intro l
  induction l with
  | nil=>intro p hp;simp at hp
  | cons x l ih =>
   intro p hp
   rcases ajr.mp hp with rfl | hp
   ·exact ⟨rfl,by simp⟩
   ·exact ⟨(ih p hp).1,ajY _ (ih p hp).2⟩
 obtain ⟨h1,h2⟩:=this _ _ hp
 obtain ⟨x,y⟩:=p
 simp only at h1 h2
 subst h1
 simp only [ajx] at h2
 obtain ⟨s,_,rfl⟩:=h2
 exact hs _ s
theorem IY {n:Nat} (a:SV):Instr.sameBits n (encS a) (encS a) = true:=by
 cases a <;> simp [encS,Instr.sameBits]
 rw [Mq.uN];simp
theorem EI {ks:List SK} {a:KV} (h:a.ks = .agg ks):∃ ZZ9,a = .agg ZZ9 ∧ ZZ9.map SV.sk = ks:=by
 cases a with
 | one x=>cases h
 | agg ZZ9=>exact ⟨ZZ9,rfl,by simpa [KV.ks] using h⟩
theorem AU {k:SK} {a:KV} (h:a.ks = .one k):∃ x,a = .one x ∧ x.sk = k:=by
 cases a with
 | one x=>exact ⟨x,rfl,by simpa [KV.ks] using h⟩
 | agg ZZ9=>cases h
theorem Rf {n:Nat} {d:TypeDesc} (hu:P.underlying t = some d) (hd:∀ ms,d ≠ .interface ms):(Op.eqGuardIn (n + 1) t .nilIface .nilIface).run P w = .ok false w:=by
 unfold Op.eqGuardIn
 simp only [Sem.run_bind,run_underlying hu,Result.andThen_ok]
 cases d <;> first | rfl | exact absurd rfl (hd _)
theorem CQ {d:TypeDesc} (hu:P.underlying t = some d) (hd:∀ ms,d ≠ .interface ms) (w:World):(Op.eqGuardIn Op.maxDepth t .nilIface .nilIface).run P w = .ok false w:=by
 unfold Op.maxDepth
 exact Rf hu hd
theorem WS (h:okT P t = true):lK P t:=by
 unfold okT at h
 rw [ajg] at h
 obtain ⟨hg,h⟩:=h
 have hg':P.eqGuardType P.depth t = false:=by simpa using hg
 have gd:(∀ w,(Op.eqGuardIn Op.maxDepth t .nilIface .nilIface).run P w = .ok false w) → ∀ op x y,∀ (a b:Value) (w:World),(eqGuard op t x y a b).run P w = .ok () w:=by
  intro hn op x y a b w
  have key:(Sem.run P (match a,b with
   | .nilIface,.nilIface=>do
    if (x matches .const _) || (y matches .const _) then return
    if ← Op.eqGuardIn Op.maxDepth t a b then unsupported (.noEntry "binop/eql: two nil values of an interface type with methods, neither of them the literal nil")
   | .agg _,.agg _=>do
    if !(← program).eqGuardType (← program).depth t then return
    if ← Op.eqGuardIn Op.maxDepth t a b then unsupported (.noEntry "binop/eql: two nil values of an interface type with methods, in a part of a struct or an array")
   | _,_=>pure ()) w) = .ok () w:=by
   cases a <;> cases b <;> first | rfl | (simp only [Sem.run_bind,run_program,Result.andThen_ok,hg'];rfl) | skip
   cases x <;> cases y <;> first | rfl | simp [hn]
  unfold eqGuard
  split
  ·exact key
  ·exact key
  ·rfl
 cases hu:P.underlying t with
 | none=>rw [hu] at h;cases h
 | some d =>
  rw [hu] at h
  have sc:∀ k,Gb P t = some k → xL P t = some (.one k) → (∀ w,(Op.eqGuardIn Op.maxDepth t .nilIface .nilIface).run P w = .ok false w) → (∀ a:SV,a.sk = k → MapKept.IsKey d (encS a)) → (∀ a b:SV,a.sk = k → b.sk = k → Instr.sameNow d (encS a) (encS b) = some (decide (a = b))) → lK P t:=by
   intro k hk hks hn h1 h2
   have hcase:∀ {sh},xL P t = some sh → sh = .one k:=fun e=>by rw [hks] at e;cases e;rfl
   refine ⟨fun sh e=>?_,fun sh e a b w ha hb=>?_,gd hn⟩
   ·obtain rfl:=hcase e
    refine Mq.Key.P9 hu (fun a ha=>?_) (fun a b ha hb=>?_) (fun a ha=>?_)
    ·obtain ⟨x,rfl,hx⟩:=AU ha;exact h1 x hx
    ·obtain ⟨x,rfl,hx⟩:=AU ha
     obtain ⟨y,rfl,hy⟩:=AU hb
     simp only [nZ,KV.one.injEq]
     exact h2 x y hx hy
    ·obtain ⟨x,rfl,hx⟩:=AU ha;exact IY x
   ·obtain rfl:=hcase e
    obtain ⟨x,rfl,hx⟩:=AU ha
    obtain ⟨y,rfl,hy⟩:=AU hb
    simp only [nZ,KV.one.injEq]
    unfold Op.equal Op.maxDepth
    exact Uv hk hx hy
  cases d with
  | int i =>
   refine sc (.int i) (by simp [Gb,hu]) (by simp [xL,Gb,hu]) (CQ hu (fun _ h=>by cases h)) (fun a ha=>?_) (fun a b ha hb=>?_)
   ·cases a <;> simp_all [SV.sk,encS,MapKept.IsKey]
   ·cases a <;> cases b <;> simp_all [SV.sk,encS,Instr.sameNow]
    rw [Bool.eq_iff_iff];simp
  | bool =>
   refine sc .bool (by simp [Gb,hu]) (by simp [xL,Gb,hu]) (CQ hu (fun _ h=>by cases h)) (fun a ha=>?_) (fun a b ha hb=>?_)
   ·cases a <;> simp_all [SV.sk,encS,MapKept.IsKey]
   ·cases a <;> cases b <;> simp_all [SV.sk,encS,Instr.sameNow]
    rw [Bool.eq_iff_iff];simp
  | string =>
   refine sc .str (by simp [Gb,hu]) (by simp [xL,Gb,hu]) (CQ hu (fun _ h=>by cases h)) (fun a ha=>?_) (fun a b ha hb=>?_)
   ·cases a <;> simp_all [SV.sk,encS,MapKept.IsKey]
   ·cases a <;> cases b <;> simp_all [SV.sk,encS,Instr.sameNow]
    exact Mq.uN _ _
  | struct fs =>
   simp only [ajg,Bool.not_eq_true'] at h
   have hcase:∀ {sh},xL P t = some sh → ∃ ks,JZ P fs.toList = some ks ∧ sh = .agg ks:=fun e=>by
    unfold xL at e
    rw [hu] at e
    obtain ⟨ks,h1,h2⟩:=zmm e
    exact ⟨ks,h1,h2.symm⟩
   have idx:∀ (ZZ9:List SV) (j:Nat),((ZZ9.map encS).toArray)[0 + j]? = ZZ9[j]?.map encS:=fun ZZ9 j=>by simp
   have heq:∀ sh,xL P t = some sh → ∀ (a b:KV) (w:World),a.ks = sh → b.ks = sh → (Op.equal t (nZ a) (nZ b)).run P w = .ok (decide (a = b)) w:=by
    intro sh e a b w ha hb
    obtain ⟨ks,hks,rfl⟩:=hcase e
    obtain ⟨ZZ9,rfl,ha1⟩:=EI ha
    obtain ⟨bs,rfl,hb1⟩:=EI hb
    have hf:P.fieldsOf t = fs:=by simp [Program.fieldsOf,hu]
    unfold Op.equal Op.maxDepth
    simp only [nZ,KV.agg.injEq]
    rw [run_equalIn_struct (P:=P) w _ t _ _ (by rw [hf];exact hu) h.1,hf]
    exact AQ h.2 hks ha1 hb1 (idx ZZ9) (idx bs)
   refine ⟨fun sh e=>?_,heq,gd (CQ hu (fun _ h=>by cases h))⟩
   ·obtain ⟨ks,hks,rfl⟩:=hcase e
    refine Mq.Key.LG hu (fun e' a w ha=>?_) (fun a b w ha hb=>heq _ e a b w ha hb) (fun a ha=>?_) (fun a ha=>?_)
    ·obtain ⟨ZZ9,rfl,ha1⟩:=EI ha
     exact Q8 (n:=9998) hu h.2 hks ha1
    ·obtain ⟨ZZ9,rfl,ha1⟩:=EI ha
     exact Q9 (n:=9999) (fun n a=>IY a)
    ·obtain ⟨ZZ9,rfl,ha1⟩:=EI ha
     exact ⟨_,rfl⟩
  | _=>simp at h
end
end
section
open Go Go.RowKit
def Lm : SV → TV
 | .int k n=>.f (.int k n)
 | .bool b=>.f (.bool b)
 | .str s=>.f (.str s)
def wK (l:List SV):List AV:=l.map fun x=>.one (Lm x)
section
variable {P : Program} {Fz:Nat → Prop} {w:World}
theorem IZ {x:SV} {v:Value} {bs:List Nat}:nD Fz w (Lm x) v bs ↔ v = encS x ∧ bs = []:=by
 cases x <;> simp only [Lm,nD,eY,encS]
theorem tN : ∀ {l:List SV} {vs:List Value} {bs:List Nat},fD Fz w (wK l) vs bs → vs = l.map encS ∧ bs = []
 | [],[],_,h=>⟨rfl,h⟩
 | [],_ :: _,_,h=>h.elim
 | _ :: _,[],_,h=>h.elim
 | x :: l,v :: vs,_,⟨b1,b2,h1,h2,e⟩=>by
  obtain ⟨e1,e2⟩:=IZ.mp h1
  obtain ⟨e3,e4⟩:=tN (l:=l) h2
  subst e1;subst e2;subst e3;subst e4
  exact ⟨rfl,by rw [e];rfl⟩
theorem qj : ∀ {l:List SV},fD Fz w (wK l) (l.map encS) []
 | []=>rfl
 | x :: l=>⟨[],[],IZ.mpr ⟨rfl,rfl⟩,qj (l:=l),rfl⟩
theorem Sat.sF {f:FuncId} {g:List AV → Option (List AV × List AV)} (h:∀ dS r,g dS = some r → ∃ ZZ9 rs:List SV,dS = wK ZZ9 ∧ r = (wK rs,wK ZZ9) ∧
  ∀ w:World,Calls P f (ZZ9.map encS).toArray w fun e w'=>e = .returned (ret (rs.map encS)) ∧ Below w.heap.size w w'):Sat P f g:=by
 intro dS rs pV hg Fz w vals bs ha hnd hap hfz
 obtain ⟨ZZ9,rs',rfl,e,hc⟩:=h dS _ hg
 cases e
 obtain ⟨rfl,rfl⟩:=tN ha
 refine (hc w).mono fun e w' ⟨h1,hb'⟩=>?_
 exact ⟨Fz,rs'.map encS,[],[],h1,fun _ h=>h,fun b hb=>⟨ajK (hfz b hb) hb'.size,.inl hb⟩,hb'.size,fun b hb _=>hb'.block b hb,⟨hb'.os,hb'.output⟩,qj,qj,by simp,fun b hb=>by simp at hb⟩
def iP : List (FuncId × (List AV → Option (List AV × List AV))) → Env
 | []=>fun _ _=>none
 | (k,g) :: l=>fun f dS=>if k = f then g dS else iP l f dS
theorem tO : ∀ {l:List (FuncId × (List AV → Option (List AV × List AV)))},(∀ p ∈ l,Sat P p.1 p.2) → iC P (iP l)
 | [],_=>fun f dS rs pV h=>by cases h
 | (k,g) :: l,h=>fun f dS rs pV he=>by
  unfold iP at he
  split at he
  ·rename_i e;subst e;exact h (k,g) (by simp) dS rs pV he
  ·exact tO (fun p hp=>h p (ajY _ hp)) f dS rs pV he
theorem oO : ∀ {l:List (FuncId × (List AV → Option (List AV × List AV)))},(∀ p ∈ l,∃ fn,P.funcs[p.1]? = some fn ∧ (fn.name == "runtime.NumGoroutine") = false ∧ fn.body.isSome = true) → dN P (iP l)
 | [],_=>fun f dS r h=>by cases h
 | (k,g) :: l,h=>fun f dS r he=>by
  unfold iP at he
  split at he
  ·rename_i e;subst e;exact h (k,g) (by simp)
  ·exact oO (fun p hp=>h p (ajY _ hp)) f dS r he
end
end
section
open Go
def Uy (n:Nat) (ks:List Nat):Nat → Bool:=fun d=>decide (d < n) && !ks.contains d
noncomputable def Nw (Γ:Env) (F:Nat) (ca cb:CC) (s:Nat) (D:St → Option St) (cf:CF) (dS:List AV):Option (List AV × List AV) :=
 if dS.length ≠ cf.np then none else (enter cf.bo 0 [] ⟨[],[]⟩ dS).bind fun e=>(ev Γ F ca e.2).bind fun p=>match p.1 with
  | .jg=>(ev Γ F cb ⟨put p.2.tm s (.c (.one .any)),p.2.ob⟩).bind fun q=>match q.1 with
   | .ext _=>none
   | _=>(D q.2).bind fun t=>(j6 t e.1 dS).bind fun b=>(slots b.2 cf.res).bind fun l=>(mI cf.ro b.2 l).map fun r=>(r.1,b.1)
  | _=>none
section
variable {P : Program} {Γ:Env} {bn Fz bD:Nat → Prop} {w0 w w':World} {bg bs:List Nat} {N:Fr} {F:Nat} {κ iV:Nat → Value} {σ fI σ':St} {a:Act} {X:Hx}
theorem Ok.reN (h:Ok bn w0 bg N iV σ a w) (N':Fr) (hn:N'.n = N.n) (hfs:∀ d,N'.ok d = false → a.tmps.getD d undef = N'.vs d):Ok bn w0 bg N' iV σ { a with defers:=N'.ds } w:=by
 obtain ⟨Fz,κ,h,hk⟩:=h
 exact ⟨Fz,κ,⟨h.tm,h.sz.trans hn.symm,rfl,hfs,h.ob,h.uO,h.pos,h.fz,h.zJ,h.big,h.ext,h.kp⟩,hk⟩
theorem GU (hm:P.follows .mixedOrders = true) (heq:∀ t ∈ X.eqs,lK P t) (kT:iC P Γ) (hC:dN P Γ) {f g:FuncId} {fn gn:Func} {a1 a2 r:Code} {id s c1 c2 t1 t2:Nat} {p1 p2:String} {GH GI:Array Edge} (hf:P.funcs[f]? = some fn)
  (hb:fn.body = some (.seq a1 (.seq a2 (.seq (.region id #[{ dst:=some s,op:=.makeFunc (.func g) #[] #[.tmp c1,.tmp c2],type:=t1,pos:=p1,after:=GH,guard:=none },{ dst:=none,op:=.defer { callee:=.value (.tmp s),args:=#[],argTypes:=#[] },type:=t2,pos:=p2,after:=GI,guard:=none }] false) r))))
  (hg:P.funcs[g]? = some gn) (hgn:(gn.name == "runtime.NumGoroutine") = false) (hgb:gn.body.isSome = true) {cf:CF} {ca cb:CC} {ha hb' ra rb:List Hi}
  (hca:comp P X (BX fn.ntmps) (.seq a1 a2) ha = some (ca,ra)) (hcb:comp P X (Uy fn.ntmps [c1,c2]) r hb' = some (cb,rb)) (hr:nK P fn.results.toList = some cf.res) (hnp:cf.np ≤ fn.ntmps) (hs:s < fn.ntmps) (hs1:c1 ≠ s) (hs2:c2 ≠ s) {D:St → Option St}
  (hD:∀ (bn:Nat → Prop) (w0:World) (bg:List Nat) (N:Fr) (iV:Nat → Value) (σ σ':St) (a:Act) (w:World),Ok bn w0 bg N iV σ a w → D σ = some σ' → CallsD P g #[a.tmps.getD c1 undef,a.tmps.getD c2 undef] .returning w fun e u w'=>u = .returning ∧ (∃ v,e = .returned v) ∧ Ok bn w0 bg N iV σ' a w')
  (F:Nat):Sat P f (Nw Γ F ca cb s D cf):=by
 intro dS rs pV hE Fz w vals bs Yl hnd hap hfz
 unfold Nw at hE
 split at hE
 ·cases hE
 rename_i hlen
 have hlen':dS.length = cf.np:=ajQ.mp hlen
 have hvl:vals.length = dS.length:=Yl.len
 obtain ⟨e,h1,hE⟩:=zbm hE
 obtain ⟨p,h2,hE⟩:=zbm hE
 refine calls_of_wp_defers hf hb ?_
 have hsz:(vals.toArray ++ Array.replicate (fn.ntmps - vals.toArray.size) undef).size = fn.ntmps:=by simp;omega
 obtain ⟨iV,hok,g2⟩:=entered (bo:=cf.bo) Yl hnd hap hfz hsz h1
 cases hp:p.1 with
 | ext i=>rw [hp] at hE;cases hE
 | ret=>rw [hp] at hE;cases hE
 | jg =>
 rw [hp] at hE
 obtain ⟨q,h3,hEq⟩:=zbm hE
 obtain ⟨x1,hx1,hx2⟩:=zbm hca
 obtain ⟨x2,hx3,hx4⟩:=zmm hx2
 cases hx4
 obtain ⟨y1,hy1,hy2⟩:=zbm h2
 have hyn:y1.1 = .jg ∧ ev Γ F x2.1 y1.2 = some p:=by
  cases hy:y1.1 with
  | jg=>rw [hy] at hy2;exact ⟨rfl,hy2⟩
  | ext i=>rw [hy] at hy2;cases hy2;cases hp
  | ret=>rw [hy] at hy2;cases hy2;cases hp
 obtain ⟨hy3,hy4⟩:=hyn
 refine wp_seq (Ey hm heq kT hC a1 hx1 hok hy1 fun b1 u1 k1=>?_)
 rw [hy3]
 refine wp_seq (Ey hm heq kT hC a2 hx3 k1 hy4 fun b2 u2 k2=>?_)
 rw [hp]
 refine wp_seq ?_
 have hmk:∀ v1 v2:Value,(Instr.makeFunc (.func g) #[] #[v1,v2]).run P u2 = .ok (.func (.func g) #[] #[v1,v2]) u2:=fun _ _=>rfl
 obtain ⟨v1,hv1⟩:∃ v,v = b2.tmps.getD c1 undef:=⟨_,rfl⟩
 obtain ⟨v2,hv2⟩:∃ v,v = b2.tmps.getD c2 undef:=⟨_,rfl⟩
 obtain ⟨b3,hb3⟩:∃ b,b = b2.put (some s) (.func (.func g) #[] #[v1,v2]):=⟨_,rfl⟩
 have hdef:b2.defers = []:=by obtain ⟨_,_,hr2,_⟩:=k2;exact hr2.mh
 have hsz2:b2.tmps.size = fn.ntmps:=by obtain ⟨_,_,hr2,_⟩:=k2;exact hr2.sz
 have hk3:Ok Fz w bs (Fr.of fn.ntmps) iV ⟨put p.2.tm s (.c (.one .any)),p.2.ob⟩ b3 u2:=by
  obtain ⟨F2,Gn,hr2,hk2⟩:=k2
  rw [hb3]
  exact ⟨F2,Gn,hr2.put (by simpa [Fr.of,BX] using hs) (pv:=.c (.one .any)) trivial,hk2⟩
 have hts:∀ d,d ≠ s → b3.tmps.getD d undef = b2.tmps.getD d undef:=fun d hd=>by
  rw [hb3]
  simp only [Act.put,ajT,akf]
  rw [ai9 (fun e=>hd e.symm)]
 obtain ⟨N1,hN1⟩:∃ N:Fr,N = ⟨fn.ntmps,[{ target:=.fn (.func g) #[v1,v2],args:=#[] }],Uy fn.ntmps [c1,c2],fun d h=>by simp [Uy] at h;omega,fun d=>b3.tmps.getD d undef⟩:=⟨_,rfl⟩
 have hk4:=hk3.reN N1 (by rw [hN1];rfl) (fun d _=>by rw [hN1])
 refine wp_region_lit (l:=[_,_]) ?_
 unfold wpList
 rw [ai8 (show Region.wanted _ _ = true from rfl)]
 left
 have r1:(execOp b2.eval { dst:=some s,op:=.makeFunc (.func g) #[] #[.tmp c1,.tmp c2],type:=t1,pos:=p1,after:=GH,guard:=none }).run P u2 = .ok (.value (.func (.func g) #[] #[v1,v2])) u2:=by
  unfold execOp
  simp [Act.eval,hmk,← hv1,← hv2]
 unfold Oper.wp
 rw [r1]
 show wpList P _ _ _ (b2.put (some s) _) u2
 rw [← hb3]
 unfold wpList
 rw [ai8 (show Region.wanted _ _ = true from rfl)]
 left
 have r2:(execOp b3.eval { dst:=none,op:=.defer { callee:=.value (.tmp s),args:=#[],argTypes:=#[] },type:=t2,pos:=p2,after:=GI,guard:=none }).run P u2 = .ok (.defer { target:=.fn (.func g) #[v1,v2],args:=#[] }) u2:=by
  have hvs:b3.eval (.tmp s) = .func (.func g) #[] #[v1,v2]:=by
   rw [hb3]
   simp only [Act.eval,Act.put,ajT,akf]
   rw [ai8 trivial,ai8 (by rw [hsz2];exact hs)]
   rfl
  unfold execOp resolve
  simp only [hvs]
  simp [Deferred.ofValue]
 unfold Oper.wp
 rw [r2]
 show wpList P _ _ _ { b3 with defers:={ target:=.fn (.func g) #[v1,v2],args:=#[] } :: b3.defers } u2
 unfold wpList
 show r.wp P _ _ _
 have hd3:b3.defers = []:=by rw [hb3];exact hdef
 rw [hd3]
 rw [hN1] at hk4
 refine Ey hm heq kT hC r hcb hk4 h3 fun b4 u4 k4=>?_
 have hkeep:∀ d,(d = c1 ∨ d = c2) → b4.tmps.getD d undef = b3.tmps.getD d undef:=fun d hd=>by
  obtain ⟨_,_,hr4,_⟩:=k4
  exact hr4.fs d (by simp [Uy];rcases hd with rfl | rfl <;> simp)
 have hds:b4.defers = [{ target:=.fn (.func g) #[v1,v2],args:=#[] }]:=by obtain ⟨_,_,hr4,_⟩:=k4;exact hr4.mh
 have fin:(∃ t,D q.2 = some t ∧ ((j6 t e.1 dS).bind fun b=>(slots b.2 cf.res).bind fun l=>(mI cf.ro b.2 l).map fun r=>(r.1,b.1)) = some (rs,pV)) → Leaves P fn b4.tmps (fun e w'=>∃ bD tF b1 b2,e = .returned (ret tF) ∧ Post Fz w vals bs rs pV bD w' tF b1 b2) b4.defers .returning u4:=by
  rintro ⟨t,d1,d2⟩
  rw [hds]
  refine leaves_cons (f:=g) (args:=#[v1,v2]) (by simp) ?_ ?_
  ·show (callFunc g (#[] ++ #[v1,v2])).run P u4 = _
   rw [pz hg hgn hgb]
   simp
  ·have hcd:=hD Fz w bs _ iV q.2 t b4 u4 k4 d1
   rw [hkeep c1 (.inl rfl),hkeep c2 (.inr rfl),hts c1 hs1,hts c2 hs2,← hv1,← hv2] at hcd
   refine hcd.mono ?_
   rintro e' u' w' ⟨rfl,⟨v,rfl⟩,k5⟩
   show Leaves P fn b4.tmps _ [] (settle .returning) w'
   obtain ⟨_,v',g3,g4⟩:=MP hr Yl hap hfz g2 b4 w' k5 d2
   exact ⟨v',g3,g4⟩
 cases hq:q.1 with
 | ext i=>rw [hq] at hEq;cases hEq
 | jg =>
  rw [hq] at hEq
  obtain ⟨t,d1,d2⟩:=zbm hEq
  exact fin ⟨t,d1,d2⟩
 | ret =>
  rw [hq] at hEq
  obtain ⟨t,d1,d2⟩:=zbm hEq
  exact fin ⟨t,d1,d2⟩
noncomputable def Dcl (Γ:Env) (F:Nat) (cc:CC) (c1 c2:Nat) (σ:St):Option St:=match get σ.tm c1,get σ.tm c2 with
 | some x,some y=>(ev Γ F cc ⟨[(0,x),(1,y)],σ.ob⟩).bind fun p=>match p.1 with
  | .ext _=>none
  | _=>(get p.2.tm 0).map fun z=>⟨[(c1,z)],p.2.ob⟩
 | _,_=>none
theorem W9 (hm:P.follows .mixedOrders = true) (heq:∀ t ∈ X.eqs,lK P t) (kT:iC P Γ) (hC:dN P Γ) {g:FuncId} {gn:Func} {c:Code} {cc:CC} {h1 h2:List Hi} {c1 c2:Nat} (hg:P.funcs[g]? = some gn) (hb:gn.body = some c) (hc:comp P X (Uy gn.ntmps [0]) c h1 = some (cc,h2)) (hr:gn.results = #[]) (hn:2 ≤ gn.ntmps) (F:Nat)
  (bn:Nat → Prop) (w0:World) (bg:List Nat) (N:Fr) (iV:Nat → Value) (σ σ':St) (a:Act) (w:World) (hO:Ok bn w0 bg N iV σ a w) (hd:Dcl Γ F cc c1 c2 σ = some σ') :
  CallsD P g #[a.tmps.getD c1 undef,a.tmps.getD c2 undef] .returning w fun e u w'=>u = .returning ∧ (∃ v,e = .returned v) ∧ Ok bn w0 bg N iV σ' a w':=by
 unfold Dcl at hd
 split at hd
 ·rename_i x y hx hy
  obtain ⟨p,h3,hd⟩:=zbm hd
  obtain ⟨b0,hb0⟩:∃ b:Act,b = { tmps:=#[a.tmps.getD c1 undef,a.tmps.getD c2 undef] ++ Array.replicate (gn.ntmps - 2) undef,defers:=[] }:=⟨_,rfl⟩
  have e0:b0.tmps.getD 0 undef = a.tmps.getD c1 undef:=by rw [hb0];simp [ajT,Array.getElem?_append]
  have e1:b0.tmps.getD 1 undef = a.tmps.getD c2 undef:=by rw [hb0];simp [ajT,Array.getElem?_append]
  obtain ⟨N',hN'⟩:∃ N:Fr,N = ⟨gn.ntmps,[],Uy gn.ntmps [0],fun d h=>by simp [Uy] at h;omega,fun d=>b0.tmps.getD d undef⟩:=⟨_,rfl⟩
  have CJ:Ok bn w0 bg N' iV ⟨[(0,x),(1,y)],σ.ob⟩ b0 w:=by
   obtain ⟨Fz,κ,hr,hk⟩:=hO
   refine ⟨Fz,κ,⟨fun p hp=>?_,by rw [hb0,hN'];simp;omega,by rw [hb0,hN'],fun d _=>by rw [hN'],hr.ob,hr.uO,hr.pos,hr.fz,hr.zJ,hr.big,hr.ext,hr.kp⟩,hk⟩
   simp only [ajr,akP,or_false] at hp
   rcases hp with rfl | rfl
   ·rw [e0];exact hr.val hx
   ·rw [e1];exact hr.val hy
  have main:∀ b u,Ok bn w0 bg N' iV p.2 b u → (∃ z,get p.2.tm 0 = some z ∧ σ' = ⟨[(c1,z)],p.2.ob⟩) → b.defers = [] ∧ ∃ v,(results gn b.tmps).run P u = .ok v u ∧ (∃ v',Ending.returned v = .returned v') ∧ Ok bn w0 bg N iV σ' a u:=by
   rintro b u ⟨Fz,κ,hr2,hk2⟩ ⟨z,hz,rfl⟩
   refine ⟨by have:=hr2.mh;rw [this,hN'],.tuple #[],?_,⟨_,rfl⟩,?_⟩
   ·unfold results
    rw [hr]
    simp
   ·obtain ⟨_,_,hr,_⟩:=hO
    refine ⟨Fz,κ,⟨fun p hp=>?_,hr.sz,hr.mh,hr.fs,hr2.ob,hr2.uO,hr2.pos,hr2.fz,hr2.zJ,hr2.big,hr2.ext,hr2.kp⟩,hk2⟩
    simp only [ajr,akP,or_false] at hp
    subst hp
    have h5:b.tmps.getD 0 undef = N'.vs 0:=hr2.fs 0 (by rw [hN'];simp [Uy])
    have h6:N'.vs 0 = a.tmps.getD c1 undef:=by rw [hN'];exact e0
    show iK Fz κ u z (a.tmps.getD c1 undef)
    rw [← h6,← h5]
    exact hr2.val hz
  refine callsD_of_wp hg hb ?_
  have hst:({ tmps:=#[a.tmps.getD c1 undef,a.tmps.getD c2 undef] ++ Array.replicate (gn.ntmps - (#[a.tmps.getD c1 undef,a.tmps.getD c2 undef]:Array Value).size) undef,defers:=[] }:Act) = b0:=by rw [hb0];rfl
  rw [hst]
  rw [hN'] at CJ
  refine Ey hm heq kT hC c hc CJ h3 fun b u hk=>?_
  rw [← hN'] at hk
  cases hp:p.1 with
  | ext i=>rw [hp] at hd;cases hd
  | jg =>
   rw [hp] at hd
   obtain ⟨z,hz,rfl⟩:=zmm hd
   exact main b u hk ⟨z,hz,rfl⟩
  | ret =>
   rw [hp] at hd
   obtain ⟨z,hz,rfl⟩:=zmm hd
   exact main b u hk ⟨z,hz,rfl⟩
 ·cases hd
end
end
end Go.Proofs.YtfokaoeinpnagaaGreat.Ev

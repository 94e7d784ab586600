/- A part of the proof of NegOld: cut, joined and given short names by a program of this session (wip/tools/pack.py); Lean checks it. No condition. -/
import Derived.Test.YtdkkgecdhapfhaaPNOlde
import Derived.Orders
import Derived.Scope
import Derived.Test.YtdkkgecdhapfhaaPNOldd
set_option linter.unusedSectionVars false
set_option linter.unusedSimpArgs false
set_option linter.unusedVariables false
namespace Go.Proofs.Ytdkkgecdhapfhaa.Ev
open Go
def Oi : I → Bool
  | .alloc _ _=>false
  | .box _ _=>false
  | .ET _ _ _ _ _=>false
  | .zo _ _=>false
  | .store _ _ _=>false
  | .rZ _=>false
  | .Bd _ _ _ _=>false
  | .del _ _ _=>false
  | .app _ _ _ _ _=>false
  | .Rc _ _ _=>false
  | _=>true
def jm : eB → List Nat
  | .t i=>[i]
  | .k _=>[]
def Fw : Option eB → List Nat
  | none=>[]
  | some x=>jm x
def slP (ps:List (Nat × Nat × eB)):List Nat:=ps.flatMap fun p=>jm p.2.2
def mR : I → List Nat
  | .mv x=>jm x
  | .pick c x y=>jm c ++ jm x ++ jm y
  | .alloc _ _=>[]
  | .box _ x=>jm x
  | .build _ ps=>slP ps
  | .ET _ _ _ _ ps=>slP ps
  | .load _ _ x=>jm x
  | .store _ x v=>jm x ++ jm v
  | .lQ x=>jm x
  | .oD _ x=>jm x
  | .ar _ x y=>jm x ++ jm y
  | .cmp _ x y=>jm x ++ jm y
  | .qN _ _ x y=>jm x ++ jm y
  | .cat x y=>jm x ++ jm y
  | .no x=>jm x
  | .ci _ x=>jm x
  | .mM x=>jm x
  | .rZ _=>[]
  | .IL x lo hi=>jm x ++ Fw lo ++ Fw hi
  | .cut _ x lo hi=>jm x ++ Fw lo ++ Fw hi
  | .fa _ x=>jm x
  | .VY _ _ _ x=>jm x
  | .ia _ x i=>jm x ++ jm i
  | .idx _ _ _ x i=>jm x ++ jm i
  | .chr x i=>jm x ++ jm i
  | .look _ _ _ x k=>jm x ++ jm k
  | .Bd _ x k v=>jm x ++ jm k ++ jm v
  | .del _ x k=>jm x ++ jm k
  | .ext x _=>jm x
  | .uO x=>jm x
  | .jg x=>jm x
  | .Da x=>jm x
  | .app _ _ _ x y=>jm x ++ jm y
  | .mn x y=>jm x ++ jm y
  | .mx x y=>jm x ++ jm y
  | .call _ _ xs=>xs.flatMap jm
  | .zo _ xs=>xs.flatMap jm
  | .Bf _ x=>jm x
  | .bit _ x y=>jm x ++ jm y
  | .SQ _ x y=>jm x ++ jm y
  | .SS _ xs=>xs.flatMap jm
  | .dyn x xs=>jm x ++ xs.flatMap jm
  | .EZ _ x y=>jm x ++ jm y
  | .cutV _ x y=>jm x ++ jm y
  | .Rc _ _ x=>jm x
  | .VZ x=>jm x
section
variable {Γ : Env} {d:Nat} {σ σ2 σ':St} {pv:PV}
def Same (l:List Nat) (σ σ2:St):Prop:=∀ s ∈ l,get σ2.tm s = get σ.tm s
theorem Same.l {l m:List Nat} (h:Same (l ++ m) σ σ2):Same l σ σ2:=fun s hs=>h s (by simp [hs])
theorem Same.r {l m:List Nat} (h:Same (l ++ m) σ σ2):Same m σ σ2:=fun s hs=>h s (by simp [hs])
theorem Same.val {x:eB} (h:Same (jm x) σ σ2):Ev.val σ2 x = Ev.val σ x:=by
  cases x with
  | t i=>simp only [Ev.val];rw [h i (by simp [jm])]
  | k x=>rfl
theorem Same.sD {x:eB} (h:Same (jm x) σ σ2):Ev.sD σ2 x = Ev.sD σ x:=by
  cases x with
  | t i=>simp only [Ev.sD];rw [h i (by simp [jm])]
  | k x=>rfl
theorem Same.vals : ∀ {ps:List (Nat × Nat × eB)},Same (slP ps) σ σ2 → Ev.vals σ2 ps = Ev.vals σ ps
  | [],_=>rfl
  | (o,n,x) :: ps,h=>by
    unfold slP at h
    rw [List.flatMap_cons] at h
    unfold Ev.vals
    rw [h.l.val,Same.vals h.r]
theorem Same.jc : ∀ {xs:List eB},Same (xs.flatMap jm) σ σ2 → Ev.jc σ2 xs = Ev.jc σ xs
  | [],_=>rfl
  | x :: xs,h=>by
    rw [List.flatMap_cons] at h
    unfold Ev.jc
    rw [h.l.val,Same.jc h.r]
theorem Same.bnd {x:Option eB} {n m:Nat} (h:Same (Fw x) σ σ2):Ev.bnd σ2 n x m = Ev.bnd σ n x m:=by
  cases x with
  | none=>rfl
  | some x=>simp only [Ev.bnd];rw [Same.val h]
theorem Same.rng {lo hi:Option eB} {n:Nat} (hl:Same (Fw lo) σ σ2) (hh:Same (Fw hi) σ σ2):Ev.rng n σ2 lo hi = Ev.rng n σ lo hi:=by
  unfold Ev.rng
  rw [hh.bnd]
  congr 1
  funext h
  rw [hl.bnd]
theorem Aa {gv:Bool} {x:PL} {y:TV} (ho:∀ k o,get σ.ob k = some o → get σ2.ob k = some o) (h:q9 gv σ x = some (y,σ')) (hp:plain y = true):σ' = σ ∧ q9 gv σ2 x = some (y,σ2):=by
  cases x with
  | f x=>cases h;exact ⟨rfl,rfl⟩
  | fQ=>cases h;exact ⟨rfl,rfl⟩
  | jF=>cases h;exact ⟨rfl,rfl⟩
  | fB=>cases h;exact ⟨rfl,rfl⟩
  | own k n =>
    simp only [q9] at h ⊢
    split at h
    · rename_i hk
      split at h
      · cases h;cases hp
      · rename_i hg;cases h;rw [ho _ _ hk];simp only [if_neg hg];exact ⟨trivial,trivial⟩
    · cases h
  | fp cs=>cases h;exact ⟨rfl,rfl⟩
  | fn f cs=>cases h;exact ⟨rfl,rfl⟩
  | mp k =>
    simp only [q9] at h
    split at h
    · cases h;cases hp
    · cases h
  | ptr k o =>
    cases o with
    | succ n=>cases h
    | zero =>
      simp only [q9] at h
      split at h
      · obtain ⟨p,_,h2⟩:=zmm h;cases h2;cases hp
      · cases h
  | _=>cases h
theorem xR {gv:Bool} (ho:∀ k o,get σ.ob k = some o → get σ2.ob k = some o):∀ {xs:List PL} {ys:List TV} {σ':St},ru gv σ xs = some (ys,σ') → ys.all plain = true → σ' = σ ∧ ru gv σ2 xs = some (ys,σ2)
  | [],ys,σ',h,_=>by cases h;exact ⟨rfl,rfl⟩
  | x :: xs,ys,σ',h,hp=>by
    obtain ⟨p,h1,h2⟩:=zbm h
    obtain ⟨r,h3,h4⟩:=zmm h2
    cases h4
    rw [List.all_cons,Bool.and_eq_true] at hp
    obtain ⟨e1,e2⟩:=Aa ho h1 hp.1
    rw [e1] at h3
    obtain ⟨e3,e4⟩:=xR ho h3 hp.2
    exact ⟨e3,by unfold ru;rw [e2];simp only [Option.bind_some];rw [e4];rfl⟩
theorem xS {gv:Bool} (ho:∀ k o,get σ.ob k = some o → get σ2.ob k = some o):∀ {xs:List CV} {ys:List AV} {σ':St},sj gv σ xs = some (ys,σ') → ys.all fG = true → σ' = σ ∧ sj gv σ2 xs = some (ys,σ2)
  | [],ys,σ',h,_=>by cases h;exact ⟨rfl,rfl⟩
  | x :: xs,ys,σ',h,hp=>by
    obtain ⟨p,h1,h2⟩:=zbm h
    obtain ⟨r,h3,h4⟩:=zmm h2
    cases h4
    rw [List.all_cons,Bool.and_eq_true] at hp
    have key:p.2 = σ ∧ Ki gv σ2 x = some (p.1,σ2):=by
      cases x with
      | one x =>
        obtain ⟨u,g1,g2⟩:=zmm h1
        obtain ⟨e1,e2⟩:=Aa ho g1 (by rw [← g2] at hp;exact hp.1)
        exact ⟨by rw [← g2];exact e1,by simp only [Ki];rw [e2,← g2];rfl⟩
      | agg xs =>
        obtain ⟨u,g1,g2⟩:=zmm h1
        obtain ⟨e1,e2⟩:=xR ho g1 (by rw [← g2] at hp;exact hp.1)
        exact ⟨by rw [← g2];exact e1,by simp only [Ki];rw [e2,← g2];rfl⟩
    rw [key.1] at h3
    obtain ⟨e3,e4⟩:=xS ho h3 hp.2
    exact ⟨e3,by unfold sj;rw [key.2];simp only [Option.bind_some];rw [e4];rfl⟩
theorem Ab {key:Nat} {pend:List PL} {x:TV} (hp:plain x = true):∃ l,∀ σ,C8 key pend σ x = some (l,σ):=by
  cases x with
  | f x=>exact ⟨_,fun _=>rfl⟩
  | jF=>exact ⟨_,fun _=>rfl⟩
  | fB=>exact ⟨_,fun _=>rfl⟩
  | fp cs=>exact ⟨_,fun _=>rfl⟩
  | fn f cs=>exact ⟨_,fun _=>rfl⟩
  | any=>exact ⟨_,fun _=>rfl⟩
  | _=>cases hp
theorem xU {base:Nat}:∀ {xs:List TV} {j:Nat} {pend:List PL},xs.all plain = true → ∃ l,∀ σ,xu base j pend σ xs = some (l,σ)
  | [],_,_,_=>⟨[],fun _=>rfl⟩
  | x :: xs,j,pend,hp=>by
    rw [List.all_cons,Bool.and_eq_true] at hp
    obtain ⟨l,h1⟩:=Ab (key:=base + 200 * (j + 1)) (pend:=pend) hp.1
    obtain ⟨m,h2⟩:=xU (base:=base) (j:=j + 1) (pend:=l :: pend) hp.2
    exact ⟨l :: m,fun σ=>by unfold xu;rw [h1];simp only [Option.bind_some];rw [h2];rfl⟩
theorem xV {base:Nat}:∀ {xs:List AV} {i:Nat} {pend:List PL},xs.all fG = true → ∃ l,∀ σ,xw base i pend σ xs = some (l,σ)
  | [],_,_,_=>⟨[],fun _=>rfl⟩
  | x :: xs,i,pend,hp=>by
    rw [List.all_cons,Bool.and_eq_true] at hp
    have key:∃ l,∀ σ,Kj (base + 2000 * i) pend σ x = some (l,σ):=by
      cases x with
      | one x=>obtain ⟨l,h⟩:=Ab (key:=base + 2000 * i + 200) (pend:=pend) hp.1;exact ⟨.one l,fun σ=>by simp only [Kj];rw [h];rfl⟩
      | agg xs=>obtain ⟨l,h⟩:=xU (base:=base + 2000 * i) (j:=0) (pend:=pend) hp.1;exact ⟨.agg l,fun σ=>by simp only [Kj];rw [h];rfl⟩
    obtain ⟨l,h1⟩:=key
    obtain ⟨m,h2⟩:=xV (base:=base) (i:=i + 1) (pend:=cells l ++ pend) hp.2
    exact ⟨l :: m,fun σ=>by unfold xw;rw [h1];simp only [Option.bind_some];rw [h2];rfl⟩
theorem xW {gv:Bool} (ho:∀ k o,get σ.ob k = some o → get σ2.ob k = some o) {f:FuncId} {args:List CV} (hE:kQ Γ gv true σ d f args = some (pv,σ')):σ' = σ ∧ kQ Γ gv true σ2 d f args = some (pv,σ2):=by
  unfold kQ at hE ⊢
  obtain ⟨p,h1,hE⟩:=zbm hE
  obtain ⟨r,h2,hE⟩:=zbm hE
  split at hE
  · cases hE
  rename_i hq1
  split at hE
  · cases hE
  rename_i hq2
  have hpl:p.1.all fG = true ∧ r.1.all fG = true:=by simpa using hq1
  obtain ⟨e1,e2⟩:=xS ho h1 hpl.1
  obtain ⟨l,hl⟩:=xV (base:=dF d) (i:=0) (pend:=[]) hpl.2
  have hfr:((r.1.any wu || !p.1.all fG) && args.any (fun x=>(cells x).any gD)) = false:=by
    cases hc:((r.1.any wu || !p.1.all fG) && args.any (fun x=>(cells x).any gD)) with
    | false=>rfl
    | true=>rw [hc] at hq2;exact absurd rfl hq2
  have h3:(r.1.any wu && args.any (fun x=>(cells x).any gD)) = false:=by simpa [hpl.1] using hfr
  simp only [hpl.1,hpl.2,Bool.not_true,Bool.or_false,h3,Bool.false_eq_true,if_false,if_true,Option.bind_some,hl,Option.map_some,Bool.and_false,Bool.and_self,Option.some.injEq,Prod.mk.injEq] at hE
  simp only [e2,Option.bind_some,h2,hpl.1,hpl.2,Bool.not_true,Bool.or_false,h3,Bool.false_eq_true,if_false,if_true,hl,Option.map_some,Bool.and_false,Bool.and_self]
  exact ⟨by rw [← hE.2];exact e1,by rw [hE.1]⟩
end
end Go.Proofs.Ytdkkgecdhapfhaa.Ev
namespace Go.Proofs.Ytdkkgecdhapfhaa.Ev
open Go
section
variable {Γ : Env} {d:Nat} {σ σ2 σ':St} {pv:PV}
theorem Fx {l:List CV}:∀ {caps:List (List FV)} {τ:St},lT true σ l = some (caps,τ) → τ = σ ∧ lT true σ2 l = some (caps,σ2):=by
  induction l with
  | nil=>intro caps τ h;simp only [lT] at h;cases h;exact ⟨rfl,by simp only [lT]⟩
  | cons y l ih =>
    intro caps τ h
    have one:∀ cs,y = .one (.fp cs) → τ = σ ∧ lT true σ2 (y :: l) = some (caps,σ2):=by
      intro cs hy
      subst hy
      simp only [lT] at h ⊢
      obtain ⟨r,g1,g2⟩:=zmm h
      cases g2
      obtain ⟨e1,e2⟩:=ih g1
      exact ⟨e1,by rw [e2];rfl⟩
    cases y with
    | one x =>
      cases x with
      | fp cs=>exact one cs rfl
      | ptr k o=>cases o <;> simp [lT] at h
      | _=>simp [lT] at h
    | agg xs=>simp [lT] at h
theorem Oj {i:I} (hi:Oi i = true) (hs:Same (mR i) σ σ2) (ho:∀ k o,get σ.ob k = some o → get σ2.ob k = some o) (hE:cO Γ true σ d i = some (pv,σ')):σ' = σ ∧ cO Γ true σ2 d i = some (pv,σ2):=by
  cases i with
  | alloc e z=>cases hi
  | box e x=>cases hi
  | ET e sz len z ps=>cases hi
  | zo f xs=>cases hi
  | store n x v=>cases hi
  | rZ sh=>cases hi
  | Bd sh x k v=>cases hi
  | del sh x k=>cases hi
  | app e sz b x y=>cases hi
  | mv x =>
    simp only [mR] at hs
    simp only [cO] at hE ⊢
    rw [hs.sD]
    obtain ⟨v,h1,h2⟩:=zmm hE
    cases h2
    rw [h1];simp only [Option.map_some];exact ⟨trivial,trivial⟩
  | pick c x y =>
    simp only [mR] at hs
    simp only [cO] at hE ⊢
    obtain ⟨v,h1,h2⟩:=zbm hE
    obtain ⟨t,h3,h4⟩:=zbm h2
    obtain ⟨u,h5,h6⟩:=zmm h4
    cases h6
    rw [hs.l.l.val,h1]
    simp only [Option.bind_some,h3]
    have:Ev.val σ2 (if t then x else y) = Ev.val σ (if t then x else y):=by
      cases t
      · exact hs.r.val
      · exact hs.l.r.val
    rw [this,h5];exact ⟨trivial,rfl⟩
  | build z ps =>
    simp only [mR] at hs
    simp only [cO] at hE ⊢
    obtain ⟨v,h1,h2⟩:=zbm hE
    obtain ⟨u,h3,h4⟩:=zmm h2
    cases h4
    rw [hs.vals,h1]
    simp only [Option.bind_some,h3,Option.map_some]
    exact ⟨trivial,trivial⟩
  | load n g x =>
    simp only [mR] at hs
    simp only [cO] at hE ⊢
    obtain ⟨v,h1,h2⟩:=zbm hE
    rw [hs.val,h1]
    simp only [Option.bind_some]
    split at h2
    · split at h2
      · rename_i fU
        obtain ⟨l,h3,h4⟩:=zbm h2
        obtain ⟨u,h5,h6⟩:=zmm h4
        cases h6
        simp only [ho _ _ fU,h3,Option.bind_some,h5,Option.map_some]
        exact ⟨trivial,trivial⟩
      · cases h2
    · obtain ⟨l,h3,h4⟩:=zbm h2
      obtain ⟨u,h5,h6⟩:=zmm h4
      cases h6
      simp only [h3,Option.bind_some,h5,Option.map_some]
      exact ⟨trivial,trivial⟩
    · split at h2
      · rename_i fU
        split at h2
        · cases h2
        · rename_i hz
          obtain ⟨r,h7,h8⟩:=zbm h2
          obtain ⟨l,h3,h4⟩:=zbm h8
          obtain ⟨u,h5,h6⟩:=zmm h4
          cases h6
          simp only [ho _ _ fU,if_neg hz,h7,h3,Option.bind_some,h5,Option.map_some]
          exact ⟨trivial,trivial⟩
      · cases h2
    · cases h2
  | lQ x =>
    simp only [mR] at hs
    simp only [cO] at hE ⊢
    obtain ⟨v,h1,h2⟩:=zbm hE
    rw [hs.val,h1]
    simp only [Option.bind_some]
    split at h2 <;> cases h2 <;> exact ⟨rfl,rfl⟩
  | oD neg x =>
    simp only [mR] at hs
    simp only [cO] at hE ⊢
    obtain ⟨v,h1,h2⟩:=zbm hE
    rw [hs.val,h1]
    simp only [Option.bind_some]
    split at h2 <;> cases h2 <;> exact ⟨rfl,rfl⟩
  | ar o x y =>
    simp only [mR] at hs
    simp only [cO] at hE ⊢
    obtain ⟨u,h1,hE⟩:=zbm hE
    obtain ⟨v,h2,hE⟩:=zbm hE
    obtain ⟨m,h3,hE⟩:=zbm hE
    obtain ⟨n,h4,hE⟩:=zbm hE
    split at hE
    · rename_i hk
      obtain ⟨r,h5,hE⟩:=zbm hE
      cases hE
      rw [hs.l.val,hs.r.val]
      simp only [h1,h2,h3,h4,h5,Option.bind_some,if_pos hk,one]
      exact ⟨trivial,trivial⟩
    · cases hE
  | cmp o x y =>
    simp only [mR] at hs
    simp only [cO] at hE ⊢
    obtain ⟨u,h1,hE⟩:=zbm hE
    obtain ⟨v,h2,hE⟩:=zbm hE
    obtain ⟨m,h3,hE⟩:=zbm hE
    obtain ⟨n,h4,hE⟩:=zbm hE
    split at hE
    · rename_i hk
      cases hE
      rw [hs.l.val,hs.r.val]
      simp only [h1,h2,h3,h4,Option.bind_some,if_pos hk,one]
      exact ⟨trivial,trivial⟩
    · cases hE
  | qN sh neg x y =>
    simp only [mR] at hs
    simp only [cO] at hE ⊢
    obtain ⟨u,h1,hE⟩:=zbm hE
    obtain ⟨v,h2,hE⟩:=zbm hE
    obtain ⟨m,h3,hE⟩:=zbm hE
    obtain ⟨n,h4,hE⟩:=zbm hE
    split at hE
    · rename_i hk
      cases hE
      rw [hs.l.val,hs.r.val]
      simp only [h1,h2,h3,h4,Option.bind_some,if_pos hk,one]
      exact ⟨trivial,trivial⟩
    · cases hE
  | cat x y =>
    simp only [mR] at hs
    simp only [cO] at hE ⊢
    obtain ⟨u,h1,hE⟩:=zbm hE
    obtain ⟨v,h2,hE⟩:=zbm hE
    rw [hs.l.val,hs.r.val]
    simp only [h1,h2,Option.bind_some]
    split at hE
    · split at hE
      · rename_i hk;cases hE;simp only [if_pos hk,one];exact ⟨trivial,trivial⟩
      · cases hE
    · cases hE
  | no x =>
    simp only [mR] at hs
    simp only [cO] at hE ⊢
    obtain ⟨u,h1,hE⟩:=zbm hE
    obtain ⟨v,h2,hE⟩:=zbm hE
    cases hE
    rw [hs.val]
    simp only [h1,h2,Option.bind_some,one]
    exact ⟨trivial,trivial⟩
  | ci k x =>
    simp only [mR] at hs
    simp only [cO] at hE ⊢
    obtain ⟨u,h1,hE⟩:=zbm hE
    obtain ⟨v,h2,hE⟩:=zbm hE
    cases hE
    rw [hs.val]
    simp only [h1,h2,Option.bind_some,one]
    exact ⟨trivial,trivial⟩
  | mM x =>
    simp only [mR] at hs
    simp only [cO] at hE ⊢
    obtain ⟨u,h1,hE⟩:=zbm hE
    rw [hs.val,h1]
    simp only [Option.bind_some]
    split at hE
    · cases hE;exact ⟨rfl,rfl⟩
    · cases hE
  | IL x lo hi =>
    simp only [mR] at hs
    simp only [cO] at hE ⊢
    obtain ⟨u,h1,hE⟩:=zbm hE
    rw [hs.l.l.val,h1]
    simp only [Option.bind_some]
    split at hE
    · obtain ⟨p,h2,hE⟩:=zbm hE
      cases hE
      rw [Same.rng hs.l.r hs.r,h2]
      exact ⟨rfl,rfl⟩
    · cases hE
  | cut sz x lo hi =>
    simp only [mR] at hs
    simp only [cO] at hE ⊢
    obtain ⟨u,h1,hE⟩:=zbm hE
    rw [hs.l.l.val,h1]
    simp only [Option.bind_some]
    split at hE
    · split at hE
      · cases hE
      · rename_i hz
        obtain ⟨p,h2,hE⟩:=zbm hE
        cases hE
        rw [if_neg hz,Same.rng hs.l.r hs.r,h2]
        exact ⟨rfl,rfl⟩
    · obtain ⟨p,h2,hE⟩:=zbm hE
      cases hE
      rw [Same.rng hs.l.r hs.r,h2]
      exact ⟨rfl,rfl⟩
    · split at hE
      · split at hE
        · cases hE
        · obtain ⟨p,h2,hE⟩:=zbm hE
          rw [if_pos trivial] at hE
          cases hE
      · cases hE
    · cases hE
  | fa off x =>
    simp only [mR] at hs
    simp only [cO] at hE ⊢
    obtain ⟨v,h1,h2⟩:=zbm hE
    rw [hs.val,h1]
    simp only [Option.bind_some]
    split at h2 <;> cases h2 <;> exact ⟨rfl,rfl⟩
  | VY off n g x =>
    simp only [mR] at hs
    simp only [cO] at hE ⊢
    obtain ⟨v,h1,h2⟩:=zbm hE
    rw [hs.val,h1]
    simp only [Option.bind_some]
    split at h2
    · obtain ⟨l,h3,h4⟩:=zbm h2
      obtain ⟨u,h5,h6⟩:=zmm h4
      cases h6
      simp only [h3,Option.bind_some,h5,Option.map_some]
      exact ⟨trivial,trivial⟩
    · cases h2
  | ia sz x i =>
    simp only [mR] at hs
    simp only [cO] at hE ⊢
    obtain ⟨v,h1,hE⟩:=zbm hE
    obtain ⟨j,h2,hE⟩:=zbm hE
    obtain ⟨p,h3,hE⟩:=zbm hE
    rw [hs.l.val,hs.r.val]
    simp only [h1,h2,h3,Option.bind_some]
    split at hE
    · rename_i h0
      rw [if_pos h0]
      split at hE
      · obtain ⟨r,h4,hE⟩:=zbm hE
        split at hE
        · rename_i hk;cases hE;simp only [h4,Option.bind_some,if_pos hk];exact ⟨trivial,trivial⟩
        · cases hE
      · split at hE
        · rename_i fU
          split at hE
          · rename_i hk;cases hE;simp only [ho _ _ fU,if_pos hk];exact ⟨trivial,trivial⟩
          · cases hE
        · cases hE
      · cases hE
    · cases hE
  | idx sz len g x i =>
    simp only [mR] at hs
    simp only [cO] at hE ⊢
    obtain ⟨v,h1,hE⟩:=zbm hE
    obtain ⟨j,h2,hE⟩:=zbm hE
    obtain ⟨p,h3,hE⟩:=zbm hE
    rw [hs.l.val,hs.r.val]
    simp only [h1,h2,h3,Option.bind_some]
    split at hE
    · rename_i h0
      rw [if_pos h0]
      split at hE
      · obtain ⟨l,h4,hE⟩:=zbm hE
        obtain ⟨u,h5,h6⟩:=zmm hE
        cases h6
        simp only [h4,Option.bind_some,h5,Option.map_some]
        exact ⟨trivial,trivial⟩
      · cases hE
    · cases hE
  | chr x i =>
    simp only [mR] at hs
    simp only [cO] at hE ⊢
    obtain ⟨v,h1,hE⟩:=zbm hE
    obtain ⟨j,h2,hE⟩:=zbm hE
    obtain ⟨p,h3,hE⟩:=zbm hE
    rw [hs.l.val,hs.r.val]
    simp only [h1,h2,h3,Option.bind_some]
    split at hE
    · split at hE
      · rename_i h0
        obtain ⟨b,h4,hE⟩:=zbm hE
        cases hE
        simp only [if_pos h0,h4,Option.bind_some,one]
        exact ⟨trivial,trivial⟩
      · cases hE
    · cases hE
  | look sh z ok x k =>
    simp only [mR] at hs
    simp only [cO] at hE ⊢
    obtain ⟨v,h1,hE⟩:=zbm hE
    obtain ⟨u,h2,hE⟩:=zbm hE
    obtain ⟨b,h3,hE⟩:=zbm hE
    rw [hs.l.val,hs.r.val]
    simp only [h1,h2,h3,Option.bind_some]
    split at hE
    · cases hE
    · rename_i hsh
      rw [if_neg hsh]
      obtain ⟨r,h4,h5⟩:=zmm hE
      cases h5
      split at h4
      · cases h4;exact ⟨rfl,rfl⟩
      · split at h4
        · rename_i fU
          split at h4
          · rename_i hk;cases h4;simp only [ho _ _ fU,if_pos hk,Option.map_some];exact ⟨trivial,trivial⟩
          · cases h4
        · cases h4
      · cases h4
  | ext x i =>
    simp only [mR] at hs
    simp only [cO] at hE ⊢
    rw [hs.sD]
    split at hE
    · rename_i l hl
      obtain ⟨v,h1,h2⟩:=zmm hE
      cases h2
      simp only [h1,Option.map_some]
      exact ⟨trivial,trivial⟩
    · cases hE
  | uO x =>
    simp only [mR] at hs
    simp only [cO] at hE ⊢
    obtain ⟨v,h1,h2⟩:=zbm hE
    rw [hs.val,h1]
    simp only [Option.bind_some]
    split at h2 <;> cases h2 <;> exact ⟨rfl,rfl⟩
  | jg x =>
    simp only [mR] at hs
    simp only [cO] at hE ⊢
    obtain ⟨v,h1,h2⟩:=zbm hE
    rw [hs.val,h1]
    simp only [Option.bind_some]
    split at h2 <;> cases h2 <;> exact ⟨rfl,rfl⟩
  | Da x =>
    simp only [mR] at hs
    simp only [cO] at hE ⊢
    obtain ⟨v,h1,h2⟩:=zbm hE
    rw [hs.val,h1]
    simp only [Option.bind_some]
    split at h2
    · cases h2;exact ⟨rfl,rfl⟩
    · split at h2
      · rename_i fU;cases h2;simp only [ho _ _ fU,one];exact ⟨trivial,trivial⟩
      · cases h2
    · cases h2
  | mn x y =>
    simp only [mR] at hs
    simp only [cO] at hE ⊢
    obtain ⟨u,h1,hE⟩:=zbm hE
    obtain ⟨v,h2,hE⟩:=zbm hE
    obtain ⟨m,h3,hE⟩:=zbm hE
    obtain ⟨n,h4,hE⟩:=zbm hE
    rw [hs.l.val,hs.r.val]
    simp only [h1,h2,h3,h4,Option.bind_some]
    split at hE
    · rename_i hk;cases hE;rw [if_pos hk];exact ⟨rfl,rfl⟩
    · cases hE
  | mx x y =>
    simp only [mR] at hs
    simp only [cO] at hE ⊢
    obtain ⟨u,h1,hE⟩:=zbm hE
    obtain ⟨v,h2,hE⟩:=zbm hE
    obtain ⟨m,h3,hE⟩:=zbm hE
    obtain ⟨n,h4,hE⟩:=zbm hE
    rw [hs.l.val,hs.r.val]
    simp only [h1,h2,h3,h4,Option.bind_some]
    split at hE
    · rename_i hk;cases hE;rw [if_pos hk];exact ⟨rfl,rfl⟩
    · cases hE
  | Rc sz z x=>cases hi
  | call gv f xs =>
    simp only [mR] at hs
    simp only [cO] at hE ⊢
    obtain ⟨l,h1,hE⟩:=zbm hE
    rw [hs.jc,h1]
    simp only [Option.bind_some]
    exact xW ho hE
  | dyn x xs =>
    simp only [mR] at hs
    simp only [cO] at hE ⊢
    obtain ⟨v,h0,hE⟩:=zbm hE
    rw [hs.l.val,h0]
    simp only [Option.bind_some]
    split at hE
    · obtain ⟨l,h1,hE⟩:=zbm hE
      simp only [hs.r.jc,h1,Option.bind_some]
      exact xW ho hE
    · cases hE
  | SS f xs =>
    simp only [mR] at hs
    simp only [cO] at hE ⊢
    obtain ⟨l,h1,hE⟩:=zbm hE
    rw [hs.jc,h1]
    simp only [Option.bind_some]
    obtain ⟨p,h2,h3⟩:=zmm hE
    cases h3
    obtain ⟨e1,e2⟩:=Fx (σ2:=σ2) h2
    rw [e2]
    exact ⟨e1,rfl⟩
  | Bf neg x =>
    simp only [mR] at hs
    simp only [cO] at hE ⊢
    obtain ⟨v,h1,h2⟩:=zbm hE
    rw [hs.val,h1]
    simp only [Option.bind_some]
    split at h2 <;> cases h2 <;> exact ⟨rfl,rfl⟩
  | bit o x y =>
    simp only [mR] at hs
    simp only [cO] at hE ⊢
    obtain ⟨u,h1,hE⟩:=zbm hE
    obtain ⟨v,h2,hE⟩:=zbm hE
    obtain ⟨m,h3,hE⟩:=zbm hE
    obtain ⟨n,h4,hE⟩:=zbm hE
    rw [hs.l.val,hs.r.val]
    simp only [h1,h2,h3,h4,Option.bind_some]
    split at hE
    · rename_i hk;cases hE;rw [if_pos hk];exact ⟨rfl,rfl⟩
    · cases hE
  | SQ o x y =>
    simp only [mR] at hs
    simp only [cO] at hE ⊢
    obtain ⟨u,h1,hE⟩:=zbm hE
    obtain ⟨v,h2,hE⟩:=zbm hE
    obtain ⟨m,h3,hE⟩:=zbm hE
    obtain ⟨n,h4,hE⟩:=zbm hE
    rw [hs.l.val,hs.r.val]
    simp only [h1,h2,h3,h4,Option.bind_some]
    split at hE
    · rename_i hk;cases hE;rw [if_pos hk];exact ⟨rfl,rfl⟩
    · cases hE
  | EZ sz x y=>simp [cO] at hE
  | cutV sz x y =>
    simp only [mR] at hs
    simp only [cO] at hE ⊢
    obtain ⟨v,h1,hE⟩:=zbm hE
    obtain ⟨j,h2,hE⟩:=zbm hE
    obtain ⟨p,h3,hE⟩:=zbm hE
    rw [hs.l.val,hs.r.val]
    simp only [h1,h2,h3,Option.bind_some]
    split at hE
    · split at hE
      · rename_i fU
        split at hE
        · rename_i hk;cases hE;simp only [ho _ _ fU,if_pos hk];exact ⟨trivial,trivial⟩
        · cases hE
      · cases hE
    · cases hE
  | VZ x =>
    simp only [mR] at hs
    simp only [cO] at hE ⊢
    obtain ⟨v,h1,h2⟩:=zbm hE
    rw [hs.val,h1]
    simp only [Option.bind_some]
    split at h2
    · obtain ⟨s,h3,h4⟩:=zbm h2
      cases h4
      simp only [h3,Option.bind_some,one]
      exact ⟨trivial,trivial⟩
    · cases h2;exact ⟨rfl,rfl⟩
    · split at h2
      · rename_i fU
        split at h2
        · rename_i hz
          obtain ⟨s,h3,h4⟩:=zbm h2
          cases h4
          simp only [ho _ _ fU,if_pos hz,h3,Option.bind_some,one]
          exact ⟨trivial,trivial⟩
        · cases h2
      · cases h2
    · cases h2
end
end Go.Proofs.Ytdkkgecdhapfhaa.Ev
namespace Go.Proofs.Ytdkkgecdhapfhaa.Ev
open Go
section
variable {Γ : Env} {d:Nat} {σ σ2 σ':St} {pv:PV}
theorem TH {α:Type} {l:List (Nat × α)} {k:Nat} (h:∀ p ∈ l,p.1 ≠ k):rem l k = l:=by
  induction l with
  | nil=>rfl
  | cons p l ih =>
    obtain ⟨j,u⟩:=p
    unfold rem
    rw [if_neg (h _ List.mem_cons_self),ih (fun p hp=>h p (List.mem_cons_of_mem _ hp))]
theorem jB {key:Nat}:fresh σ key = true ↔ (∀ p ∈ σ.ob,p.1 ≠ key ∧ l5 key p.2 = false) ∧ ∀ p ∈ σ.tm,qO key p.2 = false:=by
  simp [fresh]
theorem iY {key:Nat} (h:fresh σ key = true) (o:Ob):new σ key o = some ⟨σ.tm,(key,o) :: σ.ob⟩:=by
  obtain ⟨h1,h2⟩:=jB.mp h
  have hr:=TH (fun p hp=>(h1 p hp).1)
  unfold new V3
  rw [hr,if_neg]
  · simp only [Option.map_some]
    rw [List.filter_eq_self.mpr (fun p hp=>by rw [h2 p hp];rfl)]
  · intro hc
    obtain ⟨p,hp,hm⟩:=List.any_eq_true.mp hc
    rw [(h1 p hp).2] at hm;cases hm
theorem I9 {x:PL} {y:FV} (hn:gD x = false) (h:xg σ x = some (y,σ')):σ' = σ ∧ xg σ2 x = some (y,σ2):=by
  cases x with
  | f x=>cases h;exact ⟨rfl,rfl⟩
  | fQ=>cases h;exact ⟨rfl,rfl⟩
  | own k n=>cases hn
  | _=>cases h
theorem xX : ∀ {xs:List PL} {ys:List FV} {σ':St},xs.any gD = false → kP σ xs = some (ys,σ') → σ' = σ ∧ kP σ2 xs = some (ys,σ2)
  | [],ys,σ',_,h=>by cases h;exact ⟨rfl,rfl⟩
  | x :: xs,ys,σ',hn,h=>by
    obtain ⟨p,h1,h2⟩:=zbm h
    obtain ⟨r,h3,h4⟩:=zmm h2
    cases h4
    simp only [List.any_cons,Bool.or_eq_false_iff] at hn
    obtain ⟨e1,e2⟩:=I9 (σ2:=σ2) hn.1 h1
    rw [e1] at h3
    obtain ⟨e3,e4⟩:=xX hn.2 h3
    exact ⟨e3,by unfold kP;rw [e2];simp only [Option.bind_some];rw [e4];rfl⟩
theorem XL {i:I} (hi:jK i = true) (hs:Same (mR i) σ σ2) (hf:fresh σ (dF d) = true) (hf2:fresh σ2 (dF d) = true) (hE:cO Γ true σ d i = some (pv,σ')) :
    ∃ o,σ' = ⟨σ.tm,(dF d,o) :: σ.ob⟩ ∧ cO Γ true σ2 d i = some (pv,⟨σ2.tm,(dF d,o) :: σ2.ob⟩):=by
  cases i <;> first | cases hi | skip
  · rename_i e z
    simp only [cO] at hE ⊢
    split at hE
    · cases hE
    · rename_i hm
      simp only [gZ,iY hf,Option.map_some] at hE
      cases hE
      refine ⟨_,rfl,?_⟩
      rw [if_neg hm]
      simp only [gZ,iY hf2,Option.map_some]
  · rename_i e x
    simp only [mR] at hs
    simp only [cO] at hE ⊢
    obtain ⟨v,h1,h2⟩:=zbm hE
    split at h2
    · cases h2
    · rename_i hm
      simp only [gZ,iY hf,Option.map_some] at h2
      cases h2
      refine ⟨_,rfl,?_⟩
      rw [hs.val,h1]
      simp only [Option.bind_some]
      rw [if_neg hm]
      simp only [gZ,iY hf2,Option.map_some]
  · rename_i e sz len z ps
    simp only [mR] at hs
    simp only [cO] at hE ⊢
    obtain ⟨v,h1,hE⟩:=zbm hE
    obtain ⟨u,h2,hE⟩:=zbm hE
    split at hE
    · cases hE
    · rename_i hm
      obtain ⟨p,h3,hE⟩:=zbm hE
      have hn:u.any gD = false:=by simpa using hm
      obtain ⟨e1,e2⟩:=xX (σ2:=σ2) hn h3
      rw [e1] at hE
      simp only [gZ,iY hf,Option.map_some] at hE
      cases hE
      refine ⟨_,rfl,?_⟩
      rw [hs.vals,h1]
      simp only [Option.bind_some,h2]
      rw [if_neg hm,e2]
      simp only [Option.bind_some,gZ,iY hf2,Option.map_some]
  · rename_i sh
    simp only [cO] at hE ⊢
    simp only [gZ,iY hf,Option.map_some] at hE
    cases hE
    exact ⟨_,rfl,by simp only [gZ,iY hf2,Option.map_some]⟩
  · rename_i f xs
    simp only [mR] at hs
    simp only [cO,sw] at hE ⊢
    obtain ⟨l,h1,hE⟩:=zbm hE
    obtain ⟨fV,h2,hE⟩:=zbm hE
    obtain ⟨r,h3,hE⟩:=zbm hE
    obtain ⟨p,h4,hE⟩:=zbm hE
    simp only [iY hf,Option.map_some] at hE
    cases hE
    refine ⟨_,rfl,?_⟩
    rw [hs.jc,h1]
    simp only [Option.bind_some,h2,h3,h4,iY hf2,Option.map_some]
end
end Go.Proofs.Ytdkkgecdhapfhaa.Ev
namespace Go.Proofs.Ytdkkgecdhapfhaa.Ev
open Go
def rd (g:G):List Nat:=mR g.i ++ match g.gd with
  | some (some s,_)=>[s]
  | _=>[]
section
variable {Γ : Env} {d:Nat} {σ σ2 σ':St} {pv:PV}
theorem K9 {g:G} (hs:Same (rd g) σ σ2):zw σ2 g.gd = zw σ g.gd:=by
  unfold rd at hs
  have hr:=hs.r
  cases hg:g.gd with
  | none=>rfl
  | some p =>
    obtain ⟨s,want⟩:=p
    cases s with
    | none=>rfl
    | some s =>
      rw [hg] at hr
      simp only [zw]
      rw [hr s (by simp)]
theorem sV {g:G} (hi:Oi g.i = true) (hs:Same (rd g) σ σ2) (ho:∀ k o,get σ.ob k = some o → get σ2.ob k = some o) (hE:l7 Γ true σ g = some (pv,σ')):σ' = σ ∧ l7 Γ true σ2 g = some (pv,σ2):=by
  unfold l7 at hE ⊢
  obtain ⟨t,h1,h2⟩:=zbm hE
  rw [K9 hs,h1]
  simp only [Option.bind_some]
  cases t with
  | true =>
    rw [if_pos rfl] at h2 ⊢
    exact Oj hi (by unfold rd at hs;exact hs.l) ho h2
  | false =>
    rw [if_neg (by decide)] at h2 ⊢
    cases h2
    exact ⟨rfl,rfl⟩
theorem La {g:G} (hi:jK g.i = true) (hg:g.gd = none) (hs:Same (rd g) σ σ2) (hf:fresh σ (dF (g.dst.getD 999)) = true) (hf2:fresh σ2 (dF (g.dst.getD 999)) = true) (hE:l7 Γ true σ g = some (pv,σ')) :
    ∃ o,σ' = ⟨σ.tm,(dF (g.dst.getD 999),o) :: σ.ob⟩ ∧ l7 Γ true σ2 g = some (pv,⟨σ2.tm,(dF (g.dst.getD 999),o) :: σ2.ob⟩):=by
  unfold l7 at hE ⊢
  rw [hg] at hE ⊢
  simp only [zw,Option.bind_some,if_true] at hE ⊢
  exact XL hi (by unfold rd at hs;exact hs.l) hf hf2 hE
theorem get_put {α:Type} {l:List (Nat × α)} {i j:Nat} {v:α}:get (put l i v) j = if j = i then some v else get l j:=by
  have adL:∀ {l:List (Nat × α)} {i j:Nat},j ≠ i → get (rem l i) j = get l j:=by
    intro l i j hj
    induction l with
    | nil=>rfl
    | cons p l ih =>
      obtain ⟨k,u⟩:=p
      unfold rem
      by_cases hk:k = i
      · rw [if_pos hk,ih]
        conv=>rhs;unfold get
        rw [if_neg (fun e=>hj (by omega))]
      · rw [if_neg hk]
        unfold get
        rw [ih]
  induction l with
  | nil =>
    unfold put get
    by_cases h:j = i
    · rw [if_pos h,if_pos h.symm]
    · rw [if_neg h,if_neg (fun e=>h e.symm)];rfl
  | cons p l ih =>
    obtain ⟨k,u⟩:=p
    unfold put
    by_cases hk:k = i
    · rw [if_pos hk]
      unfold get
      by_cases h:j = i
      · rw [if_pos h,if_pos h.symm]
      · rw [if_neg h,if_neg (fun e=>h e.symm),adL h,if_neg (fun e=>h (by omega))]
    · rw [if_neg hk]
      unfold get
      by_cases hkj:k = j
      · rw [if_pos hkj,if_neg (by omega),if_pos hkj]
      · rw [if_neg hkj,ih,if_neg hkj]
theorem Dy {b:Bool} (h:¬ b = true):b = false:=Bool.eq_false_iff.mpr h
def jd (Γ:Env) (qP:List (Nat × Ob)) (pre:List (G × List Nat)) (zC:List (Nat × PV)):Nat → List (Nat × PV)
  | 0=>zC
  | i + 1=>match pre[i]? with
    | some g=>match l7 Γ true ⟨jd Γ qP pre zC i,qP⟩ g.1 with
      | some p=>sG g.1.dst (jd Γ qP pre zC i) p.1
      | none=>jd Γ qP pre zC i
    | none=>jd Γ qP pre zC i
structure Can (Γ:Env) (qP:List (Nat × Ob)) (pre:List (G × List Nat)) (zC:List (Nat × PV)) (i:Nat) (pv:PV) (s:St):Prop where
  lt:i < pre.length
  ev:l7 Γ true ⟨jd Γ qP pre zC i,qP⟩ (pre[i]'lt).1 = some (pv,s)
  nx:jd Γ qP pre zC (i + 1) = sG (pre[i]'lt).1.dst (jd Γ qP pre zC i) pv
  nk:∀ k ∈ (pre[i]'lt).2,qO k pv = false ∧ (jK (pre[i]'lt).1.i = true → ∀ r ∈ s.ob.take 1,r.1 ≠ k ∧ l5 k r.2 = false)
theorem Dz {qP:List (Nat × Ob)} {pre:List (G × List Nat)} {zC:List (Nat × PV)}:∀ (n i:Nat) (obx:List (Nat × Ob)) (s:St),n + i = pre.length → NU Γ qP (pre.drop i) ⟨jd Γ qP pre zC i,obx⟩ = some s →
    (∀ j,i ≤ j → j < pre.length → ∃ pv st,Can Γ qP pre zC j pv st) ∧ s.tm = jd Γ qP pre zC pre.length ∧
    ∃ news,s.ob = news ++ obx ∧ ∀ p ∈ news,∃ j pv st,i ≤ j ∧ j < pre.length ∧ ∃ (h:Can Γ qP pre zC j pv st),jK (pre[j]'h.lt).1.i = true ∧ p ∈ st.ob.take 1
  | 0,i,obx,s,hn,hE=>by
    rw [List.drop_eq_nil_of_le (by omega)] at hE
    cases hE
    refine ⟨fun j h1 h2=>by omega,by rw [show pre.length = i from by omega],[],rfl,fun p hp=>by simp at hp⟩
  | n + 1,i,obx,s,hn,hE=>by
    have hi:i < pre.length:=by omega
    rw [List.drop_eq_getElem_cons hi] at hE
    obtain ⟨g,nk,hp⟩:∃ g nk,pre[i] = (g,nk):=⟨_,_,rfl⟩
    rw [hp] at hE
    simp only [NU] at hE
    obtain ⟨p,h1,h2⟩:=zbm hE
    split at h2
    · cases h2
    · rename_i hnk
      have hnx:jd Γ qP pre zC (i + 1) = sG g.dst (jd Γ qP pre zC i) p.1:=by
        conv=>lhs;unfold jd
        rw [List.getElem?_eq_getElem hi,hp]
        simp only [h1]
      have hcan:Can Γ qP pre zC i p.1 p.2:=⟨hi,by rw [hp];exact h1,by rw [hp];exact hnx,fun k hk=>by
        rw [hp] at hk ⊢
        have hk':¬ (qO k p.1 || (jK g.i && (p.2.ob.take 1).any (fun r=>r.1 == k || l5 k r.2))) = true:=fun hc=>hnk (List.any_eq_true.mpr ⟨k,hk,hc⟩)
        rw [Bool.or_eq_true,not_or] at hk'
        refine ⟨Dy hk'.1,fun hN r hr=>?_⟩
        have:=hk'.2
        rw [hN,Bool.true_and] at this
        have hr':¬ (r.1 == k || l5 k r.2) = true:=fun hc=>this (List.any_eq_true.mpr ⟨r,hr,hc⟩)
        rw [Bool.or_eq_true,not_or] at hr'
        exact ⟨by simpa using hr'.1,Dy hr'.2⟩⟩
      rw [← hnx] at h2
      obtain ⟨e1,e2,news,e3,e4⟩:=Dz n (i + 1) _ s (by omega) h2
      refine ⟨fun j h3 h4=>?_,e2,news ++ (if jK g.i then p.2.ob.take 1 else []),?_,fun r hr=>?_⟩
      · by_cases hj:j = i
        · subst hj;exact ⟨_,_,hcan⟩
        · exact e1 j (by omega) h4
      · rw [e3]
        cases jK g.i <;> simp
      · rcases List.mem_append.mp hr with h | h
        · obtain ⟨j,pv,st,h3,h4,h5⟩:=e4 r h
          exact ⟨j,pv,st,by omega,h4,h5⟩
        · split at h
          · rename_i hN
            exact ⟨i,p.1,p.2,Nat.le_refl _,hi,hcan,by rw [hp];exact hN,h⟩
          · simp at h
end
end Go.Proofs.Ytdkkgecdhapfhaa.Ev
namespace Go.Proofs.Ytdkkgecdhapfhaa.Ev
open Go
def jC (o:Oper):List Nat:=(o.after.toList.filter (fun e=>Region.binds .any e)).map (·.on)
inductive Ja (ops:Array Oper):Nat → Nat → Prop
  | dir {i e:Nat} (h:i < ops.size) (he:e ∈ jC ops[i]):Ja ops e i
  | step {i e j:Nat} (h:i < ops.size) (he:e ∈ jC ops[i]) (hj:Ja ops j e):Ja ops j i
def isLt (g:G):Bool:=g.dst.isNone && g.gd.isNone && (match g.i with
  | .store _ _ _=>true
  | _=>false)
structure Lb (ops:Array Oper) (pre:List (G × List Nat)) (lS:List Nat) (jM rest:List G):Prop where
  len:ops.size = pre.length + (jM.length + rest.length)
  lt:∀ i (h:i < ops.size),∀ e ∈ jC ops[i],e < i
  data:∀ i (h:i < pre.length) (h':i < ops.size),∀ s ∈ rd pre[i].1,∀ j (hj:j < pre.length),pre[j].1.dst = some s → j ∈ jC ops[i]
  dst:∀ i j (h:i < pre.length) (hj:j < pre.length),i ≠ j → ∀ s,pre[i].1.dst = some s → pre[j].1.dst ≠ some s
  cls:∀ i (h:i < pre.length),Oi pre[i].1.i = true ∨ (jK pre[i].1.i = true ∧ pre[i].1.gd = none)
  nk:∀ i j (h:i < pre.length) (hj:j < pre.length),i ≠ j → jK pre[i].1.i = true → dF (pre[i].1.dst.getD 999) ∈ pre[j].2 ∨ Ja ops i j
  tl:∀ k,pre.length ≤ k → k < ops.size → ∀ j,j < k → Ja ops j k ∨ (j < pre.length ∧ j ∈ lS ∧ k < pre.length + jM.length)
  fl:∀ j ∈ lS,∀ (h:j < pre.length),Oi pre[j].1.i = true
  lt':∀ g ∈ jM,isLt g = true
  ld:∀ m (h:m < jM.length) (h':pre.length + m < ops.size),∀ s ∈ rd jM[m],∀ j (hj:j < pre.length),pre[j].1.dst = some s → j ∈ jC ops[pre.length + m]
def Dn (l:Array Bool) (i:Nat):Prop:=l.getD i false = true
section
variable {P : Program} {Γ:Env} {bH:Nat → Prop} {w0 w w':World} {bG:List Nat} {N:Fr} {jO:Nat → Value} {σ σ':St} {a:Act} {X:Hx} {ops:Array Oper} {pre:List (G × List Nat)} {lS:List Nat} {jM rest:List G} {l:Array Bool} {Q:Exit → Act → World → Prop}
def Down (ops:Array Oper) (l:Array Bool):Prop:=∀ i (h:i < ops.size),Dn l i → ∀ e ∈ jC ops[i],Dn l e
theorem Down.XM (hd:Down ops l) (hD:Lb ops pre lS jM rest) {i j:Nat} (hb:Ja ops j i):(∀ (h:i < ops.size),∀ e ∈ jC ops[i],Dn l e) → Dn l j:=by
  induction hb with
  | dir h he=>intro hr;exact hr h _ he
  | step h he hj ih =>
    intro hr
    exact ih (fun h'=>hd _ h' (hr h _ he))
theorem iZ {i:Nat} (hl:l.size = ops.size):i ∈ Region.ready .any ops l ↔ ∃ (h:i < ops.size),¬ Dn l i ∧ ∀ e ∈ jC ops[i],Dn l e:=by
  unfold Region.ready
  rw [List.mem_filter,List.mem_range]
  constructor
  · rintro ⟨h,hh⟩
    refine ⟨h,?_⟩
    rw [Bool.and_eq_true,Array.getElem?_eq_getElem h] at hh
    simp only [Option.map_some,Option.getD_some] at hh
    refine ⟨fun hd=>?_,fun e he=>?_⟩
    · have h1:=hh.1
      unfold Dn at hd
      rw [Array.getD_eq_getD_getElem?,Array.getElem?_eq_getElem (by omega)] at hd h1
      simp only [Option.getD_some] at hd h1
      rw [hd] at h1;cases h1
    · obtain ⟨x,hx,rfl⟩:=List.mem_map.mp he
      obtain ⟨hx1,hx2⟩:=List.mem_filter.mp hx
      have:=(Array.all_eq_true_iff_forall_mem.mp hh.2) x (by simpa using hx1)
      rw [hx2] at this
      exact this
  · rintro ⟨h,h1,h2⟩
    refine ⟨h,?_⟩
    rw [Bool.and_eq_true,Array.getElem?_eq_getElem h]
    simp only [Option.map_some,Option.getD_some]
    constructor
    · unfold Dn at h1
      rw [Array.getD_eq_getD_getElem?,Array.getElem?_eq_getElem (by omega)] at h1 ⊢
      simp only [Option.getD_some] at h1 ⊢
      simpa using h1
    · refine Array.all_eq_true_iff_forall_mem.mpr fun x hx=>?_
      cases hb:Region.binds .any x with
      | false=>rfl
      | true=>exact h2 x.on (List.mem_map.mpr ⟨x,List.mem_filter.mpr ⟨by simpa using hx,hb⟩,rfl⟩)
theorem Dn.set {i j:Nat} (hi:i < l.size):Dn (l.setIfInBounds i true) j ↔ j = i ∨ Dn l j:=by
  unfold Dn
  rw [Array.getD_eq_getD_getElem?,Array.getD_eq_getD_getElem?,Array.getElem?_setIfInBounds]
  by_cases h:i = j
  · subst h
    rw [if_pos rfl,if_pos hi]
    simp
  · rw [if_neg h]
    constructor
    · exact fun hh=>.inr hh
    · rintro (hh | hh)
      · exact absurd hh.symm h
      · exact hh
def left (l:Array Bool):Nat:=(l.toList.filter (!·)).length
theorem nD {i:Nat} (hi:i < l.size) (hn:¬ Dn l i):left (l.setIfInBounds i true) + 1 = left l:=by
  unfold left
  rw [Array.toList_setIfInBounds]
  have hv:l.toList[i]? = some false:=by
    unfold Dn at hn
    rw [Array.getD_eq_getD_getElem?,Array.getElem?_eq_getElem hi] at hn
    simp only [Option.getD_some] at hn
    rw [Array.getElem?_toList,Array.getElem?_eq_getElem hi]
    simpa using hn
  have key:∀ (l:List Bool) (i:Nat),l[i]? = some false → ((l.set i true).filter (!·)).length + 1 = (l.filter (!·)).length:=by
    intro l
    induction l with
    | nil=>intro i h;simp at h
    | cons b l ih =>
      intro i h
      cases i with
      | zero=>simp at h;subst h;simp
      | succ i =>
        have:=ih i (by simpa using h)
        cases b <;> simp_all
  exact key l.toList i hv
theorem sW (hd:Down ops l) {i:Nat} (hl:l.size = ops.size) (hi:i < ops.size) (hr:∀ e ∈ jC ops[i],Dn l e):Down ops (l.setIfInBounds i true):=by
  intro j hj hD e he
  rcases (Dn.set (by omega)).mp hD with rfl | hD
  · exact (Dn.set (by omega)).mpr (.inr (hr e he))
  · exact (Dn.set (by omega)).mpr (.inr (hd j hj hD e he))
theorem oU (hD:Lb ops pre lS jM rest) (hl:l.size = ops.size) {i:Nat} (hi:i < ops.size) (hn:¬ Dn l i):Region.ready .any ops l ≠ []:=by
  have key:∀ (n i:Nat),i ≤ n → (hi:i < ops.size) → ¬ Dn l i → ∃ j,j ∈ Region.ready .any ops l:=by
    intro n
    induction n with
    | zero =>
      intro i h0 hi hn
      exact ⟨i,(iZ hl).mpr ⟨hi,hn,fun e he=>by have:=hD.lt i hi e he;omega⟩⟩
    | succ n ih =>
      intro i h0 hi hn
      by_cases hall:∀ e ∈ jC ops[i],Dn l e
      · exact ⟨i,(iZ hl).mpr ⟨hi,hn,hall⟩⟩
      · have:∃ e,e ∈ jC ops[i] ∧ ¬ Dn l e:=by
          apply Classical.byContradiction
          intro hc
          exact hall (fun e he=>Classical.byContradiction fun hne=>hc ⟨e,he,hne⟩)
        obtain ⟨e,he,hne⟩:=this
        have:=hD.lt i hi e he
        exact ih e (by omega) (by omega) hne
  obtain ⟨j,hj⟩:=key i i (Nat.le_refl _) hi hn
  intro e
  rw [e] at hj
  simp at hj
end
end Go.Proofs.Ytdkkgecdhapfhaa.Ev
namespace Go.Proofs.Ytdkkgecdhapfhaa.Ev
open Go
section
variable {P : Program} {Γ:Env} {bH:Nat → Prop} {w0 w w':World} {bG:List Nat} {N:Fr} {jO:Nat → Value} {σ σ':St} {a:Act} {X:Hx} {ops:Array Oper} {pre:List (G × List Nat)} {lS:List Nat} {jM rest:List G} {l:Array Bool} {Q:Exit → Act → World → Prop}
theorem jS : ∀ {l:List Oper} {gs:List G},jG P X ops N.ok l = some gs → l.length = gs.length ∧ ∀ i (h:i < l.length) (h':i < gs.length),xH P X ops N.ok l[i] = some gs[i]
  | [],gs,h=>by cases h;exact ⟨rfl,fun i h=>by simp at h⟩
  | o :: l,gs,h=>by
    obtain ⟨g,h1,h2⟩:=zbm h
    obtain ⟨r,h3,rfl⟩:=zmm h2
    obtain ⟨e1,e2⟩:=jS h3
    refine ⟨by simp [e1],fun i hi hi'=>?_⟩
    cases i with
    | zero=>exact h1
    | succ i=>exact e2 i (by simpa using hi) (by simpa using hi')
theorem kS {fuel:Nat}:wpAny P .any ops Q (fuel + 1) l a w = ((Region.ready .any ops l = [] → Q .normal a w) ∧ ∀ i ∈ Region.ready .any ops l,wpOp P ops Q i (wpAny P .any ops Q fuel (l.setIfInBounds i true)) a w):=rfl
theorem TI (hD:Lb ops pre lS jM rest) (heq:∀ t ∈ X.eqs,kX P t) (kL:iE P Γ) (hC:eu P Γ) (hc:jG P X ops N.ok ops.toList = some (pre.map (·.1) ++ (jM ++ rest))) (hQ:∀ a' w',Ok bH w0 bG N jO σ' a' w' → Q .normal a' w') :
    ∀ (fuel k:Nat) (l:Array Bool) (σ:St) (a:Act) (w:World),l.size = ops.size → pre.length + jM.length ≤ k → k ≤ ops.size → (∀ i,i < ops.size → (Dn l i ↔ i < k)) → Down ops l → left l ≤ fuel → Ok bH w0 bG N jO σ a w → wK Γ false (rest.drop (k - (pre.length + jM.length))) σ = some σ' → wpAny P .any ops Q fuel l a w:=by
  intro fuel
  have hcg:=jS hc
  have hlen:=hD.len
  have nil:∀ {k:Nat} {l:Array Bool},l.size = ops.size → k = ops.size → (∀ i,i < ops.size → (Dn l i ↔ i < k)) → Region.ready .any ops l = []:=by
    intro k l hl hk hd
    refine List.eq_nil_iff_forall_not_mem.mpr fun i hi=>?_
    obtain ⟨h1,h2,_⟩:=(iZ hl).mp hi
    exact h2 ((hd i h1).mpr (by omega))
  have pos:∀ {k:Nat} {l:Array Bool},l.size = ops.size → k < ops.size → (∀ i,i < ops.size → (Dn l i ↔ i < k)) → 0 < left l:=by
    intro k l hl hk hd
    have:=nD (l:=l) (i:=k) (by omega) (fun h=>by have:=(hd k hk).mp h;omega)
    omega
  induction fuel with
  | zero =>
    intro k l σ a w hl h1 h2 hd hdn hf h hE
    by_cases hk:k = ops.size
    · refine ⟨nil hl hk hd,?_⟩
      rw [List.drop_eq_nil_of_le (by omega)] at hE
      cases hE
      exact hQ a w h
    · have:=pos hl (by omega) hd
      omega
  | succ fuel ih =>
    intro k l σ a w hl h1 h2 hd hdn hf h hE
    rw [kS]
    by_cases hk:k = ops.size
    · have hn:=nil hl hk hd
      refine ⟨fun _=>?_,fun i hi=>by rw [hn] at hi;simp at hi⟩
      rw [List.drop_eq_nil_of_le (by omega)] at hE
      cases hE
      exact hQ a w h
    · have hk':k < ops.size:=by omega
      have hnk:¬ Dn l k:=fun hh=>by have:=(hd k hk').mp hh;omega
      refine ⟨fun hn=>absurd hn (oU hD hl hk' hnk),fun i hi=>?_⟩
      obtain ⟨hi1,hi2,hi3⟩:=(iZ hl).mp hi
      have hik:i = k:=by
        have hge:k ≤ i:=by
          apply Classical.byContradiction
          intro hlt
          exact hi2 ((hd i hi1).mpr (by omega))
        apply Classical.byContradiction
        intro hne
        rcases hD.tl i (by omega) hi1 k (by omega) with hb | ⟨_,_,hb⟩
        · exact hnk (hdn.XM hD hb (fun _=>hi3))
        · omega
      subst hik
      unfold wpOp
      rw [Array.getElem?_eq_getElem hi1]
      have ht:i - (pre.length + jM.length) < rest.length:=by omega
      rw [List.drop_eq_getElem_cons ht] at hE
      obtain ⟨s,h4,h5⟩:=zbm hE
      have hg:=hcg.2 i (by simpa using hi1) (by simp;omega)
      rw [List.getElem_append_right (by simp;omega),List.getElem_append_right (by simp;omega)] at hg
      simp only [List.length_map,Array.getElem_toList,Nat.sub_sub] at hg
      refine xQ heq kL hC hg h h4 fun a' w' h'=>?_
      refine ih (i + 1) _ s a' w' (by simp [hl]) (by omega) (by omega) (fun j hj=>?_) (sW hdn hl hi1 hi3) ?_ h' (by rw [show i + 1 - (pre.length + jM.length) = i - (pre.length + jM.length) + 1 from by omega];exact h5)
      · rw [Dn.set (by omega)]
        rw [hd j hj]
        omega
      · have:=nD (l:=l) (i:=i) (by omega) hnk
        omega
end
end Go.Proofs.Ytdkkgecdhapfhaa.Ev
namespace Go.Proofs.Ytdkkgecdhapfhaa.Ev
open Go
structure Lc (Γ:Env) (pre:List (G × List Nat)) (fI:St) (l:Array Bool) (σ:St):Prop where
  tg1:∀ i pv st (h:Can Γ fI.ob pre fI.tm i pv st),Dn l i → ∀ s,(pre[i]'h.lt).1.dst = some s → get σ.tm s = some pv
  tg2:∀ s,(∀ i (h:i < pre.length),Dn l i → pre[i].1.dst ≠ some s) → get σ.tm s = get fI.tm s
  ob1:∃ news,σ.ob = news ++ fI.ob ∧ ∀ p ∈ news,∃ i,∃ (h:i < pre.length),jK pre[i].1.i = true ∧ p.1 = dF (pre[i].1.dst.getD 999)
  ob2:∀ i pv st (h:Can Γ fI.ob pre fI.tm i pv st),Dn l i → jK (pre[i]'h.lt).1.i = true → ∀ p ∈ st.ob.take 1,p ∈ σ.ob
  fr:∀ i (h:i < pre.length),jK pre[i].1.i = true → ¬ Dn l i → fresh σ (dF (pre[i].1.dst.getD 999)) = true
section
variable {Γ : Env} {σ fI σ':St} {ops:Array Oper} {pre:List (G × List Nat)} {lS:List Nat} {jM rest:List G} {l:Array Bool}
theorem Can.uniq {qP:List (Nat × Ob)} {zC:List (Nat × PV)} {i:Nat} {pv pv':PV} {s s':St} (h:Can Γ qP pre zC i pv s) (h':Can Γ qP pre zC i pv' s'):pv = pv' ∧ s = s':=by
  have:=h.ev.symm.trans h'.ev
  simp only [Option.some.injEq,Prod.mk.injEq] at this
  exact this
theorem oV {d:Option Nat} {tm:List (Nat × PV)} {v:PV} {s:Nat}:get (sG d tm v) s = if d = some s then some v else get tm s:=by
  cases d with
  | none=>simp [sG]
  | some d =>
    simp only [sG,get_put,Option.some.injEq]
    by_cases h:s = d
    · rw [if_pos h,if_pos h.symm]
    · rw [if_neg h,if_neg (fun e=>h e.symm)]
theorem DC {d:Option Nat} {tm:List (Nat × PV)} {v:PV} {p:Nat × PV} (h:p ∈ sG d tm v):p.2 = v ∨ p ∈ tm:=by
  cases d with
  | none=>exact .inr h
  | some d =>
    rcases ig h with rfl | ⟨h,_⟩
    · exact .inl rfl
    · exact .inr h
theorem sZ (hD:Lb ops pre lS jM rest) (hall:∀ j,j < pre.length → ∃ pv st,Can Γ fI.ob pre fI.tm j pv st):∀ i,i ≤ pre.length →
    (∀ j pv st (h:Can Γ fI.ob pre fI.tm j pv st),j < i → ∀ s,(pre[j]'h.lt).1.dst = some s → get (jd Γ fI.ob pre fI.tm i) s = some pv) ∧
    (∀ s,(∀ j (h:j < pre.length),j < i → pre[j].1.dst ≠ some s) → get (jd Γ fI.ob pre fI.tm i) s = get fI.tm s) ∧
    ∀ p ∈ jd Γ fI.ob pre fI.tm i,p ∈ fI.tm ∨ ∃ j pv st,j < i ∧ Can Γ fI.ob pre fI.tm j pv st ∧ p.2 = pv
  | 0,_=>⟨fun j _ _ _ h=>by omega,fun s _=>rfl,fun p hp=>.inl hp⟩
  | i + 1,hi=>by
    obtain ⟨e1,e2,e3⟩:=sZ hD hall i (by omega)
    obtain ⟨pv,st,hc⟩:=hall i (by omega)
    rw [hc.nx]
    refine ⟨fun j pv' st' h hj s hs=>?_,fun s hs=>?_,fun p hp=>?_⟩
    · rw [oV]
      by_cases hji:j = i
      · subst hji
        rw [if_pos hs,(h.uniq hc).1]
      · rw [if_neg (hD.dst j i h.lt hc.lt hji s hs),e1 j pv' st' h (by omega) s hs]
    · rw [oV,if_neg (hs i hc.lt (by omega))]
      exact e2 s (fun j h hj=>hs j h (by omega))
    · rcases DC hp with h | h
      · exact .inr ⟨i,pv,st,by omega,hc,h⟩
      · rcases e3 p h with h | ⟨j,pv',st',h1,h2,h3⟩
        · exact .inl h
        · exact .inr ⟨j,pv',st',by omega,h2,h3⟩
theorem Ja.lt (hD:Lb ops pre lS jM rest) {i j:Nat} (h:Ja ops j i):j < i:=by
  induction h with
  | dir h he=>exact hD.lt _ h _ he
  | step h he hj ih=>have:=hD.lt _ h _ he;omega
theorem GV {α:Type} {l m:List (Nat × α)} {k:Nat} (h:∀ p ∈ l,p.1 ≠ k):get (l ++ m) k = get m k:=by
  induction l with
  | nil=>rfl
  | cons p l ih =>
    obtain ⟨j,u⟩:=p
    rw [List.cons_append]
    conv=>lhs;unfold get
    rw [if_neg (h _ List.mem_cons_self),ih (fun p hp=>h p (List.mem_cons_of_mem _ hp))]
theorem BN : ∀ {i:I},Oi i = true → jK i = true → False:=by
  intro i h1 h2
  cases i <;> simp [Oi,jK] at h1 h2
theorem XO (hD:Lb ops pre lS jM rest) (hall:∀ j,j < pre.length → ∃ pv st,Can Γ fI.ob pre fI.tm j pv st) (hfr:∀ i (h:i < pre.length),jK pre[i].1.i = true → fresh fI (dF (pre[i].1.dst.getD 999)) = true)
    (hI:Lc Γ pre fI l σ) (hl:l.size = ops.size) (hdn:Down ops l) {i:Nat} (hi:i < pre.length) (hi':i < ops.size) (hn:¬ Dn l i) (hr:∀ e ∈ jC ops[i],Dn l e) :
    ∃ pv σ1,l7 Γ true σ pre[i].1 = some (pv,σ1) ∧ Lc Γ pre fI (l.setIfInBounds i true) (sF σ1 pre[i].1.dst pv):=by
  obtain ⟨pv,st,hc⟩:=hall i hi
  obtain ⟨c1,c2,c3⟩:=sZ hD hall i (by omega)
  have hset:∀ {j},Dn (l.setIfInBounds i true) j ↔ j = i ∨ Dn l j:=fun {j}=>Dn.set (by omega)
  have hsame:Same (rd pre[i].1) ⟨jd Γ fI.ob pre fI.tm i,fI.ob⟩ σ:=by
    intro s hs
    by_cases hw:∃ j,∃ (h:j < pre.length),pre[j].1.dst = some s
    · obtain ⟨j,hj,hjs⟩:=hw
      have hje:=hD.data i hi hi' s hs j hj hjs
      obtain ⟨pv',st',hc'⟩:=hall j hj
      rw [hI.tg1 j pv' st' hc' (hr j hje) s hjs,c1 j pv' st' hc' (hD.lt i hi' j hje) s hjs]
    · have hw':∀ j (h:j < pre.length),pre[j].1.dst ≠ some s:=fun j h e=>hw ⟨j,h,e⟩
      rw [hI.tg2 s (fun j h _=>hw' j h),c2 s (fun j h _=>hw' j h)]
  have hnk:∀ j (h:j < pre.length),jK pre[j].1.i = true → ¬ Dn l j → j ≠ i → dF (pre[j].1.dst.getD 999) ∈ pre[i].2:=by
    intro j h hN hdj hji
    rcases hD.nk j i h hi hji hN with h1 | h1
    · exact h1
    · exact absurd (hdn.XM hD h1 (fun _=>hr)) hdj
  obtain ⟨news,ho1,ho2⟩:=hI.ob1
  have hkey:∀ k o,get fI.ob k = some o → get σ.ob k = some o:=by
    intro k o hk
    rw [ho1,GV]
    · exact hk
    · intro p hp e
      obtain ⟨j,hj,hN,hpk⟩:=ho2 p hp
      have:=(jB.mp (hfr j hj hN)).1 _ (get_mem hk)
      exact this.1 (by show k = _;rw [← e,hpk])
  have fin:∀ (σ1:St) (new:List (Nat × Ob)),σ1.tm = σ.tm → σ1.ob = new ++ σ.ob → (∀ p ∈ new,jK pre[i].1.i = true ∧ p.1 = dF (pre[i].1.dst.getD 999)) → (jK pre[i].1.i = true → new = st.ob.take 1) → Lc Γ pre fI (l.setIfInBounds i true) (sF σ1 pre[i].1.dst pv):=by
    intro σ1 new ht fU hnew hst
    have Rm:(sF σ1 pre[i].1.dst pv).tm = sG pre[i].1.dst σ.tm pv:=by
      unfold sF sG
      cases pre[i].1.dst <;> simp [ht]
    have TJ:(sF σ1 pre[i].1.dst pv).ob = new ++ σ.ob:=by
      unfold sF
      cases pre[i].1.dst <;> simp [fU]
    refine ⟨fun j pv' st' h hd s hs=>?_,fun s hs=>?_,⟨new ++ news,by rw [TJ,ho1,List.append_assoc],fun p hp=>?_⟩,fun j pv' st' h hd hN p hp=>?_,fun j h hN hd=>?_⟩
    · rw [Rm,oV]
      rcases hset.mp hd with rfl | hd
      · rw [if_pos hs,(h.uniq hc).1]
      · have hji:j ≠ i:=fun e=>hn (e ▸ hd)
        rw [if_neg (hD.dst j i h.lt hi hji s hs)]
        exact hI.tg1 j pv' st' h hd s hs
    · rw [Rm,oV,if_neg (hs i hi (hset.mpr (.inl rfl)))]
      exact hI.tg2 s (fun j h hd=>hs j h (hset.mpr (.inr hd)))
    · rcases List.mem_append.mp hp with hp | hp
      · exact ⟨i,hi,hnew p hp⟩
      · exact ho2 p hp
    · rw [TJ]
      rcases hset.mp hd with rfl | hd
      · refine List.mem_append_left _ ?_
        rw [hst hN,(hc.uniq h).2];exact hp
      · exact List.mem_append_right _ (hI.ob2 j pv' st' h hd hN p hp)
    · have hji:j ≠ i:=fun e=>hd (hset.mpr (.inl e))
      have hdj:¬ Dn l j:=fun e=>hd (hset.mpr (.inr e))
      have hk:=hnk j h hN hdj hji
      obtain ⟨f1,f2⟩:=jB.mp (hI.fr j h hN hdj)
      obtain ⟨g1,g2⟩:=hc.nk _ hk
      refine jB.mpr ⟨fun p hp=>?_,fun p hp=>?_⟩
      · rw [TJ] at hp
        rcases List.mem_append.mp hp with hp | hp
        · have hNi:=(hnew p hp).1
          exact g2 hNi p (by rw [← hst hNi];exact hp)
        · exact f1 p hp
      · rw [Rm] at hp
        rcases DC hp with h | h
        · rw [h];exact g1
        · exact f2 p h
  rcases hD.cls i hi with hV | ⟨hN,hgd⟩
  · obtain ⟨e1,e2⟩:=sV hV hsame hkey hc.ev
    refine ⟨pv,σ,e2,fin σ [] rfl rfl (fun p hp=>by simp at hp) (fun hN=>?_)⟩
    exact (BN hV hN).elim
  · have hfc:fresh ⟨jd Γ fI.ob pre fI.tm i,fI.ob⟩ (dF (pre[i].1.dst.getD 999)) = true:=by
      obtain ⟨f1,f2⟩:=jB.mp (hfr i hi hN)
      refine jB.mpr ⟨f1,fun p hp=>?_⟩
      rcases c3 p hp with h | ⟨j,pv',st',h1,h2,h3⟩
      · exact f2 p h
      · rcases hD.nk i j hi h2.lt (by omega) hN with h4 | h4
        · rw [h3];exact (h2.nk _ h4).1
        · have:=h4.lt hD;omega
    obtain ⟨o,e1,e2⟩:=La hN hgd hsame hfc (hI.fr i hi hN hn) hc.ev
    refine ⟨pv,_,e2,fin _ [(dF (pre[i].1.dst.getD 999),o)] rfl rfl (fun p hp=>by simp at hp;exact ⟨hN,by rw [hp]⟩) (fun _=>by rw [e1];rfl)⟩
end
end Go.Proofs.Ytdkkgecdhapfhaa.Ev
namespace Go.Proofs.Ytdkkgecdhapfhaa.Ev
open Go
section
variable {P : Program} {Γ:Env} {bH:Nat → Prop} {w0 w w':World} {bG:List Nat} {N:Fr} {d:Nat} {jO:Nat → Value} {σ fI σ':St} {a:Act} {X:Hx} {ops:Array Oper} {pre:List (G × List Nat)} {lS:List Nat} {jM rest:List G} {l:Array Bool} {Q:Exit → Act → World → Prop} {pv:PV}
theorem TK {tm tm2:List (Nat × PV)} {ob:List (Nat × Ob)} {n key off:Nat} {x y:eB} {s:St} (hv:val ⟨tm,ob⟩ x = some (.one (.ptr key off))) (hE:cO Γ true ⟨tm,ob⟩ d (.store n x y) = some (pv,s)) :
    s.tm = tm ∧ (Same (mR (.store n x y)) ⟨tm,ob⟩ ⟨tm2,ob⟩ → ∀ q d,cO Γ q ⟨tm2,ob⟩ d (.store n x y) = some (pv,⟨tm2,s.ob⟩)) ∧ ∀ k o,k ≠ key → get ob k = some o → get s.ob k = some o:=by
  simp only [cO] at hE
  rw [hv] at hE
  simp only [Option.bind_some] at hE
  obtain ⟨u,h1,h2⟩:=zbm hE
  split at h2
  · rename_i hc
    split at h2
    · rename_i xs fU
      obtain ⟨l,h3,h4⟩:=zmm h2
      cases h4
      refine ⟨rfl,fun hs q d=>?_,fun k o hk hg=>?_⟩
      · simp only [cO]
        simp only [mR] at hs
        rw [hs.l.val,hv,Option.bind_some,hs.r.val,h1,Option.bind_some,if_pos hc]
        simp only [fU]
        simp only [h3,Option.map_some,jh]
      · simp only [jh,get_put,if_neg hk]
        exact hg
    · cases h2
  · cases h2
theorem TL {tm:List (Nat × PV)} {ob ob':List (Nat × Ob)} {x:eB}:val ⟨tm,ob⟩ x = val ⟨tm,ob'⟩ x:=by
  cases x <;> rfl
theorem get_filter {α:Type} {l:List (Nat × α)} {p:Nat → Bool} {k:Nat} {o:α} (h:get (l.filter fun x=>p x.1) k = some o):p k = true ∧ get l k = some o:=by
  induction l with
  | nil=>cases h
  | cons q l ih =>
    obtain ⟨j,u⟩:=q
    rw [List.filter_cons] at h
    by_cases hp:p j = true
    · rw [if_pos hp] at h
      unfold get at h ⊢
      by_cases hj:j = k
      · rw [if_pos hj] at h ⊢
        exact ⟨hj ▸ hp,h⟩
      · rw [if_neg hj] at h ⊢
        exact ih h
    · rw [if_neg hp] at h
      obtain ⟨h1,h2⟩:=ih h
      refine ⟨h1,?_⟩
      unfold get
      rw [if_neg (by intro e;subst e;exact hp h1)]
      exact h2
theorem Ok.less (h:Ok bH w0 bG N jO σ a w) (ht:∀ p ∈ σ'.tm,p ∈ σ.tm) (ho:∀ p ∈ σ'.ob,p ∈ σ.ob):Ok bH w0 bG N jO σ' a w:=by
  obtain ⟨Fz,κ,hr,hk⟩:=h
  exact ⟨Fz,κ,hr.less ht ho,hk⟩
def Vis (pre:List (G × List Nat)) (l:Array Bool) (s:Nat):Prop:=∀ j (h:j < pre.length),¬ Dn l j → pre[j].1.dst ≠ some s
theorem TM (hD:Lb ops pre lS jM rest) (heq:∀ t ∈ X.eqs,kX P t) (kL:iE P Γ) (hC:eu P Γ) (hc:jG P X ops N.ok ops.toList = some (pre.map (·.1) ++ (jM ++ rest))) (hQ:∀ a' w',Ok bH w0 bG N jO σ' a' w' → Q .normal a' w')
    {tm:List (Nat × PV)} {obS Ol:List (Nat × Ob)} (Rm:∀ p ∈ tm,get tm p.1 = some p.2)
    (hpv:∀ j (h:j < pre.length),j ∈ lS → ∃ pv s,l7 Γ true ⟨tm,obS.filter (fun p=>!(jM.flatMap (sH tm)).contains p.1)⟩ pre[j].1 = some (pv,s) ∧ ∀ s,pre[j].1.dst = some s → get tm s = some pv)
    (hE:wK Γ false rest ⟨tm,Ol⟩ = some σ') :
    ∀ (fuel m:Nat) (l:Array Bool) (DF:List (Nat × PV)) (ob:List (Nat × Ob)) (a:Act) (w:World),l.size = ops.size → m ≤ jM.length → (∀ i,i < ops.size → pre.length ≤ i → (Dn l i ↔ i < pre.length + m)) → (∀ j,j < pre.length → j ∉ lS → Dn l j) → Down ops l → left l ≤ fuel →
      Kz Γ tm (jM.drop m) ob = some Ol → (∀ k o,(jM.flatMap (sH tm)).contains k = false → get obS k = some o → get ob k = some o) → (∀ s,Vis pre l s → get DF s = get tm s) → Ok bH w0 bG N jO ⟨DF,ob⟩ a w → wpAny P .any ops Q fuel l a w:=by
  intro fuel
  have hcg:=jS hc
  have hlen:=hD.len
  have over:∀ (fuel m:Nat) (l:Array Bool) (DF:List (Nat × PV)) (ob:List (Nat × Ob)) (a:Act) (w:World),l.size = ops.size → m = jM.length → (∀ i,i < ops.size → pre.length ≤ i → (Dn l i ↔ i < pre.length + m)) → (∀ j,j < pre.length → Dn l j) → Down ops l → left l ≤ fuel →
      Kz Γ tm (jM.drop m) ob = some Ol → (∀ s,Vis pre l s → get DF s = get tm s) → Ok bH w0 bG N jO ⟨DF,ob⟩ a w → wpAny P .any ops Q fuel l a w:=by
    intro fuel m l DF ob a w hl hm hd hall hdn hf hL hv h
    subst hm
    rw [List.drop_of_length_le (Nat.le_refl _)] at hL
    cases hL
    refine TI hD heq kL hC hc hQ fuel (pre.length + jM.length) l ⟨tm,Ol⟩ a w hl (Nat.le_refl _) (by omega) (fun i hi=>?_) hdn hf (h.less (fun p hp=>?_) (fun _ hp=>hp)) (by rw [Nat.sub_self,List.drop_zero];exact hE)
    · by_cases hi':i < pre.length
      · exact ⟨fun _=>by omega,fun _=>hall i hi'⟩
      · exact hd i hi (by omega)
    · have:=hv p.1 (fun j hj hnd=>absurd (hall j hj) hnd)
      rw [Rm p hp] at this
      exact get_mem this
  induction fuel with
  | zero =>
    intro m l DF ob a w hl hm hd hfl hdn hf hL fU hv h
    have hdone:∀ i,i < ops.size → Dn l i:=by
      intro i hi
      apply Classical.byContradiction
      intro hn
      have:=nD (l:=l) (i:=i) (by omega) hn
      omega
    refine over 0 m l DF ob a w hl ?_ hd (fun j hj=>hdone j (by omega)) hdn hf hL hv h
    apply Classical.byContradiction
    intro hne
    have:=(hd (pre.length + m) (by omega) (by omega)).mp (hdone _ (by omega))
    omega
  | succ fuel ih =>
    intro m l DF ob a w hl hm hd hfl hdn hf hL fU hv h
    by_cases hfin:m = jM.length ∧ ∀ j,j < pre.length → Dn l j
    · exact over (fuel + 1) m l DF ob a w hl hfin.1 hd hfin.2 hdn hf hL hv h
    · have hex:∃ i,i < pre.length + jM.length ∧ i < ops.size ∧ ¬ Dn l i:=by
        apply Classical.byContradiction
        intro hno
        have hall:∀ i,i < pre.length + jM.length → i < ops.size → Dn l i:=fun i h1 h2=>Classical.byContradiction fun hn=>hno ⟨i,h1,h2,hn⟩
        refine hfin ⟨?_,fun j hj=>hall j (by omega) (by omega)⟩
        apply Classical.byContradiction
        intro hne
        have:=(hd (pre.length + m) (by omega) (by omega)).mp (hall _ (by omega) (by omega))
        omega
      obtain ⟨i0,hi0,adM,hn0⟩:=hex
      rw [kS]
      refine ⟨fun hn=>absurd hn (oU hD hl adM hn0),fun i hi=>?_⟩
      obtain ⟨hi1,hi2,hi3⟩:=(iZ hl).mp hi
      have hset:∀ {j},Dn (l.setIfInBounds i true) j ↔ j = i ∨ Dn l j:=fun {j}=>Dn.set (by omega)
      have hleft:=nD (l:=l) (i:=i) (by omega) hi2
      unfold wpOp
      rw [Array.getElem?_eq_getElem hi1]
      have hg:=hcg.2 i (by simpa using hi1) (by simp;omega)
      by_cases TN:i < pre.length
      ·
        have hif:i ∈ lS:=Classical.byContradiction fun hn=>hi2 (hfl i TN hn)
        rw [List.getElem_append_left (by simpa using TN)] at hg
        simp only [List.getElem_map,Array.getElem_toList] at hg
        obtain ⟨pv,s,h1,h2⟩:=hpv i TN hif
        have hsame:Same (rd pre[i].1) ⟨tm,obS.filter (fun p=>!(jM.flatMap (sH tm)).contains p.1)⟩ ⟨DF,ob⟩:=fun s hs=>hv s (fun j hj hnd he=>hnd (hi3 j (hD.data i TN hi1 s hs j hj he)))
        obtain ⟨e1,e2⟩:=sV (σ2:=⟨DF,ob⟩) (hD.fl i hif TN) hsame (fun k o hk=>by
          obtain ⟨g1,g2⟩:=get_filter (p:=fun k=>!(jM.flatMap (sH tm)).contains k) hk
          exact fU k o (by simpa using g1) g2) h1
        refine wO heq kL hC hg h e2 fun a' w' h'=>?_
        refine ih m _ (sG pre[i].1.dst DF pv) ob a' w' (by simp [hl]) hm (fun j hj hj'=>?_) (fun j hj hjf=>hset.mpr (.inr (hfl j hj hjf))) (sW hdn hl hi1 hi3) (by omega) hL fU (fun s hs=>?_) ?_
        · rw [hset,hd j hj hj']
          omega
        · rw [oV]
          split
          · rename_i he
            exact (h2 s he).symm
          · rename_i he
            refine hv s (fun j hj hnd hjs=>?_)
            by_cases hji:j = i
            · subst hji;exact he hjs
            · exact hs j hj (fun hdj=>by rcases hset.mp hdj with h | h;exact hji h;exact hnd h) hjs
        · cases hdst:pre[i].1.dst with
          | none=>rw [hdst] at h';exact h'
          | some s=>rw [hdst] at h';exact h'
      ·
        have him:i = pre.length + m ∧ m < jM.length:=by
          have hge:pre.length + m ≤ i:=by
            apply Classical.byContradiction
            intro hlt
            exact hi2 ((hd i hi1 (by omega)).mpr (by omega))
          have hlt':i < pre.length + jM.length:=by
            apply Classical.byContradiction
            intro hnl
            rcases hD.tl i (by omega) hi1 i0 (by omega) with hb | ⟨_,_,hb⟩
            · exact hn0 (hdn.XM hD hb (fun _=>hi3))
            · omega
          refine ⟨?_,by omega⟩
          apply Classical.byContradiction
          intro hne
          have hnm:¬ Dn l (pre.length + m):=fun hh=>by have:=(hd (pre.length + m) (by omega) (by omega)).mp hh;omega
          rcases hD.tl i (by omega) hi1 (pre.length + m) (by omega) with hb | ⟨hb,_,_⟩
          · exact hnm (hdn.XM hD hb (fun _=>hi3))
          · omega
        obtain ⟨rfl,hml⟩:=him
        rw [List.getElem_append_right (by simp),List.getElem_append_left (by simpa using hml)] at hg
        simp only [List.length_map,Array.getElem_toList,Nat.add_sub_cancel_left] at hg
        rw [List.drop_eq_getElem_cons hml] at hL
        have hlg:=hD.lt' _ (List.getElem_mem hml)
        have hld:=hD.ld m hml hi1
        have hkey:∀ k,k ∈ sH tm jM[m] → (jM.flatMap (sH tm)).contains k = true:=fun k hk=>by
          rw [List.contains_iff_mem]
          exact List.mem_flatMap.mpr ⟨_,List.getElem_mem hml,hk⟩
        generalize jM[m] = g at hg hL hlg hld hkey
        obtain ⟨gd,gg,gi⟩:=g
        unfold isLt at hlg
        simp only [Bool.and_eq_true] at hlg
        obtain ⟨⟨hl1,hl2⟩,hl3⟩:=hlg
        have hgd:gd = none:=by cases gd <;> simp_all
        have hgg:gg = none:=by cases gg <;> simp_all
        subst hgd
        subst hgg
        cases gi with
        | store n x y =>
          simp only [Kz] at hL
          split at hL
          · rename_i key off hval
            obtain ⟨p,h1,h2⟩:=zbm hL
            obtain ⟨pv,s⟩:=p
            have hsame:Same (mR (.store n x y)) ⟨tm,ob⟩ ⟨DF,ob⟩:=fun s hs=>hv s (fun j hj hnd he=>hnd (hi3 j (hld s (by unfold rd;exact List.mem_append_left _ hs) j hj he)))
            obtain ⟨e1,e2,e3⟩:=TK (tm2:=DF) hval h1
            have e2':=e2 hsame true 999
            refine wO (q:=true) (pv:=pv) (σ':=⟨DF,s.ob⟩) heq kL hC hg h (by simp only [l7,zw,Option.bind_some,if_true];exact e2') fun a' w' h'=>?_
            refine ih (m + 1) _ DF s.ob a' w' (by simp [hl]) (by omega) (fun j hj hj'=>?_) (fun j hj hjf=>hset.mpr (.inr (hfl j hj hjf))) (sW hdn hl hi1 hi3) (by omega) h2 (fun k o hk hg'=>?_) (fun s hs=>hv s (fun j hj hnd=>hs j hj (fun hdj=>by rcases hset.mp hdj with h | h;omega;exact hnd h))) h'
            · rw [hset,hd j hj hj']
              omega
            · refine e3 k o (fun e=>?_) (fU k o hk hg')
              subst e
              have hv0:val ⟨tm,[]⟩ x = some (.one (.ptr k off)):=(TL (ob':=ob)).trans hval
              have:=hkey k (by simp only [sH,hv0,List.mem_singleton])
              rw [this] at hk;cases hk
          · cases hL
        | _=>simp at hl3
end
end Go.Proofs.Ytdkkgecdhapfhaa.Ev
namespace Go.Proofs.Ytdkkgecdhapfhaa.Ev
open Go
section
variable {P : Program} {Γ:Env} {bH:Nat → Prop} {w0 w w':World} {bG:List Nat} {N:Fr} {jO:Nat → Value} {σ fI σ':St} {a:Act} {X:Hx} {ops:Array Oper} {pre:List (G × List Nat)} {lS:List Nat} {jM rest:List G} {l:Array Bool} {Q:Exit → Act → World → Prop}
theorem BO {α:Type} {ks:List Nat} {l:List (Nat × α)} {p:Nat × α} (h:p ∈ pick ks l):get l p.1 = some p.2:=by
  unfold pick at h
  obtain ⟨i,_,h2⟩:=List.mem_filterMap.mp h
  obtain ⟨v,h3,h4⟩:=zmm h2
  subst h4
  exact h3
theorem DI {α:Type} {l:List (Nat × α)} {s:Nat}:∀ {ks:List Nat},get (pick ks l) s = if s ∈ ks then get l s else none
  | []=>rfl
  | k :: ks=>by
    have ih:=DI (l:=l) (s:=s) (ks:=ks)
    unfold pick at ih ⊢
    rw [List.filterMap_cons]
    cases hg:get l k with
    | none =>
      simp only [Option.map_none]
      rw [ih]
      by_cases hk:s = k
      · subst hk;simp [hg]
      · simp [hk]
    | some v =>
      simp only [Option.map_some]
      conv=>lhs;unfold get
      by_cases hk:k = s
      · subst hk;simp [hg]
      · rw [if_neg hk,ih]
        have:¬ s = k:=fun e=>hk e.symm
        simp [this]
theorem get_none {α:Type} {l:List (Nat × α)} {s:Nat} (h:s ∉ l.map (·.1)):get l s = none:=by
  cases hg:get l s with
  | none=>rfl
  | some v=>exact absurd (List.mem_map.mpr ⟨_,get_mem hg,rfl⟩) h
theorem Om {α:Type} {l:List (Nat × α)} {s:Nat}:get (pick (l.map (·.1)) l) s = get l s:=by
  rw [DI]
  split
  · rfl
  · rename_i h;exact (get_none h).symm
theorem adN (hD:Lb ops pre lS jM rest) (hall:∀ j,j < pre.length → ∃ pv st,Can Γ fI.ob pre fI.tm j pv st) (hfr:∀ i (h:i < pre.length),jK pre[i].1.i = true → fresh fI (dF (pre[i].1.dst.getD 999)) = true)
    {i:Nat} {pv:PV} {st:St} (hc:Can Γ fI.ob pre fI.tm i pv st) (hN:jK (pre[i]'hc.lt).1.i = true):∀ p ∈ st.ob.take 1,p.1 = dF ((pre[i]'hc.lt).1.dst.getD 999):=by
  have hi:=hc.lt
  obtain ⟨c1,c2,c3⟩:=sZ hD hall i (by omega)
  have hgd:pre[i].1.gd = none:=by
    rcases hD.cls i hi with h | h
    · exact (BN h hN).elim
    · exact h.2
  have hfc:fresh ⟨jd Γ fI.ob pre fI.tm i,fI.ob⟩ (dF (pre[i].1.dst.getD 999)) = true:=by
    obtain ⟨f1,f2⟩:=jB.mp (hfr i hi hN)
    refine jB.mpr ⟨f1,fun p hp=>?_⟩
    rcases c3 p hp with h | ⟨j,pv',st',h1,h2,h3⟩
    · exact f2 p h
    · rcases hD.nk i j hi h2.lt (by omega) hN with h4 | h4
      · rw [h3];exact (h2.nk _ h4).1
      · have:=h4.lt hD;omega
  obtain ⟨o,e1,_⟩:=La (σ2:=⟨jd Γ fI.ob pre fI.tm i,fI.ob⟩) hN hgd (fun _ _=>rfl) hfc hfc hc.ev
  intro p hp
  rw [e1] at hp
  simp at hp
  rw [hp]
theorem TP (hD:Lb ops pre lS jM rest) (heq:∀ t ∈ X.eqs,kX P t) (kL:iE P Γ) (hC:eu P Γ) (hc:jG P X ops N.ok ops.toList = some (pre.map (·.1) ++ (jM ++ rest))) (hQ:∀ a' w',Ok bH w0 bG N jO σ' a' w' → Q .normal a' w')
    (hall:∀ j,j < pre.length → ∃ pv st,Can Γ fI.ob pre fI.tm j pv st) (hfr:∀ i (h:i < pre.length),jK pre[i].1.i = true → fresh fI (dF (pre[i].1.dst.getD 999)) = true)
    {tm:List (Nat × PV)} {sob Ol news':List (Nat × Ob)} (Rm:tm = pick ((jd Γ fI.ob pre fI.tm pre.length).map (·.1)) (jd Γ fI.ob pre fI.tm pre.length))
    (XP:sob = news' ++ fI.ob) (hnews:∀ p ∈ news',∃ j pv st,∃ (h:Can Γ fI.ob pre fI.tm j pv st),jK (pre[j]'h.lt).1.i = true ∧ p ∈ st.ob.take 1)
    (Oo:lS.all (fun j=>(l7 Γ true ⟨tm,fI.ob.filter (fun p=>!(jM.flatMap (sH tm)).contains p.1)⟩ (pre.getD j default).1).isSome) = true)
    (hL:Kz Γ tm jM sob = some Ol) (hE:wK Γ false rest ⟨tm,Ol⟩ = some σ') :
    ∀ (fuel:Nat) (l:Array Bool) (σ:St) (a:Act) (w:World),l.size = ops.size → (∀ i,pre.length ≤ i → ¬ Dn l i) → Down ops l → left l ≤ fuel → Ok bH w0 bG N jO σ a w → Lc Γ pre fI l σ → wpAny P .any ops Q fuel l a w:=by
  intro fuel
  have hcg:=jS hc
  have hlen:=hD.len
  obtain ⟨c1,c2,c3⟩:=sZ (Γ:=Γ) hD hall pre.length (Nat.le_refl _)
  have htg:∀ s,get tm s = get (jd Γ fI.ob pre fI.tm pre.length) s:=fun s=>by rw [Rm];exact Om
  have adO:∀ p ∈ tm,get tm p.1 = some p.2:=fun p hp=>by
    rw [htg]
    rw [Rm] at hp
    exact BO hp
  have hpv:∀ j (h:j < pre.length),j ∈ lS → ∃ pv s,l7 Γ true ⟨tm,fI.ob.filter (fun p=>!(jM.flatMap (sH tm)).contains p.1)⟩ pre[j].1 = some (pv,s) ∧ ∀ s,pre[j].1.dst = some s → get tm s = some pv:=by
    intro j h hj
    have h1:=List.all_eq_true.mp Oo j hj
    rw [List.getD_eq_getElem?_getD,List.getElem?_eq_getElem h,Option.getD_some] at h1
    obtain ⟨q,hq⟩:=Option.isSome_iff_exists.mp h1
    obtain ⟨pv',s'⟩:=q
    refine ⟨pv',s',hq,fun s hs=>?_⟩
    obtain ⟨pv,st,hcj⟩:=hall j h
    obtain ⟨d1,d2,d3⟩:=sZ (Γ:=Γ) hD hall j (by omega)
    have hV:=hD.fl j hj h
    obtain ⟨_,g1⟩:=sV (σ:=⟨tm,fI.ob.filter (fun p=>!(jM.flatMap (sH tm)).contains p.1)⟩) (σ2:=⟨tm,fI.ob⟩) hV (fun _ _=>rfl) (fun k o hk=>(get_filter (p:=fun k=>!(jM.flatMap (sH tm)).contains k) hk).2) hq
    have hsame:Same (rd pre[j].1) ⟨jd Γ fI.ob pre fI.tm j,fI.ob⟩ ⟨tm,fI.ob⟩:=by
      intro s hs
      show get tm s = get (jd Γ fI.ob pre fI.tm j) s
      rw [htg]
      by_cases hw:∃ i,∃ (hi:i < pre.length),pre[i].1.dst = some s
      · obtain ⟨i,hi,his⟩:=hw
        have hie:=hD.data j h (by omega) s hs i hi his
        obtain ⟨pv',st',hc'⟩:=hall i hi
        rw [c1 i pv' st' hc' hi s his,d1 i pv' st' hc' (hD.lt j (by omega) i hie) s his]
      · have hw':∀ i (h:i < pre.length),pre[i].1.dst ≠ some s:=fun i h e=>hw ⟨i,h,e⟩
        rw [c2 s (fun i h _=>hw' i h),d2 s (fun i h _=>hw' i h)]
    obtain ⟨_,g2⟩:=sV (σ2:=⟨tm,fI.ob⟩) hV hsame (fun k o hk=>hk) hcj.ev
    rw [g1] at g2
    simp only [Option.some.injEq,Prod.mk.injEq] at g2
    rw [htg,c1 j pv st hcj h s hs,g2.1]
  have over:∀ (fuel:Nat) (l:Array Bool) (σ:St) (a:Act) (w:World),l.size = ops.size → (∀ i,pre.length ≤ i → ¬ Dn l i) → Down ops l → left l ≤ fuel → Ok bH w0 bG N jO σ a w → Lc Γ pre fI l σ → (∀ i,i < pre.length → i ∉ lS → Dn l i) → wpAny P .any ops Q fuel l a w:=by
    intro fuel l σ a w hl hno hdn hf h hI hdone
    refine TM (tm:=tm) (obS:=fI.ob) (Ol:=Ol) hD heq kL hC hc hQ adO hpv hE fuel 0 l σ.tm sob a w hl (Nat.zero_le _) (fun i hi TN=>⟨fun hd=>absurd hd (hno i TN),fun hd=>by omega⟩) hdone hdn hf (by rw [List.drop_zero];exact hL) (fun k o _ hk=>?_) (fun s hs=>?_) (h.less (fun _ hp=>hp) (fun p hp=>?_))
    · rw [XP,GV]
      · exact hk
      · intro p hp e
        obtain ⟨j,pv,st,hcj,hN,hpt⟩:=hnews p hp
        have hk':=adN hD hall hfr hcj hN p hpt
        have:=(jB.mp (hfr j hcj.lt hN)).1 _ (get_mem hk)
        exact this.1 (by show k = _;rw [← e,hk'])
    · rw [htg]
      by_cases hw:∃ j,∃ (h:j < pre.length),pre[j].1.dst = some s
      · obtain ⟨j,hj,hjs⟩:=hw
        obtain ⟨pv,st,hcj⟩:=hall j hj
        have hdj:Dn l j:=Classical.byContradiction fun hn=>hs j hj hn hjs
        rw [c1 j pv st hcj hj s hjs]
        exact hI.tg1 j pv st hcj hdj s hjs
      · have hw':∀ j (h:j < pre.length),pre[j].1.dst ≠ some s:=fun j h e=>hw ⟨j,h,e⟩
        rw [c2 s (fun j h _=>hw' j h)]
        exact hI.tg2 s (fun j h _=>hw' j h)
    · rw [XP] at hp
      rcases List.mem_append.mp hp with hp | hp
      · obtain ⟨j,pv,st,hcj,hN,hpt⟩:=hnews p hp
        refine hI.ob2 j pv st hcj (hdone j hcj.lt (fun hj=>?_)) hN p hpt
        exact BN (hD.fl j hj hcj.lt) hN
      · obtain ⟨news,ho,_⟩:=hI.ob1
        rw [ho]
        exact List.mem_append_right _ hp
  induction fuel with
  | zero =>
    intro l σ a w hl hno hdn hf h hI
    refine over 0 l σ a w hl hno hdn hf h hI fun i hi _=>?_
    apply Classical.byContradiction
    intro hn
    have:=nD (l:=l) (i:=i) (by omega) hn
    omega
  | succ fuel ih =>
    intro l σ a w hl hno hdn hf h hI
    by_cases hdone:∀ i,i < pre.length → i ∉ lS → Dn l i
    · exact over (fuel + 1) l σ a w hl hno hdn hf h hI hdone
    · have:∃ i,i < pre.length ∧ i ∉ lS ∧ ¬ Dn l i:=by
        apply Classical.byContradiction
        intro hc
        exact hdone fun i hi hif=>Classical.byContradiction fun hn=>hc ⟨i,hi,hif,hn⟩
      obtain ⟨i0,hi0,adP,hn0⟩:=this
      rw [kS]
      refine ⟨fun hn=>absurd hn (oU hD hl (by omega) hn0),fun i hi=>?_⟩
      obtain ⟨hi1,hi2,hi3⟩:=(iZ hl).mp hi
      have him:i < pre.length:=by
        apply Classical.byContradiction
        intro hge
        rcases hD.tl i (by omega) hi1 i0 (by omega) with hb | ⟨_,hb,_⟩
        · exact hn0 (hdn.XM hD hb (fun _=>hi3))
        · exact adP hb
      obtain ⟨pv,σ1,h1,h2⟩:=XO hD hall hfr hI hl hdn him hi1 hi2 hi3
      unfold wpOp
      rw [Array.getElem?_eq_getElem hi1]
      have hg:=hcg.2 i (by simpa using hi1) (by simp;omega)
      rw [List.getElem_append_left (by simpa using him)] at hg
      simp only [List.getElem_map,Array.getElem_toList] at hg
      refine wO heq kL hC hg h h1 fun a' w' h'=>?_
      refine ih _ _ a' w' (by simp [hl]) (fun j hj hd=>?_) (sW hdn hl hi1 hi3) ?_ h' h2
      · rcases (Dn.set (by omega)).mp hd with rfl | hd
        · omega
        · exact hno j hj hd
      · have:=nD (l:=l) (i:=i) (by omega) hi2
        omega
theorem TQ {id:Nat} (hm:P.follows .mixedOrders = true) (hD:Lb ops pre lS jM rest) (heq:∀ t ∈ X.eqs,kX P t) (kL:iE P Γ) (hC:eu P Γ) (hc:jG P X ops N.ok ops.toList = some (pre.map (·.1) ++ (jM ++ rest))) (h:Ok bH w0 bG N jO σ a w) (hE:V6 Γ pre lS jM rest σ = some σ')
    (hQ:∀ a' w',Ok bH w0 bG N jO σ' a' w' → Q .normal a' w'):(Code.region id ops true).wp P Q a w:=by
  refine wp_region_any hm ?_
  unfold V6 at hE
  split at hE
  · rename_i hfr
    obtain ⟨s,h1,h2⟩:=zbm hE
    split at h2
    · rename_i Oo
      obtain ⟨ob,h3,h4⟩:=zbm h2
      obtain ⟨e1,e2,news,e3,e4⟩:=Dz (Γ:=Γ) (qP:=σ.ob) (pre:=pre) (zC:=σ.tm) pre.length 0 σ.ob s (by omega) (by rw [List.drop_zero];exact h1)
      have hall:∀ j,j < pre.length → ∃ pv st,Can Γ σ.ob pre σ.tm j pv st:=fun j hj=>e1 j (by omega) hj
      have XQ:∀ i (h:i < pre.length),jK pre[i].1.i = true → fresh σ (dF (pre[i].1.dst.getD 999)) = true:=by
        intro i hi hN
        have:=List.all_eq_true.mp hfr pre[i] (List.getElem_mem hi)
        rw [hN] at this
        exact this
      have hoff:∀ i,¬ Dn (Array.replicate ops.size false) i:=by
        intro i hd
        unfold Dn at hd
        rw [Array.getD_eq_getD_getElem?,Array.getElem?_replicate] at hd
        split at hd <;> simp at hd
      rw [e2] at Oo h3 h4
      refine TP (fI:=σ) hD heq kL hC hc hQ hall XQ rfl e3 (fun p hp=>?_) Oo h3 h4 ops.size _ σ a _ (by simp) (fun i _=>hoff i) (fun i hi hd=>absurd hd (hoff i)) ?_ ?_ ⟨fun i pv st h hd=>absurd hd (hoff i),fun s _=>rfl,⟨[],rfl,fun p hp=>by simp at hp⟩,fun i pv st h hd=>absurd hd (hoff i),fun i hi hN _=>XQ i hi hN⟩
      · obtain ⟨j,pv,st,_,_,h5,h6,h7⟩:=e4 p hp
        exact ⟨j,pv,st,h5,h6,h7⟩
      · unfold left
        exact Nat.le_trans (List.length_filter_le _ _) (by simp)
      · obtain ⟨Fz,κ,hr,hk⟩:=h
        exact ⟨Fz,κ,hr.grow (w':={ w with drawn:=w.drawn + 1 }) (Nat.le_refl _) (fun _ _=>rfl) ⟨rfl,rfl⟩,hk⟩
    · cases h2
  · cases hE
end
end Go.Proofs.Ytdkkgecdhapfhaa.Ev
namespace Go.Proofs.Ytdkkgecdhapfhaa.Ev
open Go
def kM : List (List Nat) → List (List Nat) → List (List Nat)
  | acc,[]=>acc
  | acc,es :: l=>kM (acc ++ [(List.range acc.length).filter fun x=>es.any fun e=>e == x || (acc.getD e []).contains x]) l
def BP : List G → Nat
  | []=>0
  | g :: l=>if Oi g.i || (jK g.i && g.gd.isNone) then BP l + 1 else 0
def V8 {α:Type} (n:Nat) (k:Nat → α):α:=match n with
  | 0=>k 0
  | j + 1=>k (j + 1)
theorem Ld {α:Type} {n:Nat} {k:Nat → α}:V8 n k = k n:=by cases n <;> rfl
def XR : Nat → List (List Nat) → Nat
  | i,[]=>i
  | i,es :: l=>V8 (XR (i + 1) l) fun r=>if r == i + 1 && es.length == i then i else r
def XT (C:List (List Nat)) (gs:List G):Nat:=min (BP gs) (XR 0 C)
def Le (gs:List G) (C:List (List Nat)) (m j:Nat):List Nat:=((List.range m).filter fun i=>i != j && jK (gs.getD i default).i && !(C.getD j []).contains i).map fun i=>dF ((gs.getD i default).dst.getD 999)
def Ro : List G → Nat
  | []=>0
  | g :: l=>if isLt g then Ro l + 1 else 0
def XU (C:List (List Nat)) (m nl:Nat):List Nat:=(List.range m).filter fun j=>(List.range nl).any fun t=>!(C.getD (m + t) []).contains j
def adQ (lS:List Nat) (n:Nat):Nat:=if lS.isEmpty then 0 else n
def TR (E C:List (List Nat)) (gs:List G) (n m:Nat) (lS:List Nat) (nl:Nat):Bool :=
  (List.range n).all (fun i=>(E.getD i []).all (· < i)) &&
  (List.range m).all (fun i=>(rd (gs.getD i default)).all fun s=>(List.range m).all fun j=>!((gs.getD j default).dst == some s) || (E.getD i []).contains j) &&
  (List.range m).all (fun i=>(List.range m).all fun j=>i == j || (gs.getD i default).dst.isNone || !((gs.getD i default).dst == (gs.getD j default).dst)) &&
  (List.range m).all (fun i=>Oi (gs.getD i default).i || (jK (gs.getD i default).i && (gs.getD i default).gd.isNone)) &&
  (List.range n).all (fun k=>k < m || (List.range k).all fun j=>(C.getD k []).contains j || (j < m && lS.contains j && k < m + nl)) &&
  lS.all (fun j=>Oi (gs.getD j default).i) &&
  ((gs.drop m).take nl).all isLt &&
  (List.range nl).all (fun t=>(rd (gs.getD (m + t) default)).all fun s=>(List.range m).all fun j=>!((gs.getD j default).dst == some s) || (E.getD (m + t) []).contains j)
structure Hi where
  ks:List Nat
  CZ:List Nat
  rws:List (Nat × Nat)
def XV (k:Array Bool → Option (List (List Nat))) (l:Array Bool):List Nat → Option (List (List Nat))
  | []=>some []
  | i :: is=>(k (l.setIfInBounds i true)).bind fun a=>(XV k l is).map fun b=>a.map (i :: ·) ++ b
def TS (ops:Array Oper) (i:Nat):Bool:=match ops[i]? with
  | some o=>(match o.op with
    | .move _=>true
    | .assign _=>true
    | .fieldAddr _ _ _=>true
    | _=>false)
  | none=>false
def exts (ops:Array Oper):Nat → Array Bool → Option (List (List Nat))
  | 0,l=>if Region.ready .any ops l = [] then some [[]] else none
  | n + 1,l=>match Region.ready .any ops l with
    | []=>some [[]]
    | i :: is=>match (i :: is).find? (fun j=>TS ops j && Region.free .any ops l j) with
      | some j=>(exts ops n (l.setIfInBounds j true)).map fun a=>a.map (j :: ·)
      | none=>XV (exts ops n) l (i :: is)
def XW : Nat → List Nat → Nat
  | i,[]=>i
  | i,j :: l=>if i == j then XW (i + 1) l else i
def DJ (C:List (List Nat)):Nat → Nat → Nat
  | 0,_=>C.length
  | n + 1,k=>V8 (DJ C n (k + 1)) fun r=>V8 (XW 0 (C.getD k [])) fun p=>if p < k then min p r else r
def GX (E C:List (List Nat)) (n h:Nat):Bool:=(List.range n).all (fun i=>(E.getD i []).all (· < i)) && (List.range n).all fun k=>(C.getD k []).take (min k h) == List.range (min k h)
def mask (h n:Nat):Array Bool:=(List.replicate h true ++ List.replicate (n - h) false).toArray
def Lf (ops:Array Oper):Option (List (List Nat)) :=
  let E:=ops.toList.map jC
  let C:=kM [] E
  V8 (DJ C ops.size 0) fun h=>if h ≤ ops.size ∧ GX E C ops.size h = true then (exts ops (ops.size - h) (mask h ops.size)).map fun a=>a.map (List.range h ++ ·) else none
def XY (P:Program) (X:Hx) (N:Nat → Bool) (ops:Array Oper) (draw:Bool) (ks CZ:List Nat):Option CC :=
  (jG P X ops N ops.toList).bind fun gs=>match draw with
    | false=>some (.reg gs ks)
    | true=>match CZ with
      | _ :: _=>if Region.noSelect ops then (Lf ops).map fun o=>.any gs o ks CZ else none
      | [] =>
      let E:=ops.toList.map jC
      let C:=kM [] E
      V8 (XT C gs) fun m =>
      let nl0:=Ro (gs.drop m)
      let lS:=XU C m nl0
      let nl:=adQ lS nl0
      if TR E C gs ops.size m lS nl then some (.wm ((List.range m).map fun j=>(gs.getD j default,Le gs C m j)) lS ((gs.drop m).take nl) ((gs.drop m).drop nl) ks) else none
def comp (P:Program) (X:Hx) (N:Nat → Bool):Code → List Hi → Option (CC × List Hi)
  | .skip,h=>some (.skip,h)
  | .region _ ops draw,h=>match h with
    | []=>none
    | k :: h=>(XY P X N ops draw k.ks k.CZ).map fun c=>(c,h)
  | .seq x y,h=>(comp P X N x h).bind fun p=>(comp P X N y p.2).map fun r=>(.seq p.1 r.1,r.2)
  | .cond c x y,h=>(fK c).bind fun o=>(comp P X N x h).bind fun p=>(comp P X N y p.2).map fun r=>(.cond o p.1 r.1,r.2)
  | .block id c,h=>(comp P X N c h).map fun p=>(.block id p.1,p.2)
  | .loop c,h=>match h with
    | []=>none
    | k :: h=>(comp P X N c h).map fun p=>(.loop k.ks k.CZ k.rws p.1,p.2)
  | .exit id,h=>some (.exit id,h)
  | .ret,h=>some (.ret,h)
  | .scope c,h=>comp P X N c h
  | .label _,h=>some (.skip,h)
  | _,_=>none
section
variable {P : Program} {Γ:Env} {bH:Nat → Prop} {w0 w w':World} {bG:List Nat} {N:Fr} {F:Nat} {jO:Nat → Value} {σ fI σ':St} {a:Act} {X:Hx} {ops:Array Oper} {gs:List G} {Q:Exit → Act → World → Prop}
theorem xY : ∀ (l acc:List (List Nat)),(∀ j,∀ x ∈ acc.getD j [],Ja ops x j) → (∀ k,k < l.length → ∃ h:acc.length + k < ops.size,l[k]? = some (jC ops[acc.length + k])) → ∀ j,∀ x ∈ (kM acc l).getD j [],Ja ops x j
  | [],acc,h,_=>h
  | es :: l,acc,h,hl=>by
    unfold kM
    obtain ⟨h0,h1⟩:=hl 0 (by simp)
    simp only [List.getElem?_cons_zero,Option.some.injEq,Nat.add_zero] at h1
    refine xY l _ (fun j x hx=>?_) (fun k hk=>?_)
    · rw [List.getD_eq_getElem?_getD,List.getElem?_append] at hx
      split at hx
      · rename_i hj
        exact h j x (by rw [List.getD_eq_getElem?_getD];exact hx)
      · by_cases hj:j - acc.length = 0
        · have hje:j = acc.length:=by omega
          subst hje
          simp only [Nat.sub_self,List.getElem?_cons_zero,Option.getD_some] at hx
          obtain ⟨_,hx⟩:=List.mem_filter.mp hx
          obtain ⟨e,he,hor⟩:=List.any_eq_true.mp hx
          rw [h1] at he
          rw [Bool.or_eq_true] at hor
          rcases hor with hor | hor
          · have:e = x:=by simpa using hor
            subst this
            exact .dir h0 he
          · exact .step h0 he (h e x (by simpa using hor))
        · rw [List.getElem?_eq_none (by simp;omega)] at hx
          simp at hx
    · obtain ⟨h2,h3⟩:=hl (k + 1) (by simpa using hk)
      simp only [List.length_append,List.length_cons,List.length_nil]
      refine ⟨by omega,?_⟩
      simp only [List.getElem?_cons_succ] at h3
      rw [h3]
      congr 3
      omega
theorem Ac : ∀ (gs:List G),BP gs ≤ gs.length
  | []=>Nat.le_refl _
  | g :: l=>by
    unfold BP
    have:=Ac l
    split <;> simp <;> omega
theorem Oq (C:List (List Nat)) (gs:List G):XT C gs ≤ gs.length:=by
  exact Nat.le_trans (Nat.min_le_left _ _) (Ac gs)
theorem Jb {lS:List Nat} {nl m:Nat} (hm:m ≤ gs.length) (h:jG P X ops N.ok ops.toList = some gs) (hb:TR (ops.toList.map jC) (kM [] (ops.toList.map jC)) gs ops.size m lS nl = true) :
    Lb ops ((List.range m).map fun j=>(gs.getD j default,Le gs (kM [] (ops.toList.map jC)) m j)) lS ((gs.drop m).take nl) ((gs.drop m).drop nl) ∧
    ((List.range m).map fun j=>(gs.getD j default,Le gs (kM [] (ops.toList.map jC)) m j)).map (·.1) ++ ((gs.drop m).take nl ++ (gs.drop m).drop nl) = gs:=by
  obtain ⟨hlen,_⟩:=jS h
  rw [Array.length_toList] at hlen
  unfold TR at hb
  simp only [Bool.and_eq_true] at hb
  obtain ⟨⟨⟨⟨⟨⟨⟨b1,b2⟩,b3⟩,b4⟩,b5⟩,b6⟩,b7⟩,b8⟩:=hb
  have hE:∀ i (hi:i < ops.size),(ops.toList.map jC).getD i [] = jC ops[i]:=by
    intro i hi
    rw [List.getD_eq_getElem?_getD,List.getElem?_map,Array.getElem?_toList,Array.getElem?_eq_getElem hi]
    rfl
  have hC:∀ j,∀ x ∈ (kM [] (ops.toList.map jC)).getD j [],Ja ops x j:=xY _ _ (fun j x hx=>by simp at hx) (fun k hk=>by
    have hk':k < ops.size:=by simpa using hk
    refine ⟨by simpa using hk',?_⟩
    rw [List.getElem?_map,Array.getElem?_toList,Array.getElem?_eq_getElem hk']
    simp)
  refine ⟨⟨?_,fun i hi e he=>?_,fun i hi hi' s hs j hj hjs=>?_,fun i j hi hj hne s h1 h2=>?_,fun i hi=>?_,fun i j hi hj hne hN=>?_,fun k h1 h2 j hj=>?_,fun j hj h=>?_,fun g hg=>List.all_eq_true.mp b7 g hg,fun t ht ht' s hs j hj hjs=>?_⟩,?_⟩
  · simp only [List.length_map,List.length_range,List.length_drop,List.length_take]
    omega
  · have:=List.all_eq_true.mp b1 i (List.mem_range.mpr hi)
    rw [hE i hi] at this
    have:=List.all_eq_true.mp this e he
    simpa using this
  · simp only [List.length_map,List.length_range] at hi hj
    simp only [List.getElem_map,List.getElem_range] at hs hjs
    have:=List.all_eq_true.mp b2 i (List.mem_range.mpr hi)
    have:=List.all_eq_true.mp this s hs
    have:=List.all_eq_true.mp this j (List.mem_range.mpr hj)
    rw [hjs,hE i hi'] at this
    simpa using this
  · simp only [List.length_map,List.length_range] at hi hj
    simp only [List.getElem_map,List.getElem_range] at h1 h2
    have:=List.all_eq_true.mp b3 i (List.mem_range.mpr hi)
    have:=List.all_eq_true.mp this j (List.mem_range.mpr hj)
    rw [h1,h2] at this
    simp [hne] at this
  · simp only [List.length_map,List.length_range] at hi
    have:=List.all_eq_true.mp b4 i (List.mem_range.mpr hi)
    simp only [List.getElem_map,List.getElem_range]
    rw [Bool.or_eq_true,Bool.and_eq_true] at this
    rcases this with h | h
    · exact .inl h
    · exact .inr ⟨h.1,by simpa using h.2⟩
  · simp only [List.length_map,List.length_range] at hi hj
    simp only [List.getElem_map,List.getElem_range] at hN ⊢
    cases hcc:((kM [] (ops.toList.map jC)).getD j []).contains i with
    | true=>exact .inr (hC j i (by simpa using hcc))
    | false =>
      left
      unfold Le
      refine List.mem_map.mpr ⟨i,List.mem_filter.mpr ⟨List.mem_range.mpr hi,?_⟩,rfl⟩
      rw [hN,hcc]
      simp [hne]
  · simp only [List.length_map,List.length_range] at h1 ⊢
    have:=List.all_eq_true.mp b5 k (List.mem_range.mpr h2)
    rw [Bool.or_eq_true] at this
    rcases this with h | h
    · have:k < m:=by simpa using h
      omega
    · have:=List.all_eq_true.mp h j (List.mem_range.mpr hj)
      rw [Bool.or_eq_true,Bool.and_eq_true,Bool.and_eq_true] at this
      rcases this with h | ⟨⟨g1,g2⟩,g3⟩
      · exact .inl (hC k j (by simpa using h))
      · refine .inr ⟨by simpa using g1,by simpa using g2,?_⟩
        have g3':k < m + nl:=by simpa using g3
        simp only [List.length_take,List.length_drop]
        omega
  · simp only [List.length_map,List.length_range] at h
    simp only [List.getElem_map,List.getElem_range]
    exact List.all_eq_true.mp b6 j hj
  · simp only [List.length_map,List.length_range] at hj ht' ⊢
    simp only [List.length_take,List.length_drop] at ht
    simp only [List.getElem_map,List.getElem_range] at hjs
    have h1:=List.all_eq_true.mp b8 t (List.mem_range.mpr (by omega))
    have hgt:((gs.drop m).take nl)[t]'(by simp only [List.length_take,List.length_drop];omega) = gs.getD (m + t) default:=by
      rw [List.getElem_take,List.getElem_drop,List.getD_eq_getElem?_getD,List.getElem?_eq_getElem (by omega)]
      rfl
    rw [hgt] at hs
    have h2:=List.all_eq_true.mp h1 s hs
    have h3:=List.all_eq_true.mp h2 j (List.mem_range.mpr hj)
    rw [hjs,hE _ ht'] at h3
    simpa using h3
  · rw [List.map_map]
    have:((List.range m).map ((fun x:G × List Nat=>x.1) ∘ fun j=>(gs.getD j default,Le gs (kM [] (ops.toList.map jC)) m j))) = gs.take m:=by
      refine List.ext_getElem (by simp;omega) fun i h1 h2=>?_
      simp only [List.length_map,List.length_range] at h1
      simp only [List.getElem_map,List.getElem_range,Function.comp,List.getElem_take]
      rw [List.getD_eq_getElem?_getD,List.getElem?_eq_getElem (by omega)]
      rfl
    rw [this,List.take_append_drop,List.take_append_drop]
def Fy : Out → Exit
  | .ji=>.normal
  | .ext id=>.exit id
  | .ret=>.ret
theorem Rel.put' {Fz:Nat → Prop} {κ:Nat → Value} (h:Rel bH w0 bG N Fz κ σ a w) {d:Nat} {pv:PV} (hv:jk Fz κ w pv (a.tmps.getD d undef)):Rel bH w0 bG N Fz κ ⟨Ev.put σ.tm d pv,σ.ob⟩ a w where
  tm:=fun p hp=>by
    rcases ig hp with rfl | ⟨hp,_⟩
    · exact hv
    · exact h.tm p hp
  sz:=h.sz
  l9:=h.l9
  fs:=h.fs
  ob:=h.ob
  sM:=h.sM
  pos:=h.pos
  fz:=h.fz
  wL:=h.wL
  big:=h.big
  ext:=h.ext
  kp:=h.kp
theorem Ok.keep (h:Ok bH w0 bG N jO σ a w) (ks:List Nat):Ok bH w0 bG N jO ⟨pick ks σ.tm,σ.ob⟩ a w:=h.less (fun _ hp=>iq hp) (fun _ hp=>hp)
theorem Ok.ji : ∀ (l:List (Nat × Nat)) {σ:St},Ok bH w0 bG N jO σ a w → Ok bH w0 bG N jO (Ev.ji σ l) a w
  | [],σ,h=>h
  | (s,sz) :: l,σ,h=>by
    unfold Ev.ji
    split
    · rename_i hg
      split
      · exact Ok.ji l h
      · rename_i hz
        split
        · rename_i t hn
          refine Ok.ji l ?_
          obtain ⟨Fz,κ,hr,hk⟩:=h
          have hv:a.tmps.getD s undef = .slice none 0 0:=hr.val hg
          have hnew:=hr.new (w':=w) (v:=.slice none 0 0) hn (Nat.le_refl _) (fun _ _=>rfl) (fun b hb=>by cases hb) ⟨rfl,rfl⟩ ⟨by omega,0,[],none,0,by rw [bS];rfl,by rw [bS];exact World.ownsRow_nil w _ _ _,rfl⟩
          refine ⟨Fz,oJ κ (dF s) (.slice none 0 0),hnew.put' ⟨?_,none,0,hv⟩,fun k hk'=>?_⟩
          · rw [bS];exact hv
          · rw [eD (fun e=>by unfold dF at e;omega)];exact hk k hk'
        · exact Ok.ji l h
    · exact Ok.ji l h
theorem Ok.res (h:Ok bH w0 bG N jO σ a w) (ks os:List Nat) (rws:List (Nat × Nat)):Ok bH w0 bG N jO (Ev.res ks os rws σ) a w :=
  (Ok.ji rws h).less (fun _ hp=>iq hp) (fun _ hp=>iq hp)
theorem tq : ∀ (n:Nat) (l:Array Bool),exts ops n l ≠ some []
  | 0,l,h=>by unfold exts at h;split at h <;> simp at h
  | n + 1,l,h=>by
    unfold exts at h
    split at h
    · simp at h
    · split at h
      · obtain ⟨A,h1,h2⟩:=zmm h
        have:A = []:=by
          cases A with
          | nil=>rfl
          | cons _ _=>simp at h2
        subst this
        exact tq n _ h1
      · obtain ⟨A,h1,h2⟩:=zbm h
        obtain ⟨B,_,h3⟩:=zmm h2
        have:A = []:=by
          cases A with
          | nil=>rfl
          | cons _ _=>simp at h3
        subst this
        exact tq n _ h1
theorem lU.app {ks oI:List Nat} {r:St}:∀ {A B:List (List Nat)},lU Γ gs ks oI σ r (A ++ B) → lU Γ gs ks oI σ r A ∧ lU Γ gs ks oI σ r B
  | [],_,h=>⟨trivial,h⟩
  | _ :: A,_,h=>⟨⟨h.1,(lU.app (A:=A) h.2).1⟩,(lU.app (A:=A) h.2).2⟩
theorem lU.step {ks oI:List Nat} {r:St} {i:Nat}:∀ {A:List (List Nat)},lU Γ gs ks oI σ r (A.map (i :: ·)) → A ≠ [] → ∃ s,NT Γ false σ (gs.getD i default) = some s ∧ lU Γ gs ks oI s r A
  | [],_,h=>absurd rfl h
  | x :: A,h,_=>by
    obtain ⟨⟨s,h1,h2⟩,h3⟩:=h
    obtain ⟨s1,h4,h5⟩:=zbm h1
    refine ⟨s1,h4,⟨s,h5,h2⟩,?_⟩
    by_cases hA:A = []
    · subst hA;trivial
    · obtain ⟨s2,g1,g2⟩:=lU.step h3 hA
      rw [h4] at g1;cases g1
      exact g2
theorem Ot {i:Nat} {o:Oper} {g:G} (ho:ops[i]? = some o) (hp:TS ops i = true) (hg:xH P X ops N.ok o = some g) (h:Ok bH w0 bG N jO σ a w) (hE:NT Γ false σ g = some σ'):∃ v,Yields P ops o v a ∧ Ok bH w0 bG N jO σ' (a.put o.dst v) w:=by
  obtain ⟨Fz,κ,hr,hk⟩:=h
  obtain ⟨p,h1,rfl⟩:=zmm hE
  obtain ⟨i',hi,h2⟩:=zbm hg
  split at h2
  · rename_i hd
    cases h2
    have hput:∀ {pv v},jk Fz κ w pv v → Ok bH w0 bG N jO (sF σ o.dst pv) (a.put o.dst v) w:=by
      intro pv v hv
      refine ⟨Fz,κ,?_,hk⟩
      cases hdst:o.dst with
      | none=>exact hr.Ri v
      | some d =>
        rw [hdst] at hd
        exact hr.put (by simpa using hd) hv
    obtain ⟨t,h3,h4⟩:=zbm h1
    cases t with
    | false =>
      rw [if_neg (by decide)] at h4
      cases h4
      exact ⟨undef,.inr ⟨K8 hr h3,rfl⟩,hput rfl⟩
    | true =>
      rw [if_pos rfl] at h4
      have hw:=K8 hr h3
      unfold TS at hp
      rw [ho] at hp
      simp only at hp
      have mv:∀ x,(o.op = .move x ∨ o.op = .assign x) → ∃ v,Yields P ops o v a ∧ Ok bH w0 bG N jO (sF p.2 o.dst p.1) (a.put o.dst v) w:=by
        intro x hx
        have hi2:(fK x).map I.mv = some i':=by
          unfold Df Dc uR at hi
          rcases hx with hx | hx <;> simp only [hx] at hi <;> (split at hi <;> first | (split at hi <;> first | (cases hi;assumption) | cases hi) | cases hi)
        obtain ⟨y,h5,rfl⟩:=zmm hi2
        obtain ⟨v,h6,h7⟩:=zmm h4
        cases h7
        refine ⟨a.eval x,.inl ⟨hw,fun w'=>?_⟩,hput (hr.KG h5 h6)⟩
        unfold execOp
        rcases hx with hx | hx <;> simp only [hx] <;> rfl
      split at hp
      · rename_i x hx;exact mv x (.inl hx)
      · rename_i x hx;exact mv x (.inr hx)
      · rename_i s x f hx
        have hi2:uR P X o = some i':=by
          unfold Df Dc at hi
          simp only [hx] at hi
          split at hi
          · split at hi
            · cases hi
            · cases hi;assumption
          · cases hi
        unfold uR at hi2
        simp only [hx] at hi2
        obtain ⟨fl,h5,hi2⟩:=zbm hi2
        obtain ⟨n,h6,hi2⟩:=zbm hi2
        split at hi2
        · cases hi2
        · rename_i h0
          obtain ⟨y,h7,rfl⟩:=zmm hi2
          obtain ⟨v,h8,h9⟩:=zbm h4
          have hv:=hr.eval h7 h8
          obtain ⟨fs,hu,hfi⟩:=Bu h5
          have run:∀ b o' (w':World),a.eval x = .pointer (some ⟨b,o',none⟩) → (execOp a.eval o).run P w' = .ok (.value (.pointer (some ⟨b,o' + fl.offset,none⟩))) w':=by
            intro b o' w' he
            unfold execOp
            simp only [hx,he]
            unfold Instr.fieldAt
            simp only [Sem.run_bind,run_underlying hu,Result.andThen_ok,hfi]
            simp only [Instr.sureAddr,Sem.run_bind,Sem.run_pure,Result.andThen_ok,oM h6 h0]
          split at h9
          · cases h9;obtain ⟨b,e1,e2⟩:=hv;exact ⟨_,.inl ⟨hw,fun w'=>run _ _ w' e2⟩,hput ⟨b,e1,rfl⟩⟩
          · cases h9;obtain ⟨b,o',e1,e2,e3⟩:=hv;exact ⟨_,.inl ⟨hw,fun w'=>run _ _ w' e1⟩,hput ⟨b,_,rfl,e2,e3.drop _⟩⟩
          · cases h9;obtain ⟨b,n',c,e1,e2⟩:=hv;exact ⟨_,.inl ⟨hw,fun w'=>run _ _ w' e2⟩,hput ⟨b,n',c,e1,by rw [Nat.add_assoc]⟩⟩
          · cases h9
      · cases hp
  · cases h2
theorem FB (heq:∀ t ∈ X.eqs,kX P t) (kL:iE P Γ) (hC:eu P Γ) {ks oI:List Nat} {r:St} {Q:Exit → Act → World → Prop} (hns:Region.noSelect ops = true) (hg:jG P X ops N.ok ops.toList = some gs) (hQp:∀ c a w,¬ Q (.panic c) a w) (hQ:∀ a' w',Ok bH w0 bG N jO r a' w' → Q .normal a' w'):∀ (n:Nat) (l:Array Bool) (os:List (List Nat)) {σ:St} {a:Act} {w:World},l.size = ops.size → exts ops n l = some os → lU Γ gs ks oI σ r os → Ok bH w0 bG N jO σ a w → wpAny P .any ops Q n l a w
  | 0,l,os,σ,a,w,hl,he,hA,hO=>by
    unfold exts at he
    split at he
    · rename_i hn
      cases he
      obtain ⟨⟨s,h1,h2⟩,_⟩:=hA
      cases h1
      exact ⟨hn,hQ a w (h2 ▸ hO.less (fun _ hp=>iq hp) (fun _ hp=>iq hp))⟩
    · cases he
  | n + 1,l,os,σ,a,w,hl,he,hA,hO=>by
    unfold exts at he
    obtain ⟨e1,e2⟩:=jS hg
    have hgd:∀ i (hi1:i < ops.size),xH P X ops N.ok ops[i] = some (gs.getD i default):=by
      intro i hi1
      have hgi:=e2 i (by simpa using hi1) (by rw [← e1];simpa using hi1)
      rw [List.getD_eq_getElem?_getD,List.getElem?_eq_getElem (by rw [← e1];simpa using hi1)]
      simpa using hgi
    split at he
    · rename_i hn
      cases he
      obtain ⟨⟨s,h1,h2⟩,_⟩:=hA
      cases h1
      rw [kS]
      exact ⟨fun _=>hQ a w (h2 ▸ hO.less (fun _ hp=>iq hp) (fun _ hp=>iq hp)),fun i hi=>by rw [hn] at hi;simp at hi⟩
    · rename_i i0 is0 hn
      split at he
      · rename_i j hf
        obtain ⟨A,h1,rfl⟩:=zmm he
        have hj:=List.find?_some hf
        rw [Bool.and_eq_true] at hj
        have hjr:j ∈ Region.ready .any ops l:=by rw [hn];exact List.mem_of_find?_eq_some hf
        obtain ⟨hj1,hj2,hj3⟩:=(iZ hl).mp hjr
        obtain ⟨s,g1,g2⟩:=hA.step (fun e=>tq n _ (e ▸ h1))
        obtain ⟨v,hy,GY⟩:=Ot (Array.getElem?_eq_getElem hj1) hj.1 (hgd j hj1) hO g1
        exact wpAny_take (Array.getElem?_eq_getElem hj1) hns hj.2 (by simpa using hjr) (fun c a w h=>absurd h (hQp c _ w)) hy (FB heq kL hC hns hg hQp hQ n _ A (by simp [hl]) h1 g2 GY)
      · rw [kS]
        refine ⟨fun h=>(by rw [hn] at h;cases h),?_⟩
        rw [hn]
        have hall:∀ i ∈ i0 :: is0,i ∈ Region.ready .any ops l:=fun i hi=>by rw [hn];exact hi
        rename_i hfn
        clear hfn
        generalize i0 :: is0 = is at he hall
        clear hn
        induction is generalizing os with
        | nil=>intro i hi;simp at hi
        | cons j is ih =>
          obtain ⟨A,h1,h2⟩:=zbm he
          obtain ⟨B,h3,rfl⟩:=zmm h2
          obtain ⟨hA1,hA2⟩:=hA.app
          intro i hi
          rcases List.mem_cons.mp hi with rfl | hi
          · obtain ⟨hi1,hi2,hi3⟩:=(iZ hl).mp (hall i (by simp))
            obtain ⟨s,g1,g2⟩:=hA1.step (fun e=>tq n _ (e ▸ h1))
            unfold wpOp
            rw [Array.getElem?_eq_getElem hi1]
            exact xQ heq kL hC (hgd i hi1) hO g1 fun a' w' h'=>FB heq kL hC hns hg hQp hQ n _ A (by simp [hl]) h1 g2 h'
          · exact ih B hA2 h3 (fun i hi=>hall i (List.mem_cons_of_mem _ hi)) i hi
theorem lU.pre {ks oI:List Nat} {r:St}:∀ {p:List Nat} {A:List (List Nat)} {σ:St},lU Γ gs ks oI σ r (A.map (p ++ ·)) → A ≠ [] → ∃ s,wK Γ false (p.map fun i=>gs.getD i default) σ = some s ∧ lU Γ gs ks oI s r A
  | [],A,σ,h,_=>⟨σ,rfl,by simpa using h⟩
  | i :: p,A,σ,h,hA=>by
    have e:A.map (i :: p ++ ·) = (A.map (p ++ ·)).map (i :: ·):=by rw [List.map_map];rfl
    rw [e] at h
    obtain ⟨s,h1,h2⟩:=h.step (by simpa using hA)
    obtain ⟨s',h3,h4⟩:=lU.pre h2 hA
    refine ⟨s',?_,h4⟩
    show (NT Γ false σ _).bind _ = _
    rw [h1]
    exact h3
theorem Lg (ops:Array Oper):∀ j,∀ x ∈ (kM [] (ops.toList.map jC)).getD j [],Ja ops x j:=xY _ _ (fun j x hx=>by simp at hx) (fun k hk=>by
  have hk':k < ops.size:=by simpa using hk
  refine ⟨by simpa using hk',?_⟩
  rw [List.getElem?_map,Array.getElem?_toList,Array.getElem?_eq_getElem hk']
  simp)
theorem TT {l:Array Bool} (hd:Down ops l) {i j:Nat} (hb:Ja ops j i):(∀ (h:i < ops.size),∀ e ∈ jC ops[i],Dn l e) → Dn l j:=by
  induction hb with
  | dir h he=>intro hr;exact hr h _ he
  | step h he hj ih=>intro hr;exact ih (fun h'=>hd _ h' (hr h _ he))
theorem Ou {h n i:Nat} (hh:h ≤ n):Dn (mask h n) i ↔ i < h:=by
  unfold Dn mask
  rw [Array.getD_eq_getD_getElem?,List.getElem?_toArray,List.getElem?_append,List.length_replicate]
  split
  · rename_i h1;simp [List.getElem?_replicate,h1]
  · rename_i h1
    rw [List.getElem?_replicate]
    split <;> simp [h1]
theorem Lh {h n:Nat} (hh:h < n):(mask h n).setIfInBounds h true = mask (h + 1) n:=by
  unfold mask
  refine Array.ext' ?_
  rw [Array.toList_setIfInBounds]
  refine List.ext_getElem? fun i=>?_
  rw [List.getElem?_set]
  simp only [List.getElem?_append,List.length_replicate,List.getElem?_replicate,List.length_append]
  by_cases h1:h = i
  · subst h1
    rw [if_pos rfl,if_pos (by simp;omega),if_pos (by omega),if_pos (by omega)]
  · rw [if_neg h1]
    by_cases h2:i < h
    · rw [if_pos h2,if_pos h2,if_pos (by omega),if_pos (by omega)]
    · have h4:¬ i < h + 1:=by omega
      simp only [h2,h4,if_false]
      by_cases h3:i < n
      · rw [if_pos (by omega),if_pos (by omega)]
      · rw [if_neg (by omega),if_neg (by omega)]
theorem GZ (heq:∀ t ∈ X.eqs,kX P t) (kL:iE P Γ) (hC:eu P Γ) {Q:Exit → Act → World → Prop} (hg:jG P X ops N.ok ops.toList = some gs) {h:Nat} (hh:h ≤ ops.size) (hB:GX (ops.toList.map jC) (kM [] (ops.toList.map jC)) ops.size h = true) {σh:St}
    (hK:∀ a' w',Ok bH w0 bG N jO σh a' w' → wpAny P .any ops Q (ops.size - h) (mask h ops.size) a' w'):∀ (m i:Nat) {σ:St} {a:Act} {w:World},m + i = h → wK Γ false ((List.range' i m).map fun i=>gs.getD i default) σ = some σh → Ok bH w0 bG N jO σ a w → wpAny P .any ops Q (ops.size - i) (mask i ops.size) a w
  | 0,i,σ,a,w,hm,hE,hO=>by
    have:i = h:=by omega
    subst this
    cases hE
    exact hK a w hO
  | m + 1,i,σ,a,w,hm,hE,hO=>by
    obtain ⟨e1,e2⟩:=jS hg
    have hi:i < ops.size:=by omega
    have hgd:xH P X ops N.ok ops[i] = some (gs.getD i default):=by
      have hgi:=e2 i (by simpa using hi) (by rw [← e1];simpa using hi)
      rw [List.getD_eq_getElem?_getD,List.getElem?_eq_getElem (by rw [← e1];simpa using hi)]
      simpa using hgi
    unfold GX at hB
    rw [Bool.and_eq_true] at hB
    have hEd:∀ k (hk:k < ops.size),∀ e ∈ jC ops[k],e < k:=fun k hk e he=>by
      have h1:=List.all_eq_true.mp hB.1 k (List.mem_range.mpr hk)
      rw [List.getD_eq_getElem?_getD,List.getElem?_map,Array.getElem?_toList,Array.getElem?_eq_getElem hk] at h1
      simpa using List.all_eq_true.mp h1 e he
    have hsz:(mask i ops.size).size = ops.size:=by simp [mask];omega
    have hdn:∀ j,Dn (mask i ops.size) j ↔ j < i:=fun j=>Ou (by omega)
    have XZ:Down ops (mask i ops.size):=fun j hj hd e he=>(hdn e).mpr (by have:=(hdn j).mp hd;have:=hEd j hj e he;omega)
    have hri:i ∈ Region.ready .any ops (mask i ops.size):=(iZ hsz).mpr ⟨hi,fun hd=>by have:=(hdn i).mp hd;omega,fun e he=>(hdn e).mpr (hEd i hi e he)⟩
    rw [show ops.size - i = (ops.size - (i + 1)) + 1 from by omega,kS]
    refine ⟨fun hn=>by rw [hn] at hri;simp at hri,fun j hj=>?_⟩
    obtain ⟨hj1,hj2,hj3⟩:=(iZ hsz).mp hj
    have hij:j = i:=by
      apply Classical.byContradiction
      intro hne
      have hlt:i < j:=by
        have:¬ j < i:=fun hx=>hj2 ((hdn j).mpr hx)
        omega
      have h1:=List.all_eq_true.mp hB.2 j (List.mem_range.mpr hj1)
      have h2:(List.getD (kM [] (ops.toList.map jC)) j []).take (min j h) = List.range (min j h):=by simpa using h1
      have h3:i ∈ (kM [] (ops.toList.map jC)).getD j []:=List.mem_of_mem_take (by rw [h2];exact List.mem_range.mpr (by omega))
      have:=(hdn i).mp (TT XZ (Lg ops j i h3) (fun _=>hj3))
      omega
    subst hij
    rw [List.range'_succ,List.map_cons] at hE
    obtain ⟨s,g1,g2⟩:=zbm hE
    unfold wpOp
    rw [Array.getElem?_eq_getElem hi]
    refine xQ heq kL hC hgd hO g1 fun a' w' h'=>?_
    rw [Lh hi]
    exact GZ heq kL hC hg hh (by unfold GX;rw [Bool.and_eq_true];exact hB) hK m (j + 1) (by omega) g2 h'
theorem TU (hm:P.follows .mixedOrders = true) (heq:∀ t ∈ X.eqs,kX P t) (kL:iE P Γ) (hC:eu P Γ) {ks oI:List Nat} {os:List (List Nat)} {o:Out} {id:Nat} (hns:Region.noSelect ops = true) (hg:jG P X ops N.ok ops.toList = some gs) (he:Lf ops = some os) (hO:Ok bH w0 bG N jO σ a w) (hE:evO Γ gs ks oI σ os = some (o,σ')) (hQ:∀ a' w',Ok bH w0 bG N jO σ' a' w' → Q (Fy o) a' w'):(Code.region id ops true).wp P Q a w:=by
  refine wp_mono (Q:=fun e a w=>e = .normal ∧ Q e a w) ?_ (fun _ _ _ h=>h.2)
  refine wp_region_any hm ?_
  replace hO:Ok bH w0 bG N jO σ a { w with drawn:=w.drawn + 1 }:=by
    obtain ⟨Fz,κ,hr,hk⟩:=hO
    exact ⟨Fz,κ,hr.grow (w':={ w with drawn:=w.drawn + 1 }) (Nat.le_refl _) (fun _ _=>rfl) ⟨rfl,rfl⟩,hk⟩
  cases os with
  | nil=>cases hE
  | cons o1 os =>
    obtain ⟨s,h1,h2⟩:=zbm hE
    split at h2
    · rename_i hA
      cases h2
      unfold Lf at he
      simp only [Ld] at he
      split at he
      · rename_i hcond
        obtain ⟨A,h5,h6⟩:=zmm he
        have hA':lU Γ gs ks oI σ _ (A.map (List.range (DJ (kM [] (ops.toList.map jC)) ops.size 0) ++ ·)):=h6 ▸ (show lU Γ gs ks oI σ ⟨pick ks s.tm,pick oI s.ob⟩ (o1 :: os) from ⟨⟨s,h1,rfl⟩,hA⟩)
        obtain ⟨sh,h7,h8⟩:=hA'.pre (fun e=>tq _ _ (e ▸ h5))
        have hm0:Array.replicate ops.size false = mask 0 ops.size:=by
          unfold mask
          refine Array.ext' ?_
          simp
        rw [hm0]
        refine GZ (i:=0) (h:=DJ (kM [] (ops.toList.map jC)) ops.size 0) heq kL hC hg hcond.1 hcond.2 (fun a' w' h'=>?_) (DJ (kM [] (ops.toList.map jC)) ops.size 0) (by omega) (by rw [← List.range_eq_range'];exact h7) hO
        exact FB heq kL hC hns hg (fun c a w h=>by cases h.1) (fun a' w' h=>⟨rfl,hQ a' w' h⟩) _ _ A (by simp [mask];omega) h5 h8 h'
      · cases he
    · cases h2
theorem Ad (hm:P.follows .mixedOrders = true) (heq:∀ t ∈ X.eqs,kX P t) (kL:iE P Γ) (hC:eu P Γ):∀ (c:Code) {h h':List Hi} {cc:CC} {σ σ':St} {o:Out} {a:Act} {w:World} {Q:Exit → Act → World → Prop},comp P X N.ok c h = some (cc,h') → Ok bH w0 bG N jO σ a w → ev Γ F cc σ = some (o,σ') →
    (∀ a' w',Ok bH w0 bG N jO σ' a' w' → Q (Fy o) a' w') → c.wp P Q a w:=by
  intro c
  induction c with
  | skip =>
    intro h h' cc σ σ' o a w Q hc hO hE hQ
    cases hc
    cases hE
    exact wp_skip (hQ a w hO)
  | region id ops draw =>
    intro h h' cc σ σ' o a w Q hc hO hE hQ
    cases h with
    | nil=>cases hc
    | cons k h =>
    obtain ⟨cr,h1,h2⟩:=zmm hc
    cases h2
    obtain ⟨gs,h3,h4⟩:=zbm h1
    cases draw with
    | false =>
      cases h4
      obtain ⟨s,h5,h6⟩:=zmm hE
      cases h6
      exact wp_region_list (Fv heq kL hC h3 hO h5 fun a' w' h=>hQ a' w' (h.keep _))
    | true =>
      simp only [Ld] at h4
      split at h4
      · split at h4
        · rename_i hns
          obtain ⟨os,h5,h6⟩:=zmm h4
          cases h6
          exact TU hm heq kL hC hns h3 h5 hO hE hQ
        · cases h4
      split at h4
      · rename_i hb
        cases h4
        obtain ⟨s,h5,h6⟩:=zmm hE
        cases h6
        obtain ⟨g1,g2⟩:=Jb (Oq _ _) h3 hb
        exact TQ hm g1 heq kL hC (by rw [g2];exact h3) hO h5 fun a' w' h=>hQ a' w' (h.keep _)
      · cases h4
  | seq x y ihx ihy =>
    intro h h' cc σ σ' o a w Q hc hO hE hQ
    obtain ⟨p,h1,h2⟩:=zbm hc
    obtain ⟨r,h3,h4⟩:=zmm h2
    cases h4
    obtain ⟨s,h5,h6⟩:=zbm hE
    refine wp_seq (ihx h1 hO h5 fun a' w' GY=>?_)
    cases hs:s.1 with
    | ji=>rw [hs] at h6;exact ihy h3 GY h6 hQ
    | ext id=>rw [hs] at h6;cases h6;exact hQ a' w' GY
    | ret=>rw [hs] at h6;cases h6;exact hQ a' w' GY
  | cond c x y ihx ihy =>
    intro h h' cc σ σ' o a w Q hc hO hE hQ
    obtain ⟨co,h0,hc⟩:=zbm hc
    obtain ⟨p,h1,h2⟩:=zbm hc
    obtain ⟨r,h3,h4⟩:=zmm h2
    cases h4
    obtain ⟨v,h5,h6⟩:=zbm hE
    obtain ⟨t,h7,h8⟩:=zbm h6
    have hv:a.eval c = .bool t:=by
      obtain ⟨Fz,κ,hr,_⟩:=hO
      exact Bq h7 (hr.eval h0 h5)
    refine wp_cond hv ?_
    cases t with
    | true=>exact ihx h1 hO h8 hQ
    | false=>exact ihy h3 hO h8 hQ
  | block id c ih =>
    intro h h' cc σ σ' o a w Q hc hO hE hQ
    obtain ⟨p,h1,h2⟩:=zmm hc
    cases h2
    obtain ⟨s,h3,h4⟩:=zmm hE
    refine wp_block (ih h1 hO h3 fun a' w' GY=>?_)
    cases hs:s.1 with
    | ji=>rw [hs] at h4;cases h4;exact hQ a' w' GY
    | ret=>rw [hs] at h4;cases h4;exact hQ a' w' GY
    | ext i =>
      rw [hs] at h4
      simp only [Fy,Exit.inBlock]
      by_cases hi:i = id
      · simp only [if_pos hi] at h4
        cases h4;rw [if_pos hi];exact hQ a' w' GY
      · simp only [if_neg hi] at h4
        cases h4;rw [if_neg hi];exact hQ a' w' GY
  | loop c ih =>
    intro h h' cc σ σ' o a w Q hc hO hE hQ
    cases h with
    | nil=>cases hc
    | cons k h =>
      obtain ⟨p,h1,h2⟩:=zmm hc
      cases h2
      have key:∀ (n:Nat) (σ:St) (a:Act) (w:World),Ok bH w0 bG N jO σ a w → iter (ev Γ F p.1) (Ev.res k.ks k.CZ k.rws) n σ = some (o,σ') → Code.rounds P c Q n a w:=by
        intro n
        induction n with
        | zero=>intro σ a w _ hE;cases hE
        | succ n ihn =>
          intro σ a w hO hE
          obtain ⟨s,h3,h4⟩:=zbm hE
          rw [rounds_succ]
          refine ih h1 (hO.res k.ks k.CZ k.rws) h3 fun a' w' GY=>?_
          cases hs:s.1 with
          | ji=>rw [hs] at h4;exact ihn s.2 a' w' GY h4
          | ext id=>rw [hs] at h4;cases h4;exact hQ a' w' GY
          | ret=>rw [hs] at h4;cases h4;exact hQ a' w' GY
      exact wp_loop_rounds F (key F σ a w hO hE)
  | exit id =>
    intro h h' cc σ σ' o a w Q hc hO hE hQ
    cases hc
    cases hE
    exact wp_exit (hQ a w hO)
  | ret =>
    intro h h' cc σ σ' o a w Q hc hO hE hQ
    cases hc
    cases hE
    exact wp_ret (hQ a w hO)
  | scope c ih =>
    intro h h' cc σ σ' o a w Q hc hO hE hQ
    refine wp_scope_straight (ih hc hO hE fun a' w' h'=>?_)
    have:=hQ a' w' h'
    cases o <;> exact this
  | label l =>
    intro h h' cc σ σ' o a w Q hc hO hE hQ
    cases hc
    cases hE
    exact wp_label (hQ a w hO)
  | _=>intro h h' cc σ σ' o a w Q hc;cases hc
end
end Go.Proofs.Ytdkkgecdhapfhaa.Ev
namespace Go.Proofs.Ytdkkgecdhapfhaa.Ev
open Go
section
variable {P : Program} {Γ:Env} {bH Fz bK:Nat → Prop} {w0 w w':World} {bG bs:List Nat} {N:Fr} {F:Nat} {κ jO:Nat → Value} {σ fI σ':St} {a:Act} {X:Hx}
theorem DK {bo:List Nat}:∀ {fV:List AV} {vals:List Value} {bx bs:List Nat} {i:Nat} {pend:List PL} {jD:List Value} {mM:List CV} {κ:Nat → Value} {σ σ':St},bW bH w0 bG N (bx ++ bs) Fz κ σ a w → fM Fz w fV vals bx → (∀ j v,vals[j]? = some v → a.tmps.getD (i + j) undef = v) → bA Fz κ w pend jD → enter bo i pend σ fV = some (mM,σ') →
    ∃ eY,bW bH w0 bG N bs Fz eY σ' a w ∧ dQ Fz eY w mM vals ∧ bA Fz eY w pend jD
  | [],[],bx,bs,i,pend,jD,mM,κ,σ,σ',h,hx,ht,hp,hs=>by cases hs;cases hx;exact ⟨κ,h,trivial,hp⟩
  | [],_ :: _,_,_,_,_,_,_,_,_,_,_,hx,_,_,_=>hx.elim
  | _ :: _,[],_,_,_,_,_,_,_,_,_,_,hx,_,_,_=>hx.elim
  | x :: fV,v :: vals,bx,bs,i,pend,jD,mM,κ,σ,σ',h,hx,ht,hp,hs=>by
    obtain ⟨b1,b2,h1,h2,rfl⟩:=hx
    obtain ⟨p,h3,h4⟩:=zbm hs
    obtain ⟨r,h5,h6⟩:=zmm h4
    cases h6
    obtain ⟨zB,e1,e2,e3,_⟩:=KZ (Kp:=fun _=>True) (fun _ _=>trivial) (fun _ _ _=>trivial) trivial (bs:=b2 ++ bs) (by rw [← List.append_assoc];exact h) h1 hp h3
    have hv:a.tmps.getD i undef = v:=by have:=ht 0 v rfl;rwa [Nat.add_zero] at this
    have hrel:bW bH w0 bG N (b2 ++ bs) Fz zB ⟨Ev.put p.2.tm i (.c p.1),p.2.ob⟩ a w:=⟨e1.rel.put' (by rw [hv];exact e2),e1.l9,e1.ap⟩
    obtain ⟨I5,g1,g2,g3⟩:=DK hrel h2 (fun j u hj=>by have:=ht (j + 1) u (by simpa using hj);rwa [show i + 1 + j = i + (j + 1) from by omega]) (show bA Fz zB w (Ev.cells p.1 ++ pend) (Ev.Dv p.1 v ++ jD) from e2.Dv.app e3) h5
    obtain ⟨g5,g6⟩:=g3.BL (by have:=e2.Dv.length;omega)
    exact ⟨I5,g1,⟨fZ.K3 (fun xs hx=>by rw [hx] at e2;obtain ⟨cs,h,_⟩:=e2;exact ⟨cs,h⟩) g5,g2⟩,g6⟩
theorem wP (h:bW bH w0 bG N bs Fz κ σ a w) {x:PL} {y:TV} {v:Value} (hx:d9 Fz κ w x v) (hs:outT σ x = some (y,σ')):∃ bK bx,bW bH w0 bG N (bx ++ bs) bK κ σ' a w ∧ (∀ b,Fz b → bK b) ∧ nC bK w y v bx:=by
  cases x with
  | f x=>cases hs;exact ⟨Fz,[],h,fun _ h=>h,hx,rfl⟩
  | fQ=>cases hs;exact ⟨Fz,[],h,fun _ h=>h,by simp only [eX];exact ⟨none,0,hx,Nat.le_refl _,by simp,.inl trivial⟩,rfl⟩
  | jF=>cases hs;exact ⟨Fz,[],h,fun _ h=>h,hx,rfl⟩
  | fB=>cases hs;exact ⟨Fz,[],h,fun _ h=>h,hx,rfl⟩
  | fp cs=>cases hs;exact ⟨Fz,[],h,fun _ h=>h,d9.mono (κ:=κ) (eY:=fun _=>undef) (fun _ h=>h) (fun _ _=>rfl) (fun k hk=>by cases hk) hx,rfl⟩
  | fn f cs=>cases hs;exact ⟨Fz,[],h,fun _ h=>h,d9.mono (κ:=κ) (eY:=fun _=>undef) (fun _ h=>h) (fun _ _=>rfl) (fun k hk=>by cases hk) hx,rfl⟩
  | own key n =>
    obtain ⟨p,h1,h2⟩:=zmm hs
    cases h2
    obtain ⟨bK,g1,g2,g3⟩:=h.xg hx h1
    exact ⟨bK,[],g1,g2,g3,rfl⟩
  | mp key =>
    simp only [outT] at hs
    split at hs
    · rename_i sh ents fU
      cases hs
      obtain ⟨b,h1,h2⟩:=h.rel.obj fU
      exact ⟨Fz,[b],h.take fU (by rw [h1];rfl),fun _ h=>h,b,by rw [hx.1,h1],h2,rfl⟩
    · cases hs
  | ptr key off =>
    cases off with
    | succ n=>cases hs
    | zero =>
      simp only [outT] at hs
      split at hs
      · rename_i xs fU
        obtain ⟨p,h1,h2⟩:=zmm hs
        cases h2
        obtain ⟨b,cs,e,g1,g2,g3⟩:=h.rel.obj fU
        obtain ⟨b',g4,g5⟩:=hx
        rw [g1] at g4
        cases g4
        obtain ⟨F1,bx,e1,e2,e3⟩:=BH (h.take fU (by rw [g1];rfl)) g3 h1
        exact ⟨F1,b :: bx,e1.perm List.perm_middle,e2,b,cs,e,bx,g5,g2,e3,rfl⟩
      · cases hs
  | _=>cases hs
theorem DL : ∀ {xs:List PL} {ys:List TV} {vs:List Value} {bs:List Nat} {Fz:Nat → Prop} {σ σ':St},bW bH w0 bG N bs Fz κ σ a w → bA Fz κ w xs vs → vM σ xs = some (ys,σ') → ∃ bK bx,bW bH w0 bG N (bx ++ bs) bK κ σ' a w ∧ (∀ b,Fz b → bK b) ∧ lM bK w ys vs bx
  | [],ys,[],bs,Fz,σ,σ',h,_,hs=>by cases hs;exact ⟨Fz,[],h,fun _ h=>h,rfl⟩
  | x :: xs,ys,v :: vs,bs,Fz,σ,σ',h,hx,hs=>by
    obtain ⟨p,h1,h2⟩:=zbm hs
    obtain ⟨r,h3,h4⟩:=zmm h2
    cases h4
    obtain ⟨F1,b1,e1,e2,e3⟩:=wP h hx.1 h1
    obtain ⟨F2,b2,e4,e5,e6⟩:=DL e1 (bA.mono e2 (fun _ _=>rfl) xs (fun _ _=>rfl) vs hx.2) h3
    refine ⟨F2,b1 ++ b2,e4.perm ?_,fun b hb=>e5 b (e2 b hb),b1,b2,e3.mono e5 (fun _ _=>rfl) (fun _ _=>rfl),e6,rfl⟩
    rw [← List.append_assoc]
    exact List.perm_append_comm.append_right bs
  | [],_,_ :: _,_,_,_,_,_,h,_=>h.elim
  | _ :: _,_,[],_,_,_,_,_,h,_=>h.elim
theorem Ov (h:bW bH w0 bG N bs Fz κ σ a w) {x:CV} {y:AV} {v:Value} (hx:fZ Fz κ w x v) (hs:NV σ x = some (y,σ')):∃ bK bx,bW bH w0 bG N (bx ++ bs) bK κ σ' a w ∧ (∀ b,Fz b → bK b) ∧ oP bK w y v bx:=by
  cases x with
  | one x =>
    obtain ⟨p,h1,h2⟩:=zmm hs
    cases h2
    exact wP h hx h1
  | agg xs =>
    obtain ⟨p,h1,h2⟩:=zmm hs
    cases h2
    obtain ⟨cs,rfl,hx⟩:=hx
    obtain ⟨F1,b1,e1,e2,e3⟩:=DL h hx h1
    exact ⟨F1,b1,e1,e2,cs,rfl,e3⟩
theorem Ow (h:bW bH w0 bG N bs Fz κ σ a w) {sz:Nat} {x:PL} {y:TV} {v:Value} (hx:d9 Fz κ w x v) (hs:Bh sz σ x = some (y,σ')):∃ bx,bW bH w0 bG N (bx ++ bs) Fz κ σ' a w ∧ nC Fz w y v bx:=by
  cases x with
  | own key n =>
    simp only [Bh] at hs
    split at hs
    · rename_i z rows fU
      split at hs
      · rename_i hz
        subst hz
        cases hs
        obtain ⟨g1,g2⟩:=h.Gz fU
        exact ⟨_,g1,by rw [hx.1];exact g2⟩
      · cases hs
    · cases hs
  | fQ =>
    simp only [Bh] at hs
    split at hs
    · cases hs
    · rename_i hz
      cases hs
      have hv:v = .slice none 0 0:=hx
      subst hv
      exact ⟨[],h,by omega,0,[],none,0,rfl,World.ownsRow_nil w _ _ _,rfl,rfl⟩
  | _=>cases hs
theorem Ox (h:bW bH w0 bG N bs Fz κ σ a w) {fl:Option Nat} {x:CV} {y:AV} {v:Value} (hx:fZ Fz κ w x v) (hs:Bj fl σ x = some (y,σ')):∃ bK bx,bW bH w0 bG N (bx ++ bs) bK κ σ' a w ∧ (∀ b,Fz b → bK b) ∧ oP bK w y v bx:=by
  cases fl with
  | none=>exact Ov h hx (by cases x <;> exact hs)
  | some sz =>
    cases x with
    | one x =>
      obtain ⟨p,h1,h2⟩:=zmm hs
      cases h2
      obtain ⟨bx,e1,e2⟩:=Ow h hx h1
      exact ⟨Fz,bx,e1,fun _ h=>h,e2⟩
    | agg xs=>cases hs
theorem DN : ∀ {xs:List CV} {ys:List AV} {vs:List Value} {fl:List (Option Nat)} {bs:List Nat} {Fz:Nat → Prop} {σ σ':St},bW bH w0 bG N bs Fz κ σ a w → dQ Fz κ w xs vs → ou fl σ xs = some (ys,σ') → ∃ bK bx,bW bH w0 bG N (bx ++ bs) bK κ σ' a w ∧ (∀ b,Fz b → bK b) ∧ fM bK w ys vs bx
  | [],ys,[],fl,bs,Fz,σ,σ',h,_,hs=>by cases hs;exact ⟨Fz,[],h,fun _ h=>h,rfl⟩
  | x :: xs,ys,v :: vs,fl,bs,Fz,σ,σ',h,hx,hs=>by
    obtain ⟨p,h1,h2⟩:=zbm hs
    obtain ⟨r,h3,h4⟩:=zmm h2
    cases h4
    obtain ⟨F1,b1,e1,e2,e3⟩:=Ox h hx.1 h1
    obtain ⟨F2,b2,e4,e5,e6⟩:=DN e1 (dQ.mono e2 (fun _ _=>rfl) xs (fun _ _=>rfl) vs hx.2) h3
    refine ⟨F2,b1 ++ b2,e4.perm ?_,fun b hb=>e5 b (e2 b hb),b1,b2,e3.mono e5 (fun _ _=>rfl) (fun _ _=>rfl),e6,rfl⟩
    rw [← List.append_assoc]
    exact List.perm_append_comm.append_right bs
  | [],_,_ :: _,_,_,_,_,_,_,h,_=>h.elim
  | _ :: _,_,[],_,_,_,_,_,_,h,_=>h.elim
theorem DR {x:PL} {y z:TV} {v:Value} {EW:List Nat} {F0:Nat → Prop} {u0:World} (h:bW bH w0 bG N bs Fz κ σ a w) {Li:Nat → Value} (hx:d9 F0 Li u0 x v) (Kl:∀ k,k % 2 = 1 → κ k = Li k) (hy:nC F0 u0 y v EW) (hf:∀ b,F0 b → Fz b) (hw:∀ b,F0 b → w.heap[b]? = u0.heap[b]?) (hs:jN σ x y = some (z,σ')) :
    ∃ bK bx,bW bH w0 bG N (bx ++ bs) bK κ σ' a w ∧ (∀ b,Fz b → bK b) ∧ nC bK w z v bx:=by
  have plain:EW = [] → some (y,σ) = some (z,σ') → ∃ bK bx,bW bH w0 bG N (bx ++ bs) bK κ σ' a w ∧ (∀ b,Fz b → bK b) ∧ nC bK w z v bx:=by
    intro hb hs
    cases hs
    subst hb
    exact ⟨Fz,[],h,fun _ h=>h,hy.mono hf hw (fun b hb=>by simp at hb)⟩
  cases y with
  | ptr cs =>
    cases x with
    | ptr key off =>
      cases off with
      | succ n=>cases hs
      | zero =>
        simp only [jN] at hs
        split at hs
        · rename_i hk
          exact wP h (show d9 Fz κ w (.ptr key 0) v by obtain ⟨b,h1,h2⟩:=hx;exact ⟨b,(Kl key hk).trans h1,h2⟩) hs
        · cases hs
    | _=>cases hs
  | mp sh ents =>
    cases x with
    | mp key =>
      simp only [jN] at hs
      split at hs
      · rename_i hk
        exact wP h (show d9 Fz κ w (.mp key) v by obtain ⟨h1,h2⟩:=hx;exact ⟨h1.trans (Kl key hk).symm,h2⟩) hs
      · cases hs
    | ptr key off=>cases off <;> cases hs
    | _=>cases hs
  | own sz rows =>
    have g:z = .any → σ' = σ → ∃ bK bx,bW bH w0 bG N (bx ++ bs) bK κ σ' a w ∧ (∀ b,Fz b → bK b) ∧ nC bK w z v bx:=by
      rintro rfl rfl
      exact ⟨Fz,[],h,fun _ h=>h,rfl⟩
    cases x with
    | ptr key off=>cases off <;> (cases hs;exact g rfl rfl)
    | own key n =>
      simp only [jN] at hs
      split at hs
      · rename_i hk
        split at hs
        · rename_i z' rows' fU
          cases hs
          obtain ⟨g1,g2⟩:=h.Gz fU
          refine ⟨Fz,_,g1,fun _ h=>h,?_⟩
          rw [hx.1,← Kl key hk]
          exact g2
        · cases hs
      · cases hs;exact g rfl rfl
    | _=>cases hs;exact g rfl rfl
  | fp cs =>
    cases x with
    | ptr key off=>cases off <;> exact plain hy.2 hs
    | _=>exact plain hy.2 hs
  | fn f cs =>
    cases x with
    | ptr key off=>cases off <;> exact plain hy.2 hs
    | _=>exact plain hy.2 hs
  | any =>
    cases x with
    | ptr key off=>cases off <;> exact plain hy hs
    | _=>exact plain hy hs
  | f y =>
    cases x with
    | ptr key off=>cases off <;> exact plain hy.2 hs
    | _=>exact plain hy.2 hs
  | jF =>
    cases x with
    | ptr key off=>cases off <;> exact plain hy.2 hs
    | _=>exact plain hy.2 hs
  | fB =>
    cases x with
    | ptr key off=>cases off <;> exact plain hy.2 hs
    | _=>exact plain hy.2 hs
theorem Ae {F0:Nat → Prop} {u0:World} {Li:Nat → Value} (Kl:∀ k,k % 2 = 1 → κ k = Li k):∀ {xs:List PL} {ys zs:List TV} {vs:List Value} {bs EW:List Nat} {Fz:Nat → Prop} {σ σ':St},bW bH w0 bG N bs Fz κ σ a w → bA F0 Li u0 xs vs → lM F0 u0 ys vs EW → (∀ b,F0 b → Fz b) → (∀ b,F0 b → w.heap[b]? = u0.heap[b]?) → nR σ xs ys = some (zs,σ') →
    ∃ bK bx,bW bH w0 bG N (bx ++ bs) bK κ σ' a w ∧ (∀ b,Fz b → bK b) ∧ lM bK w zs vs bx
  | [],[],zs,[],bs,EW,Fz,σ,σ',h,hx,hy,hf,hw,hs=>by cases hs;exact ⟨Fz,[],h,fun _ h=>h,rfl⟩
  | x :: xs,y :: ys,zs,v :: vs,bs,EW,Fz,σ,σ',h,hx,hy,hf,hw,hs=>by
    obtain ⟨y1,y2,h1,h2,_⟩:=hy
    obtain ⟨p,h3,h4⟩:=zbm hs
    obtain ⟨r,h5,h6⟩:=zmm h4
    cases h6
    obtain ⟨F1,b1,e1,e2,e3⟩:=DR h hx.1 Kl h1 hf hw h3
    obtain ⟨F2,b2,e4,e5,e6⟩:=Ae Kl e1 hx.2 h2 (fun b hb=>e2 b (hf b hb)) hw h5
    refine ⟨F2,b1 ++ b2,e4.perm ?_,fun b hb=>e5 b (e2 b hb),b1,b2,e3.mono e5 (fun _ _=>rfl) (fun _ _=>rfl),e6,rfl⟩
    rw [← List.append_assoc]
    exact List.perm_append_comm.append_right bs
  | [],[],_,_ :: _,_,_,_,_,_,_,hx,_,_,_,_=>hx.elim
  | _ :: _,_ :: _,_,[],_,_,_,_,_,_,hx,_,_,_,_=>hx.elim
  | [],_ :: _,_,_,_,_,_,_,_,_,_,_,_,_,hs=>by cases hs
  | _ :: _,[],_,_,_,_,_,_,_,_,_,_,_,_,hs=>by cases hs
theorem Lj {F0:Nat → Prop} {u0:World} {Li:Nat → Value} (Kl:∀ k,k % 2 = 1 → κ k = Li k) {x:CV} {y z:AV} {v:Value} {EW:List Nat} (h:bW bH w0 bG N bs Fz κ σ a w) (hx:fZ F0 Li u0 x v) (hy:oP F0 u0 y v EW) (hf:∀ b,F0 b → Fz b) (hw:∀ b,F0 b → w.heap[b]? = u0.heap[b]?) (hs:xB σ x y = some (z,σ')) :
    ∃ bK bx,bW bH w0 bG N (bx ++ bs) bK κ σ' a w ∧ (∀ b,Fz b → bK b) ∧ oP bK w z v bx:=by
  cases x with
  | one x =>
    cases y with
    | one y =>
      obtain ⟨p,h1,h2⟩:=zmm hs
      cases h2
      exact DR h hx Kl hy hf hw h1
    | agg ys=>cases hs
  | agg xs =>
    cases y with
    | one y=>cases hs
    | agg ys =>
      obtain ⟨p,h1,h2⟩:=zmm hs
      cases h2
      obtain ⟨cs,rfl,hx⟩:=hx
      obtain ⟨cs',hcs,hy⟩:=hy
      cases hcs
      obtain ⟨F1,b1,e1,e2,e3⟩:=Ae Kl h hx hy hf hw h1
      exact ⟨F1,b1,e1,e2,cs,rfl,e3⟩
theorem Af {F0:Nat → Prop} {u0:World} {Li:Nat → Value} (Kl:∀ k,k % 2 = 1 → κ k = Li k):∀ {xs:List CV} {ys zs:List AV} {vs:List Value} {bs EW:List Nat} {Fz:Nat → Prop} {σ σ':St},bW bH w0 bG N bs Fz κ σ a w → dQ F0 Li u0 xs vs → fM F0 u0 ys vs EW → (∀ b,F0 b → Fz b) → (∀ b,F0 b → w.heap[b]? = u0.heap[b]?) → lF σ xs ys = some (zs,σ') →
    ∃ bK bx,bW bH w0 bG N (bx ++ bs) bK κ σ' a w ∧ (∀ b,Fz b → bK b) ∧ fM bK w zs vs bx
  | [],[],zs,[],bs,EW,Fz,σ,σ',h,hx,hy,hf,hw,hs=>by cases hs;exact ⟨Fz,[],h,fun _ h=>h,rfl⟩
  | x :: xs,y :: ys,zs,v :: vs,bs,EW,Fz,σ,σ',h,hx,hy,hf,hw,hs=>by
    obtain ⟨y1,y2,h1,h2,_⟩:=hy
    obtain ⟨p,h3,h4⟩:=zbm hs
    obtain ⟨r,h5,h6⟩:=zmm h4
    cases h6
    obtain ⟨F1,b1,e1,e2,e3⟩:=Lj Kl h hx.1 h1 hf hw h3
    obtain ⟨F2,b2,e4,e5,e6⟩:=Af Kl e1 hx.2 h2 (fun b hb=>e2 b (hf b hb)) hw h5
    refine ⟨F2,b1 ++ b2,e4.perm ?_,fun b hb=>e5 b (e2 b hb),b1,b2,e3.mono e5 (fun _ _=>rfl) (fun _ _=>rfl),e6,rfl⟩
    rw [← List.append_assoc]
    exact List.perm_append_comm.append_right bs
  | [],[],_,_ :: _,_,_,_,_,_,_,hx,_,_,_,_=>hx.elim
  | _ :: _,_ :: _,_,[],_,_,_,_,_,_,hx,_,_,_,_=>hx.elim
  | [],_ :: _,_,_,_,_,_,_,_,_,_,_,_,_,hs=>by cases hs
  | _ :: _,[],_,_,_,_,_,_,_,_,_,_,_,_,hs=>by cases hs
end
end Go.Proofs.Ytdkkgecdhapfhaa.Ev
namespace Go.Proofs.Ytdkkgecdhapfhaa.Ev
open Go
def mU (P:Program):List ResultVar → Option (List Rs)
  | []=>some []
  | .tmp t :: l=>(mU P l).map fun r=>.t t :: r
  | .cell a t :: l=>(xE P t).bind fun g=>(nA P t).bind fun n=>(mU P l).map fun r=>.cell a (if g then n else 1) g :: r
section
variable {P : Program} {Γ:Env} {bH Fz bK:Nat → Prop} {w0 w w':World} {bG bs:List Nat} {N:Fr} {F:Nat} {κ jO:Nat → Value} {σ fI σ':St} {a:Act} {X:Hx}
def Ag (tmps:Array Value) (r:ResultVar):Sem Value:=match r with
  | .tmp t=>pure (tmps.getD t undef)
  | .cell a t=>do loadVar t (← asAddr (tmps.getD a undef))
theorem xZ (h:Rel bH w0 bG N Fz κ σ a w):∀ {rv:List ResultVar} {rs:List Rs} {mM:List CV},mU P rv = some rs → slots σ rs = some mM → ∃ vs,(rv.mapM (Ag a.tmps)).run P w = .ok vs w ∧ dQ Fz κ w mM vs
  | [],rs,mM,hc,hs=>by cases hc;cases hs;exact ⟨[],by simp,trivial⟩
  | .tmp t :: l,rs,mM,hc,hs=>by
    obtain ⟨r,h1,rfl⟩:=zmm hc
    obtain ⟨x,h2,hs⟩:=zbm hs
    obtain ⟨m,h3,rfl⟩:=zmm hs
    obtain ⟨vs,e1,e2⟩:=xZ h h1 h3
    have hv:=h.eval (x:=.tmp t) (y:=.t t) rfl h2
    refine ⟨a.tmps.getD t undef :: vs,?_,hv,e2⟩
    rw [List.mapM_cons]
    simp [Ag,e1]
  | .cell ad t :: l,rs,mM,hc,hs=>by
    obtain ⟨g,hg,hc⟩:=zbm hc
    obtain ⟨n,hn,hc⟩:=zbm hc
    obtain ⟨r,h1,rfl⟩:=zmm hc
    obtain ⟨x,h2,hs⟩:=zbm hs
    obtain ⟨m,h3,rfl⟩:=zmm hs
    obtain ⟨vs,e1,e2⟩:=xZ h h1 h3
    simp only [slot] at h2
    split at h2
    · rename_i key off hk
      split at h2
      · rename_i xs fU
        obtain ⟨sg,h5,h6⟩:=zbm h2
        have hv:jk Fz κ w (.c (.one (.ptr key off))) (a.tmps.getD ad undef):=h.val hk
        obtain ⟨b,g1,g2⟩:=hv
        obtain ⟨b',cs,e,g3,g4,g5⟩:=h.obj fU
        rw [g1] at g3
        cases g3
        obtain ⟨e6,e7,e8⟩:=g5.seg h5
        obtain ⟨v,e9,e10⟩:=mQ (P:=P) (b:=b) (o:=off) hg hn e6 (fun j v hj=>by
          have:=qd (w:=w) (b:=b) (o:=0) (off:=off) (vs:=cs.toList) (n:=if g then n else 1) (fun j v hj=>by
            rw [Nat.zero_add]
            simp only [World.cell?,g4]
            simpa using hj) j v hj
          rwa [Nat.zero_add] at this) e7 h6
        refine ⟨v :: vs,?_,e10,e2⟩
        have ha:(asAddr (a.tmps.getD ad undef)).run P w = .ok ⟨b,off,none⟩ w:=by rw [g2];rfl
        have hro:(Ag a.tmps (.cell ad t)).run P w = .ok v w:=by
          simp only [Ag,Sem.run_bind,ha,Result.andThen_ok]
          exact e9
        rw [List.mapM_cons]
        simp only [Sem.run_bind,hro,e1,Result.andThen_ok,Sem.run_pure]
      · cases h2
    · cases h2
theorem FD (h:Rel bH w0 bG N Fz κ σ a w) {fn:Func} {rs:List Rs} {mM:List CV} (hc:mU P fn.results.toList = some rs) (hs:slots σ rs = some mM):∃ vs,(results fn a.tmps).run P w = .ok (ret vs) w ∧ dQ Fz κ w mM vs:=by
  obtain ⟨vs,h1,h2⟩:=xZ h hc hs
  refine ⟨vs,?_,h2⟩
  have he:results fn a.tmps = (do let vs ← fn.results.mapM (Ag a.tmps);pure (if h:vs.size = 1 then vs[0] else .tuple vs)):=by
    unfold results Ag
    congr 1
  rw [he,Array.mapM_eq_mapM_toList]
  simp only [Sem.run_bind,Sem.run_map,h1,Result.andThen_ok,Sem.run_pure]
  match vs with
  | []=>rfl
  | [x]=>rfl
  | x :: y :: l=>simp [ret]
theorem Ll {fn:Func} {cf:CF} {fV rs rG:List AV} {vals:List Value} {mM:List CV} {N:Fr} (hr:mU P fn.results.toList = some cf.res) (ha:fM Fz w fV vals bs) (hap:∀ b ∈ bs,¬ Fz b ∧ b < w.heap.size) (hfz:∀ b,Fz b → b < w.heap.size) (g2:dQ Fz jO w mM vals) :
    ∀ a' w',Ok Fz w bs N jO σ a' w' → ((lF σ mM fV).bind fun b=>(slots b.2 cf.res).bind fun l=>(ou cf.ro b.2 l).map fun r=>(r.1,b.1)) = some (rs,rG) →
        a'.defers = N.ds ∧ ∃ v,(results fn a'.tmps).run P w' = .ok v w' ∧ ∃ bK uW b1 b2,Ending.returned v = .returned (ret uW) ∧ Post Fz w vals bs rs rG bK w' uW b1 b2:=by
  rintro a' w' ⟨F1,κ,hr1,hk⟩ hE
  obtain ⟨b,h3,hE⟩:=zbm hE
  obtain ⟨l,h4,hE⟩:=zbm hE
  obtain ⟨r,h5,h6⟩:=zmm hE
  cases h6
  have hmv:∀ b,Fz b → w'.heap[b]? = w.heap[b]?:=fun b hb=>hr1.ext b (hfz b hb) (fun hm=>(hap b hm).1 hb)
  obtain ⟨F2,b1,e1,e2,e3⟩:=Af hk hr1.x g2 ha (fun b hb=>hr1.wL b hb) hmv h3
  rw [List.append_nil] at e1
  obtain ⟨uW,e4,e5⟩:=FD e1.rel hr h4
  obtain ⟨F3,b2,e6,e7,e8⟩:=DN e1 e5 h5
  have hpm:=e6.perm List.perm_append_comm
  refine ⟨hr1.l9,ret uW,e4,F3,uW,b1,b2,rfl,fun b hb=>e7 b (e2 b (hr1.wL b hb)),fun b hb=>e6.rel.fz b hb,hr1.big,hr1.ext,hr1.kp,e3.mono e7 (fun _ _=>rfl) (fun _ _=>rfl),e8,hpm.l9,fun b hb=>?_⟩
  have:=hpm.ap b hb
  exact ⟨this.1,this.2.1,this.2.2.1⟩
theorem fM.len : ∀ {xs:List AV} {vs:List Value} {b:List Nat},fM Fz w xs vs b → vs.length = xs.length
  | [],[],_,_=>rfl
  | [],_ :: _,_,h=>h.elim
  | _ :: _,[],_,h=>h.elim
  | x :: xs,v :: vs,_,⟨_,_,_,h2,_⟩=>by simp [fM.len h2]
theorem entered {bo:List Nat} {n:Nat} {fV:List AV} {vals:List Value} {mM:List CV} (ha:fM Fz w fV vals bs) (hnd:bs.Nodup) (hap:∀ b ∈ bs,¬ Fz b ∧ b < w.heap.size) (hfz:∀ b,Fz b → b < w.heap.size)
    (hsz:(vals.toArray ++ Array.replicate (n - vals.toArray.size) undef).size = n) (h1:enter bo 0 [] ⟨[],[]⟩ fV = some (mM,σ)) :
    ∃ jO,Ok Fz w bs (Fr.of n) jO σ { tmps:=vals.toArray ++ Array.replicate (n - vals.toArray.size) undef,defers:=[] } w ∧ dQ Fz jO w mM vals:=by
  have X0:bW Fz w bs (Fr.of n) (bs ++ []) Fz (fun _=>undef) ⟨[],[]⟩ { tmps:=vals.toArray ++ Array.replicate (n - vals.toArray.size) undef,defers:=[] } w :=
    ⟨⟨fun p hp=>by simp at hp,hsz,rfl,fun d hd=>by
      rw [Array.getD_eq_getD_getElem?,Array.getElem?_eq_none (by rw [hsz];simpa [Fr.of,IX] using hd)];rfl,fun p hp=>by simp at hp,fun p hp=>by simp at hp,fun p hp=>by simp at hp,fun b hb=>⟨hfz b hb,.inl hb⟩,fun _ h=>h,Nat.le_refl _,fun _ _ _=>rfl,rfl,rfl⟩,by rw [List.append_nil];exact hnd,fun b hb=>by
      rw [List.append_nil] at hb
      exact ⟨(hap b hb).1,(hap b hb).2,.inl hb,fun p hp=>by simp at hp⟩⟩
  obtain ⟨jO,g1,g2,_⟩:=DK X0 ha (fun j v hj=>by
    rw [Nat.zero_add,Array.getD_eq_getD_getElem?,Array.getElem?_append_left (by
      have:=(List.getElem?_eq_some_iff.mp hj).1
      simpa using this)]
    simp [hj]) (show bA Fz (fun _=>undef) w [] [] from trivial) h1
  exact ⟨jO,⟨Fz,jO,g1.rel,fun _ _=>rfl⟩,g2⟩
theorem Ah (hm:P.follows .mixedOrders = true) (heq:∀ t ∈ X.eqs,kX P t) (kL:iE P Γ) (hC:eu P Γ) {f:FuncId} {fn:Func} {c:Code} (hf:P.funcs[f]? = some fn) (hb:fn.body = some c) {cf:CF} {hints rest:List Hi}
    (hc:comp P X (IX fn.ntmps) c hints = some (cf.body,rest)) (hr:mU P fn.results.toList = some cf.res) (hnp:cf.np ≤ fn.ntmps) (F:Nat):Sat P f (Kk Γ F cf):=by
  intro fV rs rG hE Fz w vals bs ha hnd hap hfz
  unfold Kk at hE
  split at hE
  · cases hE
  · rename_i hlen
    have hlen':fV.length = cf.np:=Decidable.not_not.mp hlen
    have hvl:vals.length = fV.length:=ha.len
    obtain ⟨e,h1,hE⟩:=zbm hE
    obtain ⟨p,h2,hE⟩:=zbm hE
    refine calls_of_wp hf hb ?_
    have hsz:(vals.toArray ++ Array.replicate (fn.ntmps - vals.toArray.size) undef).size = fn.ntmps:=by simp;omega
    obtain ⟨jO,hok,g2⟩:=entered ha hnd hap hfz hsz h1
    have fin:=fun a' w'=>Ll (σ:=p.2) (N:=Fr.of fn.ntmps) (rs:=rs) (rG:=rG) (cf:=cf) hr ha hap hfz g2 a' w'
    refine Ad hm heq kL hC c hc hok h2 fun a' w' hO=>?_
    cases hp:p.1 with
    | ji=>rw [hp] at hE;exact fin a' w' hO hE
    | ret=>rw [hp] at hE;exact fin a' w' hO hE
    | ext id=>rw [hp] at hE;cases hE
end
end Go.Proofs.Ytdkkgecdhapfhaa.Ev
namespace Go.Proofs.Ytdkkgecdhapfhaa.Ev
open Go
structure Tok {α:Type} (k:α → Prop):Type where
def W {α:Type} (k:α → Prop) (_:Tok k) (x:Option α):Prop:=∃ a,x = some a ∧ k a
section
variable {α β:Type} {k:α → Prop} {u:Tok k}
theorem gJ {a:α}:W k u (some a) ↔ k a:=by simp [W]
theorem uX : W k u none ↔ False:=by simp [W]
theorem FE {x:Option β} {f:β → Option α}:W k u (x.bind f) ↔ W (fun a=>W k ⟨⟩ (f a)) ⟨⟩ x:=by
  cases x <;> simp [W]
theorem Lm {x:Option β} {f:β → α}:W k u (x.map f) ↔ W (fun a=>k (f a)) ⟨⟩ x:=by
  cases x <;> simp [W]
theorem X3 {c:Prop} [Decidable c] {a b:Option α}:W k u (if c then a else b) ↔ (c → W k u a) ∧ (¬ c → W k u b):=by
  by_cases h:c <;> simp [h]
theorem FH {c:Prop} [Decidable c] {a:Option α}:W k u (if c then a else none) ↔ c ∧ W k u a:=by
  by_cases h:c <;> simp [h,uX]
theorem FI {c:Prop} [Decidable c] {a:Option α}:W k u (if c then none else a) ↔ ¬ c ∧ W k u a:=by
  by_cases h:c <;> simp [h,uX]
theorem uY {j:α → Prop} {x:Option α} (h:W j ⟨⟩ x) (hi:∀ a,j a → k a):W k u x:=by
  obtain ⟨a,h1,h2⟩:=h;exact ⟨a,h1,hi a h2⟩
end
def V {α:Type} (k:α → Prop) (x:Option α):Prop:=∃ a,x = some a ∧ k a
section
variable {α β:Type} {k:α → Prop} {u:Tok k}
theorem dW {x:Option α}:W k u x ↔ V k x:=Iff.rfl
theorem bJ {a:α}:V k (some a) ↔ k a:=by simp [V]
theorem mh : V k none ↔ False:=by simp [V]
theorem bB {x:Option β} {f:β → Option α}:V k (x.bind f) ↔ V (fun a=>V k (f a)) x:=by
  cases x <;> simp [V]
theorem cu {x:Option β} {f:β → α}:V k (x.map f) ↔ V (fun a=>k (f a)) x:=by
  cases x <;> simp [V]
theorem bO {c:Prop} [Decidable c] {a:Option α}:V k (if c then a else none) ↔ c ∧ V k a:=by
  by_cases h:c <;> simp [h,mh]
theorem dH {c:Prop} [Decidable c] {a:Option α}:V k (if c then none else a) ↔ ¬ c ∧ V k a:=by
  by_cases h:c <;> simp [h,mh]
theorem bY {j:β → Prop}:V k none ↔ V j none:=mh.trans mh.symm
theorem lH {j:β → Prop} {a:α} {b:β} (h:k a ↔ j b):V k (some a) ↔ V j (some b):=bJ.trans (h.trans bJ.symm)
theorem dx {x:Option α} {j:α → Prop} (h:∀ a,j a ↔ k a):V j x ↔ V k x:=by
  have:j = k:=funext fun a=>propext (h a)
  rw [this]
end
structure X4 (A B:Unit → Prop):Type where
def Br (b:Bool) (A B:Unit → Prop) (_:X4 A B):Prop:=(b = true → A ()) ∧ (b = false → B ())
theorem Oy {A B:Unit → Prop} {u:X4 A B}:Br true A B u ↔ A ():=by simp [Br]
theorem Lp {A B:Unit → Prop} {u:X4 A B}:Br false A B u ↔ B ():=by simp [Br]
theorem TW {b:Bool} {A B:Unit → Prop} {u:X4 A B}:Br (!b) A B u ↔ Br b B A ⟨⟩:=by cases b <;> simp [Br]
theorem fC {b:Bool} {A B:Unit → Prop} {u:X4 A B} (h1:b = true → A ()) (h2:b = false → B ()):Br b A B u:=⟨h1,h2⟩
theorem Jc {α:Type} {x:Option α} {a:α} (h:W (fun b=>b = a) ⟨⟩ x):x = some a:=by
  obtain ⟨b,h1,rfl⟩:=h;exact h1
theorem BQ {body:St → Option (Out × St)} {rs:St → St} {k:Out × St → Prop} {u:Tok k} (I:Nat → St → Prop)
    (hstep:∀ m σ,I m σ → W (fun p=>match p.1 with
      | .ji=>∃ j,j < m ∧ I j p.2
      | o=>k (o,p.2)) ⟨⟩ (body (rs σ))):∀ (F m:Nat) (σ:St),m < F → I m σ → W k u (iter body rs F σ)
  | 0,m,σ,h,_=>by omega
  | F + 1,m,σ,h,hI=>by
    obtain ⟨p,h1,h2⟩:=hstep m σ hI
    unfold iter
    rw [h1,Option.bind_some]
    obtain ⟨o,s⟩:=p
    cases o with
    | ji =>
      obtain ⟨j,hj,hI'⟩:=h2
      exact BQ I hstep F j s (by omega) hI'
    | ext i=>exact gJ.mpr h2
    | ret=>exact gJ.mpr h2
theorem Rp {body:St → Option (Out × St)} {rs:St → St} {k:Out × St → Prop} {u:Tok k} {F:Nat} (N:Nat) (S:Nat → St) (P:Nat → Prop) (hF:N < F) (h0:P 0)
    (step:∀ i,i < N → P i → W (fun p=>match p.1 with
      | .ji=>p.2 = S (i + 1) ∧ P (i + 1)
      | o=>k (o,p.2)) ⟨⟩ (body (rs (S i))))
    (last:P N → W (fun p=>match p.1 with
      | .ji=>False
      | o=>k (o,p.2)) ⟨⟩ (body (rs (S N)))):W k u (iter body rs F (S 0)):=by
  refine BQ (fun m σ=>∃ i,i ≤ N ∧ m = N - i ∧ σ = S i ∧ P i) ?_ F N (S 0) hF ⟨0,Nat.zero_le _,rfl,rfl,h0⟩
  rintro m σ ⟨i,hi,rfl,rfl,hP⟩
  by_cases hlt:i < N
  · refine uY (step i hlt hP) fun p hp=>?_
    obtain ⟨o,s⟩:=p
    cases o with
    | ji=>exact ⟨N - (i + 1),by omega,i + 1,by omega,rfl,hp.1,hp.2⟩
    | ext j=>exact hp
    | ret=>exact hp
  · have:i = N:=by omega
    subst this
    refine uY (last hP) fun p hp=>?_
    obtain ⟨o,s⟩:=p
    cases o with
    | ji=>exact hp.elim
    | ext j=>exact hp
    | ret=>exact hp
def look : List (FuncId × CF) → FuncId → Option CF
  | [],_=>none
  | (k,c) :: l,f=>if k = f then some c else look l f
noncomputable def Gm (yc:List (FuncId × CF)) (ext:Env) (F:Nat):Nat → Env
  | 0=>fun _ _=>none
  | n + 1=>fun f fV=>match look yc f with
    | some cf=>Kk (Gm yc ext F n) F cf fV
    | none=>ext f fV
structure lV (P:Program) (f:FuncId) (cf:CF):Prop where
  ok:∃ fn c X hints rest,P.funcs[f]? = some fn ∧ (fn.name == "runtime.NumGoroutine") = false ∧ fn.body = some c ∧ (∀ t ∈ X.eqs,kX P t) ∧ comp P X (IX fn.ntmps) c hints = some (cf.body,rest) ∧ mU P fn.results.toList = some cf.res ∧ cf.np ≤ fn.ntmps
theorem yg : ∀ {l:List (FuncId × CF)} {f:FuncId} {c:CF},look l f = some c → (f,c) ∈ l
  | [],_,_,h=>by cases h
  | (k,d) :: l,f,c,h=>by
    unfold look at h
    split at h
    · rename_i e;subst e;cases h;simp
    · exact List.mem_cons_of_mem _ (yg h)
theorem Lr {P:Program} {yc:List (FuncId × CF)} {ext:Env} {F:Nat} (hm:P.follows .mixedOrders = true) (ht:∀ p ∈ yc,lV P p.1 p.2) (he:iE P ext) (hec:eu P ext):∀ n,iE P (Gm yc ext F n) ∧ eu P (Gm yc ext F n)
  | 0=>⟨fun f fV rs rG h=>by simp [Gm] at h,fun f fV r h=>by simp [Gm] at h⟩
  | n + 1=>by
    obtain ⟨h1,h2⟩:=Lr hm ht he hec n
    constructor
    · intro f
      cases hl:look yc f with
      | none =>
        have:Gm yc ext F (n + 1) f = ext f:=by funext fV;simp only [Gm,hl]
        rw [this];exact he f
      | some cf =>
        have:Gm yc ext F (n + 1) f = Kk (Gm yc ext F n) F cf:=by funext fV;simp only [Gm,hl]
        rw [this]
        obtain ⟨fn,c,X,hints,rest,e1,_,e2,e3,e4,e5,e6⟩:=(ht _ (yg hl)).ok
        exact Ah hm e3 h1 h2 e1 e2 e4 e5 e6 F
    · intro f fV r h
      cases hl:look yc f with
      | none=>exact hec f fV r (by simpa only [Gm,hl] using h)
      | some cf =>
        obtain ⟨fn,c,X,hints,rest,e1,e0,e2,_⟩:=(ht _ (yg hl)).ok
        exact ⟨fn,e1,e0,by rw [e2];rfl⟩
theorem iF {yc:List (FuncId × CF)} {ext:Env} {F n:Nat} {f:FuncId} {cf:CF} {fV:List AV} {r:List AV × List AV} (hl:look yc f = some cf) (h:W (fun z=>z = r) ⟨⟩ (Kk (Gm yc ext F n) F cf fV)):Gm yc ext F (n + 1) f fV = some r:=by
  simp only [Gm,hl]
  exact Jc h
theorem nT {yc:List (FuncId × CF)} {ext:Env} {F n:Nat} {f:FuncId} (hl:look yc f = none):Gm yc ext F (n + 1) f = ext f:=by
  funext fV;simp only [Gm,hl]
end Go.Proofs.Ytdkkgecdhapfhaa.Ev
namespace Go.Proofs.Ytdkkgecdhapfhaa.Ev
open Go
attribute [go_sem ↓] FE Lm uX FH FI
attribute [go_sem] gJ
attribute [go_sem ↓] Oy Lp TW
section
variable {α β:Type} {k:α → Prop} {u:Tok k}
@[go_sem ↓] theorem adR {c:Prop} [Decidable c] {a b:Option α}:W k u (if c then a else b) ↔ (c → W k u a) ∧ (¬ c → W k u b):=X3
end
def Jd : CV → Option (Nat × Nat)
  | .one (.ptr k o)=>some (k,o)
  | _=>none
def qE : CV → Option ByteArray
  | .one (.f (.str s))=>some s
  | _=>none
def Ls : CV → Option (List PL)
  | .agg l=>some l
  | _=>none
def TY : PV → Option (List CV)
  | .uN l=>some l
  | _=>none
@[go_sem] theorem X5 {l:List CV}:TY (.uN l) = some l:=rfl
def fav (off:Nat):CV → Option CV
  | .one (.ptr key o)=>some (.one (.ptr key (o + off)))
  | .one (.fp cs)=>some (.one (.fp (cs.drop off)))
  | .one (.rp key z i o)=>some (.one (.rp key z i (o + off)))
  | _=>none
@[go_sem] theorem aaY {off k o:Nat}:fav off (.one (.ptr k o)) = some (.one (.ptr k (o + off))):=rfl
@[go_sem] theorem adS {off:Nat} {cs:List FV}:fav off (.one (.fp cs)) = some (.one (.fp (cs.drop off))):=rfl
@[go_sem] theorem adT {off k z i o:Nat}:fav off (.one (.rp k z i o)) = some (.one (.rp k z i (o + off))):=rfl
def T9 : CV → Option Bool
  | .one .fQ=>some true
  | .one (.f (.sl (_ :: _)))=>some false
  | _=>none
@[go_sem] theorem adU : T9 (.one .fQ) = some true:=rfl
@[go_sem] theorem adV {r:List FV} {l:List (List FV)}:T9 (.one (.f (.sl (r :: l)))) = some false:=rfl
section
variable {α : Type}
@[go_sem] theorem get_nil {i:Nat}:get ([]:List (Nat × α)) i = none:=rfl
@[go_sem] theorem X6 {k:Nat} {v:α} {l:List (Nat × α)} {i:Nat}:get ((k,v) :: l) i = if k = i then some v else get l i:=rfl
@[go_sem] theorem aaZ {i:Nat}:rem ([]:List (Nat × α)) i = []:=rfl
@[go_sem] theorem X7 {k:Nat} {v:α} {l:List (Nat × α)} {i:Nat}:rem ((k,v) :: l) i = if k = i then rem l i else (k,v) :: rem l i:=rfl
@[go_sem] theorem aa0 {i:Nat} {v:α}:put ([]:List (Nat × α)) i v = [(i,v)]:=rfl
@[go_sem] theorem X8 {k:Nat} {w:α} {l:List (Nat × α)} {i:Nat} {v:α}:put ((k,w) :: l) i v = if k = i then (i,v) :: rem l i else (k,w) :: put l i v:=rfl
def Lu (k:Nat) (r:List (Nat × α)):Option α → List (Nat × α)
  | some v=>(k,v) :: r
  | none=>r
@[go_sem] theorem Ua {k:Nat} {v:α} {r:List (Nat × α)}:Lu k r (some v) = (k,v) :: r:=rfl
@[go_sem] theorem Ub {k:Nat} {r:List (Nat × α)}:Lu k r none = r:=rfl
@[go_sem] theorem X9 {l:List (Nat × α)}:pick [] l = []:=rfl
@[go_sem] theorem V9 {k:Nat} {ks:List Nat} {l:List (Nat × α)}:pick (k :: ks) l = Lu k (pick ks l) (get l k):=by
  unfold pick
  rw [List.filterMap_cons]
  cases get l k <;> rfl
end
section
variable {Γ : Env} {F d:Nat} {q:Bool} {σ:St}
section
variable {k : Out × St → Prop} {u:Tok k}
@[go_sem ↓] theorem adW : W k u (ev Γ F .skip σ) ↔ k (.ji,σ):=by simp only [ev];exact gJ
@[go_sem ↓] theorem afh {is:List G} {ks:List Nat}:W k u (ev Γ F (.reg is ks) σ) ↔ W (fun s=>W k ⟨⟩ (some (.ji,⟨pick ks s.tm,s.ob⟩))) ⟨⟩ (wK Γ false is σ):=by simp only [ev,dW,cu,bJ]
@[go_sem ↓] theorem afi {pre:List (G × List Nat)} {lS:List Nat} {jM rest:List G} {ks:List Nat}:W k u (ev Γ F (.wm pre lS jM rest ks) σ) ↔ W (fun s=>W k ⟨⟩ (some (.ji,⟨pick ks s.tm,s.ob⟩))) ⟨⟩ (V6 Γ pre lS jM rest σ):=by simp only [ev,dW,cu,bJ]
@[go_sem ↓] theorem Ya {gs:List G} {ks oI:List Nat} {r:St}:lU Γ gs ks oI σ r [] ↔ True:=Iff.rfl
@[go_sem ↓] theorem Wd {gs:List G} {ks oI:List Nat} {r:St} {o:List Nat} {os:List (List Nat)}:lU Γ gs ks oI σ r (o :: os) ↔ W (fun s=>W (fun t=>t = r) ⟨⟩ (some (⟨pick ks s.tm,pick oI s.ob⟩:St))) ⟨⟩ (wK Γ false (o.map fun i=>gs.getD i default) σ) ∧ lU Γ gs ks oI σ r os:=by
  conv=>lhs;unfold lU
  simp only [dW,V,Option.some.injEq,exists_eq_left']
@[go_sem ↓] theorem afj {gs:List G} {o:List Nat} {os:List (List Nat)} {ks oI:List Nat}:W k u (ev Γ F (.any gs (o :: os) ks oI) σ) ↔ W (fun s=>W (fun r=>lU Γ gs ks oI σ r os ∧ W k ⟨⟩ (some (.ji,r))) ⟨⟩ (some (⟨pick ks s.tm,pick oI s.ob⟩:St))) ⟨⟩ (wK Γ false (o.map fun i=>gs.getD i default) σ):=by
  simp only [ev,evO,dW,bB,bO,bJ]
@[go_sem ↓] theorem afk {a b:CC}:W k u (ev Γ F (.seq a b) σ) ↔ W (fun p=>match p.1 with
    | .ji=>W k ⟨⟩ (ev Γ F b p.2)
    | o=>k (o,p.2)) ⟨⟩ (ev Γ F a σ):=by
  simp only [ev,dW,bB]
  refine dx fun p=>?_
  obtain ⟨o,s⟩:=p
  cases o <;> first | rfl | exact bJ
@[go_sem ↓] theorem adX {c:eB} {a b:CC}:W k u (ev Γ F (.cond c a b) σ) ↔ W (fun v=>W (fun t=>Br t (fun _=>W k ⟨⟩ (ev Γ F a σ)) (fun _=>W k ⟨⟩ (ev Γ F b σ)) ⟨⟩) ⟨⟩ (bool? v)) ⟨⟩ (val σ c):=by
  simp only [ev,dW,bB]
  refine dx fun v=>dx fun t=>?_
  cases t <;> simp [Br,dW]
@[go_sem ↓] theorem aa1 {id:Nat} {c:CC}:W k u (ev Γ F (.block id c) σ) ↔ W (fun p=>match p.1 with
    | .ext i=>if i = id then k (.ji,p.2) else k (.ext i,p.2)
    | o=>k (o,p.2)) ⟨⟩ (ev Γ F c σ):=by
  simp only [ev,dW,cu]
  refine dx fun p=>?_
  obtain ⟨o,s⟩:=p
  cases o with
  | ext i=>by_cases hi:i = id <;> simp [hi]
  | _=>exact Iff.rfl
@[go_sem ↓] theorem uZ {keep CZ:List Nat} {rws:List (Nat × Nat)} {c:CC}:W k u (ev Γ F (.loop keep CZ rws c) σ) ↔ W k u (iter (ev Γ F c) (res keep CZ rws) F σ):=by simp only [ev]
@[go_sem ↓] theorem adY {id:Nat}:W k u (ev Γ F (.exit id) σ) ↔ k (.ext id,σ):=by simp only [ev];exact gJ
@[go_sem ↓] theorem afl : W k u (ev Γ F .ret σ) ↔ k (.ret,σ):=by simp only [ev];exact gJ
end
section
variable {k : St → Prop} {u:Tok k}
@[go_sem ↓] theorem Wh : W k u (wK Γ q [] σ) ↔ k σ:=gJ
@[go_sem ↓] theorem Uc {g:G} {l:List G}:W k u (wK Γ q (g :: l) σ) ↔ W (fun s=>W k ⟨⟩ (wK Γ q l s)) ⟨⟩ (NT Γ q σ g):=by
  show W k u ((NT Γ q σ g).bind (wK Γ q l)) ↔ _
  rw [FE]
@[go_sem ↓] theorem afm {g:G}:W k u (NT Γ q σ g) ↔ W (fun p=>W k ⟨⟩ (some (sF p.2 g.dst p.1))) ⟨⟩ (l7 Γ q σ g):=by simp only [NT,dW,cu,bJ]
def Ud (f:Nat → Option (PV × St)):List Nat → Prop
  | []=>True
  | j :: l=>W (fun _=>True) ⟨⟩ (f j) ∧ Ud f l
theorem G5 {f:Nat → Option (PV × St)}:∀ {l:List Nat},l.all (fun j=>(f j).isSome) = true ↔ Ud f l
  | []=>by simp [Ud]
  | j :: l=>by
    rw [List.all_cons,Bool.and_eq_true,G5 (l:=l)]
    refine and_congr_left fun _=>?_
    cases h:f j with
    | none=>simp [uX]
    | some y=>simp [gJ]
@[go_sem ↓] theorem aa2 {f:Nat → Option (PV × St)}:Ud f [] ↔ True:=Iff.rfl
@[go_sem ↓] theorem Yb {f:Nat → Option (PV × St)} {j:Nat} {l:List Nat}:Ud f (j :: l) ↔ W (fun _=>True) ⟨⟩ (f j) ∧ Ud f l:=Iff.rfl
def wkv : Option CV → List Nat
  | some (.one (.ptr k _))=>[k]
  | _=>[]
@[go_sem] theorem aa3 {k o:Nat}:wkv (some (.one (.ptr k o))) = [k]:=rfl
@[go_sem] theorem aa4 {tm:List (Nat × PV)} {dst:Option Nat} {gd:Option (Option Nat × Bool)} {n:Nat} {x y:eB}:sH tm ⟨dst,gd,.store n x y⟩ = wkv (val ⟨tm,[]⟩ x):=by
  show (match val ⟨tm,[]⟩ x with | some (.one (.ptr k _))=>[k] | _=>[]) = _
  cases val ⟨tm,[]⟩ x with
  | none=>rfl
  | some v=>cases v with
    | one y=>cases y <;> rfl
    | agg _=>rfl
@[go_sem ↓] theorem afn {pre:List (G × List Nat)} {lS:List Nat} {jM rest:List G}:W k u (V6 Γ pre lS jM rest σ) ↔ pre.all (fun g=>!jK g.1.i || fresh σ (dF (g.1.dst.getD 999))) = true ∧ W (fun s=>W (fun tm=>Ud (fun j=>l7 Γ true ⟨tm,σ.ob.filter (fun p=>!(jM.flatMap (sH tm)).contains p.1)⟩ (pre.getD j default).1) lS ∧ W (fun ob=>W (fun s=>W k ⟨⟩ (wK Γ false rest s)) ⟨⟩ (some ⟨tm,ob⟩)) ⟨⟩ (Kz Γ tm jM s.ob)) ⟨⟩ (some (pick (s.tm.map (·.1)) s.tm))) ⟨⟩ (NU Γ σ.ob pre σ):=by
  simp only [V6,dW,bB,bO,bJ,← G5]
@[go_sem ↓] theorem Wi {qP:List (Nat × Ob)}:W k u (NU Γ qP [] σ) ↔ k σ:=gJ
@[go_sem ↓] theorem Ue {qP:List (Nat × Ob)} {g:G} {nk:List Nat} {l:List (G × List Nat)}:W k u (NU Γ qP ((g,nk) :: l) σ) ↔ W (fun p=>nk.any (fun k=>qO k p.1 || (jK g.i && (p.2.ob.take 1).any (fun r=>r.1 == k || l5 k r.2))) = false ∧ W (fun s=>W k ⟨⟩ (NU Γ qP l s)) ⟨⟩ (some ⟨sG g.dst σ.tm p.1,if jK g.i then p.2.ob.take 1 ++ σ.ob else σ.ob⟩)) ⟨⟩ (l7 Γ true ⟨σ.tm,qP⟩ g):=by
  conv=>lhs;unfold NU
  simp only [dW,bB,dH,bJ,Bool.not_eq_true]
end
section
variable {k : List (Nat × Ob) → Prop} {u:Tok k} {tm:List (Nat × PV)} {ob:List (Nat × Ob)}
@[go_sem ↓] theorem Wj : W k u (Kz Γ tm [] ob) ↔ k ob:=gJ
@[go_sem ↓] theorem Uf {n:Nat} {x y:eB} {dst:Option Nat} {gd:Option (Option Nat × Bool)} {l:List G}:W k u (Kz Γ tm (⟨dst,gd,.store n x y⟩ :: l) ob) ↔ W (fun v=>W (fun _=>W (fun p=>W k ⟨⟩ (Kz Γ tm l p.2.ob)) ⟨⟩ (cO Γ true ⟨tm,ob⟩ 999 (.store n x y))) ⟨⟩ (Jd v)) ⟨⟩ (val ⟨tm,ob⟩ x):=by
  conv=>lhs;unfold Kz
  simp only
  cases hv:val ⟨tm,ob⟩ x with
  | none=>simp only [uX]
  | some v =>
    rw [gJ]
    cases v with
    | one y=>cases y <;> simp only [Jd,dW,mh,bJ,bB]
    | agg xs=>simp only [Jd,uX]
end
section
variable {i : Nat}
def vl : Option PV → Option CV
  | some (.c x)=>some x
  | _=>none
@[go_sem] theorem aa5 {x:CV}:vl (some (.c x)) = some x:=rfl
@[go_sem] theorem Yc : val σ (.t i) = vl (get σ.tm i):=by simp only [val];cases get σ.tm i with | none=>rfl | some v=>cases v <;> rfl
@[go_sem] theorem afo {x:CV}:val σ (.k x) = some x:=rfl
@[go_sem] theorem adZ : sD σ (.t i) = get σ.tm i:=rfl
@[go_sem] theorem ad1 {x:CV}:sD σ (.k x) = some (.c x):=rfl
@[go_sem] theorem Yd {k:IntKind} {n:Int}:int? (.one (.f (.int k n))) = some (k,n):=rfl
@[go_sem] theorem Ug {b:Bool}:bool? (.one (.f (.bool b))) = some b:=rfl
@[go_sem] theorem Ye {k o:Nat}:Jd (.one (.ptr k o)) = some (k,o):=rfl
@[go_sem] theorem Yf {s:ByteArray}:qE (.one (.f (.str s))) = some s:=rfl
@[go_sem] theorem Yg {l:List PL}:Ls (.agg l) = some l:=rfl
@[go_sem] theorem cells_one {x:PL}:cells (.one x) = [x]:=rfl
@[go_sem] theorem Wm {xs:List PL}:cells (.agg xs) = xs:=rfl
def oc : Option Ob → Option (List PL)
  | some (.mP xs)=>some xs
  | _=>none
def Lv : Option Ob → Option (Nat × List (List FV))
  | some (.row sz rows)=>some (sz,rows)
  | _=>none
def om : Option Ob → Option (KS × List (KV × FC))
  | some (.map sh ents)=>some (sh,ents)
  | _=>none
@[go_sem] theorem ad2 {xs:List PL}:oc (some (.mP xs)) = some xs:=rfl
@[go_sem] theorem aa6 {sz:Nat} {rows:List (List FV)}:Lv (some (.row sz rows)) = some (sz,rows):=rfl
@[go_sem] theorem ad3 {sh:KS} {ents:List (KV × FC)}:om (some (.map sh ents)) = some (sh,ents):=rfl
def gb (want:Bool):Option PV → Option Bool
  | some (.c (.one (.f (.bool b))))=>some (b == want)
  | some (.c (.one .und))=>some false
  | _=>none
@[go_sem] theorem aa7 {b:Bool}:gb true (some (.c (.one (.f (.bool b))))) = some b:=by cases b <;> rfl
@[go_sem] theorem Yh {b:Bool}:gb false (some (.c (.one (.f (.bool b))))) = some (!b):=by cases b <;> rfl
@[go_sem] theorem ad4 {w:Bool}:gb w (some (.c (.one .und))) = some false:=rfl
@[go_sem] theorem Wn {v:PV}:sF σ (some i) v = ⟨put σ.tm i v,σ.ob⟩:=rfl
@[go_sem] theorem Wo {v:PV}:sF σ none v = σ:=rfl
@[go_sem] theorem Wp {tm:List (Nat × PV)} {v:PV}:sG (some i) tm v = put tm i v:=rfl
@[go_sem] theorem Wq {tm:List (Nat × PV)} {v:PV}:sG none tm v = tm:=rfl
end
section
variable {α : Type} {n off:Nat} {x:α} {xs ys:List α}
@[go_sem] theorem Yi : seg 0 0 xs = some []:=by simp [seg]
@[go_sem] theorem Yj : seg (n + 1) 0 (x :: xs) = (seg n 0 xs).map (x :: ·):=by
  unfold seg
  simp only [Nat.zero_add,List.length_cons,Nat.add_le_add_iff_right,List.drop_zero,List.take_succ_cons]
  split <;> rfl
@[go_sem] theorem Yk : seg n (off + 1) (x :: xs) = seg n off xs:=by
  unfold seg
  simp only [List.length_cons,List.drop_succ_cons]
  by_cases h:off + n ≤ xs.length
  · rw [if_pos h,if_pos (by omega)]
  · rw [if_neg h,if_neg (by omega)]
@[go_sem] theorem aa8 : lay 0 ([]:List α) xs = some xs:=by simp [lay]
@[go_sem] theorem aa9 {y:α}:lay 0 (y :: ys) (x :: xs) = (lay 0 ys xs).map (y :: ·):=by
  unfold lay
  simp only [Nat.zero_add,List.length_cons,Nat.add_le_add_iff_right,List.take_zero,List.drop_succ_cons,List.nil_append,List.cons_append]
  split <;> rfl
@[go_sem] theorem Yl : lay (off + 1) ys (x :: xs) = (lay off ys xs).map (x :: ·):=by
  unfold lay
  simp only [List.length_cons,List.take_succ_cons]
  rw [show off + 1 + ys.length = off + ys.length + 1 from by omega]
  by_cases h:off + ys.length ≤ xs.length
  · rw [if_pos h,if_pos (by omega)];rfl
  · rw [if_neg h,if_neg (by omega)];rfl
end
@[go_sem] theorem ad5 {xs:List PL}:mk true xs = some (.agg xs):=rfl
@[go_sem] theorem mk_one {x:PL}:mk false [x] = some (.one x):=rfl
def oF (σ:St) (key:Nat):Option (List PL):=oc (get σ.ob key)
def iD (σ:St) (key:Nat):Option (Nat × List (List FV)):=Lv (get σ.ob key)
def nU (σ:St) (key:Nat):Option (KS × List (KV × FC)):=om (get σ.ob key)
attribute [go_sem] oF iD nU Option.map_some Option.map_none Option.bind_some Option.bind_none
def j6 (σ:St) (n:Nat):CV → Option (List PL)
  | .one (.ptr key off)=>(oF σ key).bind (seg n off)
  | .one (.fp cs)=>(seg n 0 cs).map (·.map .f)
  | .one (.rp key z i off)=>(iD σ key).bind fun p=>if p.1 ≠ z then none else p.2[i]?.bind fun r=>(seg n off r).map (·.map .f)
  | _=>none
@[go_sem ↓] theorem Rq {n key off:Nat}:j6 σ n (.one (.ptr key off)) = (oF σ key).bind (seg n off):=rfl
@[go_sem] theorem Uh {n:Nat} {cs:List FV}:j6 σ n (.one (.fp cs)) = (seg n 0 cs).map (·.map .f):=rfl
section
variable {k : List PL → Prop} {u:Tok k}
@[go_sem ↓] theorem Rt {n key off:Nat}:W k u (j6 σ n (.one (.ptr key off))) ↔ W (fun xs=>W k ⟨⟩ (seg n off xs)) ⟨⟩ (oF σ key):=FE
@[go_sem ↓] theorem Ui {n:Nat} {cs:List FV}:W k u (j6 σ n (.one (.fp cs))) ↔ W (fun l=>k (l.map .f)) ⟨⟩ (seg n 0 cs):=Lm
@[go_sem ↓] theorem Uj {n key z i off:Nat}:W k u (j6 σ n (.one (.rp key z i off))) ↔ W (fun p=>p.1 = z ∧ W (fun r=>W (fun l=>k (l.map .f)) ⟨⟩ (seg n off r)) ⟨⟩ (p.2[i]?)) ⟨⟩ (iD σ key):=by
  simp only [j6,dW,bB,cu,dH,ne_eq,Decidable.not_not]
end
section
variable {k : PV × St → Prop} {u:Tok k} {x y c:eB}
@[go_sem ↓] theorem ad6 {dst:Option Nat} {i:I}:W k u (l7 Γ q σ ⟨dst,none,i⟩) ↔ W k u (cO Γ q σ (dst.getD 999) i):=Iff.rfl
@[go_sem ↓] theorem Ws {dst:Option Nat} {s:Nat} {want:Bool} {i:I}:W k u (l7 Γ q σ ⟨dst,some (some s,want),i⟩) ↔ W (fun w=>Br w (fun _=>W k ⟨⟩ (cO Γ q σ (dst.getD 999) i)) (fun _=>k (.c (.one .und),σ)) ⟨⟩) ⟨⟩ (gb want (get σ.tm s)):=by
  have h:zw σ (some (some s,want)) = gb want (get σ.tm s):=by
    simp only [zw]
    cases get σ.tm s with
    | none=>rfl
    | some v =>
      cases v with
      | uN l=>rfl
      | c x =>
        cases x with
        | agg l=>rfl
        | one p =>
          cases p with
          | f z=>cases z <;> rfl
          | _=>rfl
  simp only [l7,dW,bB,h]
  refine dx fun t=>?_
  cases t <;> simp [bJ,Br,dW]
@[go_sem ↓] theorem ahi : W k u (cO Γ q σ d (.mv x)) ↔ W (fun v=>k (v,σ)) ⟨⟩ (sD σ x):=by simp only [cO];exact Lm
@[go_sem ↓] theorem ad7 : W k u (cO Γ q σ d (.pick c x y)) ↔ W (fun v=>W (fun t=>Br t (fun _=>W (fun z=>k (.c z,σ)) ⟨⟩ (val σ x)) (fun _=>W (fun z=>k (.c z,σ)) ⟨⟩ (val σ y)) ⟨⟩) ⟨⟩ (bool? v)) ⟨⟩ (val σ c):=by
  simp only [cO,dW,bB,cu]
  refine dx fun v=>dx fun t=>?_
  cases t <;> simp [Br,dW]
@[go_sem ↓] theorem abb {e:TypeId} {z:List PL}:W k u (cO Γ q σ d (.alloc e z)) ↔ z.any (dX (dF d)) = false ∧ W (fun s=>k (.c (.one (.ptr (dF d) 0)),s)) ⟨⟩ (new σ (dF d) (.mP z)):=by
  simp only [cO,dW,dH,gZ,cu,Bool.not_eq_true]
@[go_sem ↓] theorem afp {e:TypeId}:W k u (cO Γ q σ d (.box e x)) ↔ W (fun v=>((cells v).any oK || (cells v).any (dX (dF d))) = false ∧ W (fun s=>k (.c (.one (.ptr (dF d) 0)),s)) ⟨⟩ (new σ (dF d) (.mP (cells v)))) ⟨⟩ (val σ x):=by
  simp only [cO,dW,bB,dH,gZ,cu,Bool.not_eq_true]
@[go_sem ↓] theorem abd {z:List PL} {ps:List (Nat × Nat × eB)}:W k u (cO Γ q σ d (.build z ps)) ↔ W (fun l=>W (fun z=>k (.c (.agg z),σ)) ⟨⟩ (fill z l)) ⟨⟩ (vals σ ps):=by
  simp only [cO,dW,bB,cu]
@[go_sem ↓] theorem afq {e:TypeId} {sz len:Nat} {z:List PL} {ps:List (Nat × Nat × eB)}:W k u (cO Γ q σ d (.ET e sz len z ps)) ↔ W (fun l=>W (fun z=>(q && z.any gD) = false ∧ W (fun p=>W (fun s=>k (.c (.one (.own (dF d) len)),s)) ⟨⟩ (new p.2 (dF d) (.row sz (rowsOf sz len p.1)))) ⟨⟩ (kP σ z)) ⟨⟩ (fill z l)) ⟨⟩ (vals σ ps):=by
  simp only [cO,dW,bB,dH,gZ,cu,Bool.not_eq_true]
@[go_sem ↓] theorem ad8 {n:Nat} {agg:Bool}:W k u (cO Γ q σ d (.load n agg x)) ↔ W (fun v=>W (fun l=>W (fun z=>k (.c z,σ)) ⟨⟩ (mk agg l)) ⟨⟩ (j6 σ n v)) ⟨⟩ (val σ x):=by
  have h:cO Γ q σ d (.load n agg x) = (val σ x).bind fun v=>(j6 σ n v).bind fun l=>(mk agg l).map fun z=>(.c z,σ):=by
    simp only [cO]
    congr 1
    funext v
    cases v with
    | agg l=>rfl
    | one p =>
      cases p with
      | ptr key off=>simp only [j6,oF];cases get σ.ob key with | none=>rfl | some o=>cases o <;> rfl
      | fp cs=>simp only [j6];cases seg n 0 cs <;> rfl
      | rp key z i off =>
        simp only [j6,iD]
        cases get σ.ob key with
        | none=>rfl
        | some o =>
          cases o with
          | row sz rows =>
            simp only [Lv,Option.bind_some]
            split
            · rfl
            · cases rows[i]? with
              | none=>rfl
              | some r=>simp only [Option.bind_some];cases seg n off r <;> rfl
          | _=>rfl
      | _=>rfl
  rw [h]
  simp only [dW,bB,cu]
def DT (q:Bool) (σ:St) (ys:List PL):CV → Option St
  | .one (.ptr key off)=>(oF σ key).bind fun xs=>(lay off ys xs).map fun l=>jh σ key (.mP l)
  | .one (.rp key z i off)=>if q && ys.any gD then none else (kP σ ys).bind fun p=>(iD p.2 key).bind fun o=>if o.1 ≠ z then none else o.2[i]?.bind fun r=>(lay off p.1 r).map fun l=>jh p.2 key (.row o.1 (o.2.set i l))
  | _=>none
@[go_sem ↓] theorem abe {n:Nat}:W k u (cO Γ q σ d (.store n x y)) ↔ W (fun v=>W (fun z=>((cells z).length = n ∧ (cells z).any oK = false) ∧ W (fun s=>k (.c (.one .und),s)) ⟨⟩ (DT q σ (cells z) v)) ⟨⟩ (val σ y)) ⟨⟩ (val σ x):=by
  have h:cO Γ q σ d (.store n x y) = (val σ x).bind fun v=>(val σ y).bind fun z=>if (cells z).length = n ∧ (cells z).any oK = false then (DT q σ (cells z) v).map fun s=>(.c (.one .und),s) else none:=by
    simp only [cO]
    congr 1
    funext v
    congr 1
    funext z
    split
    · cases v with
      | agg l=>rfl
      | one p =>
        cases p with
        | ptr key off =>
          simp only [DT,oF]
          cases get σ.ob key with
          | none=>rfl
          | some o=>cases o <;> first | rfl | (simp only [oc,Option.bind_some,Option.map_map];rfl)
        | rp key zz i off =>
          simp only [DT,iD]
          split
          · rfl
          · cases kP σ (cells z) with
            | none=>rfl
            | some p =>
              simp only [Option.bind_some]
              cases get p.2.ob key with
              | none=>rfl
              | some o =>
                cases o with
                | row sz rows =>
                  simp only [Lv,Option.bind_some]
                  split
                  · rfl
                  · cases rows[i]? with
                    | none=>rfl
                    | some r=>simp only [Option.bind_some,Option.map_map];rfl
                | _=>rfl
        | _=>rfl
    · rfl
  rw [h]
  simp only [dW,bB,bO,cu]
end
section
variable {k : St → Prop} {u:Tok k}
@[go_sem ↓] theorem Uk {ys:List PL} {key off:Nat}:W k u (DT q σ ys (.one (.ptr key off))) ↔ W (fun xs=>W (fun l=>k (jh σ key (.mP l))) ⟨⟩ (lay off ys xs)) ⟨⟩ (oF σ key):=by
  simp only [DT,dW,bB,cu]
@[go_sem ↓] theorem Wt {ys:List PL} {key z i off:Nat}:W k u (DT q σ ys (.one (.rp key z i off))) ↔ (q && ys.any gD) = false ∧ W (fun p=>W (fun o=>o.1 = z ∧ W (fun r=>W (fun l=>k (jh p.2 key (.row o.1 (o.2.set i l)))) ⟨⟩ (lay off p.1 r)) ⟨⟩ (o.2[i]?)) ⟨⟩ (iD p.2 key)) ⟨⟩ (kP σ ys):=by
  simp only [DT,dW,dH,bB,cu,ne_eq,Decidable.not_not,Bool.not_eq_true]
end
end
end Go.Proofs.Ytdkkgecdhapfhaa.Ev
namespace Go.Proofs.Ytdkkgecdhapfhaa.Ev
open Go
section
variable {Γ : Env} {F d:Nat} {q:Bool} {σ:St} {k:PV × St → Prop} {u:Tok k} {x y z:eB}
def Oz : CV → Option CV
  | .one (.ptr k o)=>some (.one (.ptr k o))
  | .one (.fp cs)=>some (.one (.fp cs))
  | .one (.rp k z i o)=>some (.one (.rp k z i o))
  | _=>none
@[go_sem] theorem Ym {k o:Nat}:Oz (.one (.ptr k o)) = some (.one (.ptr k o)):=rfl
@[go_sem] theorem abf {cs:List FV}:Oz (.one (.fp cs)) = some (.one (.fp cs)):=rfl
@[go_sem] theorem abg {k z i o:Nat}:Oz (.one (.rp k z i o)) = some (.one (.rp k z i o)):=rfl
@[go_sem ↓] theorem ad9 : W k u (cO Γ q σ d (.lQ x)) ↔ W (fun v=>W (fun w=>k (.c w,σ)) ⟨⟩ (Oz v)) ⟨⟩ (val σ x):=by
  simp only [cO,dW,bB]
  refine dx fun v=>?_
  cases v with
  | agg l=>exact bY
  | one p=>cases p <;> first | exact bY | exact lH Iff.rfl
def Yn : CV → Option Bool
  | .one .jF=>some true
  | .one (.ptr _ _)=>some false
  | .one (.fp _)=>some false
  | .one (.rp _ _ _ _)=>some false
  | _=>none
@[go_sem] theorem abh : Yn (.one .jF) = some true:=rfl
@[go_sem] theorem abj {k o:Nat}:Yn (.one (.ptr k o)) = some false:=rfl
@[go_sem] theorem aea {cs:List FV}:Yn (.one (.fp cs)) = some false:=rfl
@[go_sem] theorem aeb {k z i o:Nat}:Yn (.one (.rp k z i o)) = some false:=rfl
@[go_sem ↓] theorem aec {neg:Bool}:W k u (cO Γ q σ d (.oD neg x)) ↔ W (fun v=>W (fun b=>k (.c (.one (.f (.bool (if neg then !b else b)))),σ)) ⟨⟩ (Yn v)) ⟨⟩ (val σ x):=by
  simp only [cO,dW,bB]
  refine dx fun v=>?_
  cases v with
  | agg l=>exact bY
  | one p=>cases p <;> first | exact bY | (cases neg <;> exact lH Iff.rfl)
@[go_sem ↓] theorem ahj {off:Nat}:W k u (cO Γ q σ d (.fa off x)) ↔ W (fun v=>W (fun w=>k (.c w,σ)) ⟨⟩ (fav off v)) ⟨⟩ (val σ x):=by
  simp only [cO,dW,bB]
  refine dx fun v=>?_
  cases v with
  | agg l=>exact bY
  | one p=>cases p <;> first | exact bY | exact lH Iff.rfl
@[go_sem ↓] theorem ahk {o:Ar}:W k u (cO Γ q σ d (.ar o x y)) ↔ W (fun a=>W (fun b=>W (fun a=>W (fun b=>a.1 = b.1 ∧ W (fun n=>k (.c (.one (.f (.int a.1 n))),σ)) ⟨⟩ (Kh o a.1 a.2 b.2)) ⟨⟩ (int? b)) ⟨⟩ (int? a)) ⟨⟩ (val σ y)) ⟨⟩ (val σ x):=by
  simp only [cO,dW,bB,bO,one,bJ]
@[go_sem ↓] theorem afr {o:VX}:W k u (cO Γ q σ d (.cmp o x y)) ↔ W (fun a=>W (fun b=>W (fun a=>W (fun b=>a.1 = b.1 ∧ k (.c (.one (.f (.bool (xq o a.2 b.2)))),σ)) ⟨⟩ (int? b)) ⟨⟩ (int? a)) ⟨⟩ (val σ y)) ⟨⟩ (val σ x):=by
  simp only [cO,dW,bB,bO,one,bJ]
@[go_sem] theorem abk {k:IntKind} {a b:Int}:Kh .add k a b = some (k.wrap (a + b)):=rfl
@[go_sem] theorem abl {k:IntKind} {a b:Int}:Kh .sub k a b = some (k.wrap (a - b)):=rfl
@[go_sem] theorem abm {k:IntKind} {a b:Int}:Kh .mul k a b = some (k.wrap (a * b)):=rfl
section
variable {k : Int → Prop} {u:Tok k} {kk:IntKind} {a b:Int}
@[go_sem ↓] theorem afs : W k u (Kh .quo kk a b) ↔ ¬ b = 0 ∧ k (kk.wrap (a.tdiv b)):=by simp only [Kh,dW,dH,bJ]
@[go_sem ↓] theorem afu : W k u (Kh .rem kk a b) ↔ ¬ b = 0 ∧ k (a.tmod b):=by simp only [Kh,dW,dH,bJ]
end
section
variable {a b:Int}
@[go_sem] theorem abn : xq .eq a b = decide (a = b):=rfl
@[go_sem] theorem abo : xq .ne a b = !decide (a = b):=rfl
@[go_sem] theorem abp : xq .lt a b = decide (a < b):=rfl
@[go_sem] theorem abq : xq .le a b = decide (a ≤ b):=rfl
@[go_sem] theorem abr : xq .gt a b = decide (b < a):=rfl
@[go_sem] theorem abt : xq .ge a b = decide (b ≤ a):=rfl
end
@[go_sem ↓] theorem afv {sh:KS} {neg:Bool}:W k u (cO Γ q σ d (.qN sh neg x y)) ↔ W (fun a=>W (fun b=>W (fun a=>W (fun b=>(a.ks = sh ∧ b.ks = sh) ∧ k (.c (.one (.f (.bool (if neg then !decide (a = b) else decide (a = b))))),σ)) ⟨⟩ (keyOf b)) ⟨⟩ (keyOf a)) ⟨⟩ (val σ y)) ⟨⟩ (val σ x):=by
  simp only [cO,dW,bB,bO,one,bJ]
@[go_sem ↓] theorem afw : W k u (cO Γ q σ d (.cat x y)) ↔ W (fun a=>W (fun b=>W (fun a=>W (fun b=>a.size + b.size ≤ 9223372036854775807 ∧ k (.c (.one (.f (.str (a ++ b)))),σ)) ⟨⟩ (qE b)) ⟨⟩ (qE a)) ⟨⟩ (val σ y)) ⟨⟩ (val σ x):=by
  simp only [cO,dW,bB]
  refine dx fun v=>dx fun w=>?_
  have no:V k none ↔ False:=mh
  have nb:∀ {g:ByteArray → Prop},V g none ↔ False:=mh
  have nn:∀ {x:Option ByteArray},V (fun _:ByteArray=>False) x ↔ False:=by intro x;cases x <;> simp [V]
  cases v with
  | agg l=>simp only [qE,no,nb]
  | one p =>
    cases p with
    | f a =>
      cases a with
      | str s =>
        cases w with
        | agg l=>simp only [qE,no,nb,bJ]
        | one p =>
          cases p with
          | f b =>
            cases b with
            | str t=>simp only [qE,bJ,bO,one]
            | _=>simp only [qE,no,nb,bJ]
          | _=>simp only [qE,no,nb,bJ]
      | _=>simp only [qE,no,nb]
    | _=>simp only [qE,no,nb]
@[go_sem ↓] theorem ahl : W k u (cO Γ q σ d (.no x)) ↔ W (fun v=>W (fun b=>k (.c (.one (.f (.bool (!b)))),σ)) ⟨⟩ (bool? v)) ⟨⟩ (val σ x):=by
  simp only [cO,dW,bB,one,bJ]
@[go_sem ↓] theorem ahm {kk:IntKind}:W k u (cO Γ q σ d (.ci kk x)) ↔ W (fun v=>W (fun a=>k (.c (.one (.f (.int kk (kk.wrap a.2)))),σ)) ⟨⟩ (int? v)) ⟨⟩ (val σ x):=by
  simp only [cO,dW,bB,one,bJ]
@[go_sem ↓] theorem afx : W k u (cO Γ q σ d (.mM x)) ↔ W (fun v=>W (fun s=>k (.c (.one (.f (.str s))),σ)) ⟨⟩ (qE v)) ⟨⟩ (val σ x):=by
  simp only [cO,dW,bB]
  refine dx fun v=>?_
  cases v with
  | agg l=>exact bY
  | one p=>cases p with
    | f a=>cases a <;> first | exact bY | exact lH Iff.rfl
    | _=>exact bY
@[go_sem ↓] theorem abu {sh:KS}:W k u (cO Γ q σ d (.rZ sh)) ↔ W (fun s=>k (.c (.one (.mp (dF d))),s)) ⟨⟩ (new σ (dF d) (.map sh [])):=by
  simp only [cO,gZ,dW,cu]
@[go_sem ↓] theorem ahn : W k u (cO Γ q σ d (.mn x y)) ↔ W (fun a=>W (fun b=>W (fun a=>W (fun b=>a.1 = b.1 ∧ k (.c (.one (.f (.int a.1 (if b.2 < a.2 then b.2 else a.2)))),σ)) ⟨⟩ (int? b)) ⟨⟩ (int? a)) ⟨⟩ (val σ y)) ⟨⟩ (val σ x):=by
  simp only [cO,dW,bB,bO,one,bJ]
@[go_sem ↓] theorem aho : W k u (cO Γ q σ d (.mx x y)) ↔ W (fun a=>W (fun b=>W (fun a=>W (fun b=>a.1 = b.1 ∧ k (.c (.one (.f (.int a.1 (if a.2 < b.2 then b.2 else a.2)))),σ)) ⟨⟩ (int? b)) ⟨⟩ (int? a)) ⟨⟩ (val σ y)) ⟨⟩ (val σ x):=by
  simp only [cO,dW,bB,bO,one,bJ]
@[go_sem ↓] theorem afy {o:BinOp}:W k u (cO Γ q σ d (.bit o x y)) ↔ W (fun a=>W (fun b=>W (fun a=>W (fun b=>a.1 = b.1 ∧ k (.c (.one (.f (.int a.1 (Go.bits o a.1 a.2 b.2)))),σ)) ⟨⟩ (int? b)) ⟨⟩ (int? a)) ⟨⟩ (val σ y)) ⟨⟩ (val σ x):=by
  simp only [cO,dW,bB,bO,one,bJ]
@[go_sem ↓] theorem afz {l:Bool}:W k u (cO Γ q σ d (.SQ l x y)) ↔ W (fun a=>W (fun b=>W (fun a=>W (fun b=>0 ≤ b.2 ∧ k (.c (.one (.f (.int a.1 (if l then a.1.wrap (a.2 * 2 ^ (min b.2.toNat a.1.bits)) else a.2.fdiv (2 ^ (min b.2.toNat a.1.bits)))))),σ)) ⟨⟩ (int? b)) ⟨⟩ (int? a)) ⟨⟩ (val σ y)) ⟨⟩ (val σ x):=by
  simp only [cO,dW,bB,bO,one,bJ]
@[go_sem ↓] theorem aed {lo hi:Option eB}:W k u (cO Γ q σ d (.IL x lo hi)) ↔ W (fun v=>W (fun s=>W (fun p=>k (.c (.one (.f (.str (s.extract p.1 p.2)))),σ)) ⟨⟩ (rng s.size σ lo hi)) ⟨⟩ (qE v)) ⟨⟩ (val σ x):=by
  simp only [cO,dW,bB]
  refine dx fun v=>?_
  cases v with
  | agg l=>exact bY
  | one p=>cases p with
    | f a =>
      cases a with
      | str s=>simp only [qE,bJ,bB,one]
      | _=>exact bY
    | _=>exact bY
section
variable {k : Nat × Nat → Prop} {u:Tok k} {len:Nat} {lo hi:Option eB}
@[go_sem ↓] theorem afA : W k u (rng len σ lo hi) ↔ W (fun h=>W (fun l=>k (l,h)) ⟨⟩ (bnd σ h lo 0)) ⟨⟩ (bnd σ len hi len):=by
  simp only [rng,dW,bB,cu]
end
section
variable {k : Nat → Prop} {u:Tok k} {len dd:Nat}
@[go_sem ↓] theorem Ul : W k u (bnd σ len none dd) ↔ k dd:=gJ
@[go_sem ↓] theorem Um : W k u (bnd σ len (some x) dd) ↔ W (fun v=>W (fun p=>(0 ≤ p.2 ∧ p.2 ≤ (len:Int)) ∧ k p.2.toNat) ⟨⟩ (int? v)) ⟨⟩ (val σ x):=by
  simp only [bnd,dW,bB,bO,bJ]
end
def DU (q:Bool) (σ:St) (sz:Nat) (lo hi:Option eB):CV → Option (PV × St)
  | .one (.f (.sl rows))=>if rows.all (fun r=>r.length == sz) = false then none else (rng rows.length σ lo hi).bind fun p=>one (.sl ((rows.drop p.1).take (p.2 - p.1))) σ
  | .one .fQ=>(rng 0 σ lo hi).bind fun p=>one (.sl []) σ
  | .one (.own key _)=>(iD σ key).bind fun o=>if o.1 ≠ sz then none else (rng o.2.length σ lo hi).bind fun p=>if q then none else (zn σ key).bind fun s=>one (.sl ((o.2.drop p.1).take (p.2 - p.1))) s
  | _=>none
@[go_sem ↓] theorem afB {sz:Nat} {lo hi:Option eB}:W k u (cO Γ q σ d (.cut sz x lo hi)) ↔ W (fun v=>W k ⟨⟩ (DU q σ sz lo hi v)) ⟨⟩ (val σ x):=by
  simp only [cO,dW,bB]
  refine dx fun v=>?_
  cases v with
  | agg l=>exact Iff.rfl
  | one p=>cases p with
    | f a=>cases a <;> exact Iff.rfl
    | own key n=>simp only [DU,iD];cases get σ.ob key with | none=>exact Iff.rfl | some o=>cases o <;> exact Iff.rfl
    | _=>exact Iff.rfl
@[go_sem ↓] theorem Yo {sz:Nat} {lo hi:Option eB} {rows:List (List FV)}:W k u (DU q σ sz lo hi (.one (.f (.sl rows)))) ↔ rows.all (fun r=>r.length == sz) = true ∧ W (fun p=>k (.c (.one (.f (.sl ((rows.drop p.1).take (p.2 - p.1))))),σ)) ⟨⟩ (rng rows.length σ lo hi):=by
  simp only [DU,dW,bB,dH,one,bJ,Bool.not_eq_false]
@[go_sem ↓] theorem Yp {sz:Nat} {lo hi:Option eB}:W k u (DU q σ sz lo hi (.one .fQ)) ↔ W (fun p=>k (.c (.one (.f (.sl []))),σ)) ⟨⟩ (rng 0 σ lo hi):=by
  simp only [DU,dW,bB,one,bJ]
@[go_sem ↓] theorem Yq {sz key n:Nat} {lo hi:Option eB}:W k u (DU q σ sz lo hi (.one (.own key n))) ↔ W (fun o=>o.1 = sz ∧ W (fun p=>q = false ∧ W (fun s=>k (.c (.one (.f (.sl ((o.2.drop p.1).take (p.2 - p.1))))),s)) ⟨⟩ (zn σ key)) ⟨⟩ (rng o.2.length σ lo hi)) ⟨⟩ (iD σ key):=by
  simp only [DU,dW,bB,dH,one,bJ,ne_eq,Decidable.not_not,Bool.not_eq_true]
@[go_sem ↓] theorem afC {off n:Nat} {agg:Bool}:W k u (cO Γ q σ d (.VY off n agg x)) ↔ W (fun v=>W (fun l=>W (fun l=>W (fun z=>k (.c z,σ)) ⟨⟩ (mk agg l)) ⟨⟩ (seg n off l)) ⟨⟩ (Ls v)) ⟨⟩ (val σ x):=by
  simp only [cO,dW,bB]
  refine dx fun v=>?_
  cases v with
  | agg l=>simp only [Ls,bJ,bB,cu]
  | one p=>exact bY
def Un (σ:St) (sz:Nat) (i:Int):CV → Option PL
  | .one (.f (.sl rows))=>rows[i.toNat]?.bind fun r=>if r.length = sz then some (.fp r) else none
  | .one (.own key n)=>(iD σ key).bind fun o=>if o.1 = sz ∧ i < n ∧ n = o.2.length then some (.rp key sz i.toNat 0) else none
  | _=>none
@[go_sem ↓] theorem ahp {sz:Nat}:W k u (cO Γ q σ d (.ia sz x y)) ↔ W (fun v=>W (fun j=>W (fun p=>0 ≤ p.2 ∧ W (fun l=>k (.c (.one l),σ)) ⟨⟩ (Un σ sz p.2 v)) ⟨⟩ (int? j)) ⟨⟩ (val σ y)) ⟨⟩ (val σ x):=by
  simp only [cO,dW,bB,bO]
  refine dx fun v=>dx fun j=>dx fun p=>and_congr Iff.rfl ?_
  cases v with
  | agg l=>exact bY
  | one a =>
    cases a with
    | f a =>
      cases a with
      | sl rows=>simp only [Un,bB,bO,bJ]
      | _=>exact bY
    | own key n =>
      simp only [Un,iD]
      cases get σ.ob key with
      | none=>exact bY
      | some o =>
        cases o with
        | row sz' rows=>simp only [Lv,Option.bind_some,bO,bJ]
        | _=>exact bY
    | _=>exact bY
section
variable {k : PL → Prop} {u:Tok k} {sz:Nat} {i:Int}
@[go_sem ↓] theorem abv {rows:List (List FV)}:W k u (Un σ sz i (.one (.f (.sl rows)))) ↔ W (fun r=>r.length = sz ∧ k (.fp r)) ⟨⟩ (rows[i.toNat]?):=by
  simp only [Un,dW,bB,bO,bJ]
@[go_sem ↓] theorem abw {key n:Nat}:W k u (Un σ sz i (.one (.own key n))) ↔ W (fun o=>(o.1 = sz ∧ i < n ∧ n = o.2.length) ∧ k (.rp key sz i.toNat 0)) ⟨⟩ (iD σ key):=by
  simp only [Un,dW,bB,bO,bJ]
end
@[go_sem ↓] theorem afD {sz len:Nat} {agg:Bool}:W k u (cO Γ q σ d (.idx sz len agg x y)) ↔ W (fun v=>W (fun j=>W (fun p=>(0 ≤ p.2 ∧ p.2 < (len:Int)) ∧ W (fun l=>W (fun l=>W (fun z=>k (.c z,σ)) ⟨⟩ (mk agg l)) ⟨⟩ (seg sz (p.2.toNat * sz) l)) ⟨⟩ (Ls v)) ⟨⟩ (int? j)) ⟨⟩ (val σ y)) ⟨⟩ (val σ x):=by
  simp only [cO,dW,bB,bO]
  refine dx fun v=>dx fun j=>dx fun p=>and_congr Iff.rfl ?_
  cases v with
  | agg l=>simp only [Ls,bJ,bB,cu]
  | one p=>exact bY
@[go_sem ↓] theorem afE : W k u (cO Γ q σ d (.chr x y)) ↔ W (fun v=>W (fun j=>W (fun p=>W (fun s=>0 ≤ p.2 ∧ W (fun b=>k (.c (.one (.f (.int .u8 b.toNat))),σ)) ⟨⟩ (s.data[p.2.toNat]?)) ⟨⟩ (qE v)) ⟨⟩ (int? j)) ⟨⟩ (val σ y)) ⟨⟩ (val σ x):=by
  simp only [cO,dW,bB]
  refine dx fun v=>dx fun j=>dx fun p=>?_
  cases v with
  | agg l=>exact bY
  | one p=>cases p with
    | f a =>
      cases a with
      | str s=>simp only [qE,bJ,bO,bB,one]
      | _=>exact bY
    | _=>exact bY
@[go_sem ↓] theorem afF {i:Nat}:W k u (cO Γ q σ d (.ext x i)) ↔ W (fun v=>W (fun l=>W (fun w=>k (.c w,σ)) ⟨⟩ (l[i]?)) ⟨⟩ (TY v)) ⟨⟩ (sD σ x):=by
  simp only [cO,dW]
  cases sD σ x with
  | none=>exact bY
  | some v =>
    rw [bJ]
    cases v with
    | c y=>exact bY
    | uN l=>simp only [TY,bJ,cu]
@[go_sem ↓] theorem aee : W k u (cO Γ q σ d (.uO x)) ↔ W (fun v=>W (fun s=>k (.c (.one (.f (.int .i64 s.size))),σ)) ⟨⟩ (qE v)) ⟨⟩ (val σ x):=by
  simp only [cO,dW,bB]
  refine dx fun v=>?_
  cases v with
  | agg l=>exact bY
  | one p=>cases p with
    | f a=>cases a <;> first | exact bY | exact lH Iff.rfl
    | _=>exact bY
def OA (σ:St):CV → Option Nat
  | .one .fB=>some 0
  | .one (.mp key)=>(nU σ key).map fun o=>o.2.length
  | _=>none
@[go_sem] theorem Yr : OA σ (.one .fB) = some 0:=rfl
@[go_sem] theorem abx {key:Nat}:OA σ (.one (.mp key)) = (nU σ key).map fun o=>o.2.length:=rfl
def OB : CV → Option Nat
  | .one (.f (.sl rows))=>some rows.length
  | .one .fQ=>some 0
  | .one (.own _ n)=>some n
  | _=>none
@[go_sem] theorem aef {rows:List (List FV)}:OB (.one (.f (.sl rows))) = some rows.length:=rfl
@[go_sem] theorem aeg : OB (.one .fQ) = some 0:=rfl
@[go_sem] theorem aeh {k n:Nat}:OB (.one (.own k n)) = some n:=rfl
@[go_sem ↓] theorem aei : W k u (cO Γ q σ d (.jg x)) ↔ W (fun v=>W (fun n:Nat=>k (.c (.one (.f (.int .i64 (n:Int)))),σ)) ⟨⟩ (OB v)) ⟨⟩ (val σ x):=by
  simp only [cO,dW,bB]
  refine dx fun v=>?_
  cases v with
  | agg l=>exact bY
  | one p=>cases p with
    | f a=>cases a <;> first | exact bY | exact lH Iff.rfl
    | _=>first | exact bY | exact lH Iff.rfl
@[go_sem ↓] theorem aej {neg:Bool}:W k u (cO Γ q σ d (.Bf neg x)) ↔ W (fun v=>W (fun b=>k (.c (.one (.f (.bool (if neg then !b else b)))),σ)) ⟨⟩ (T9 v)) ⟨⟩ (val σ x):=by
  simp only [cO,dW,bB]
  refine dx fun v=>?_
  cases v with
  | agg l=>exact bY
  | one p=>cases p with
    | f a =>
      cases a with
      | sl rows=>cases rows <;> first | exact bY | (cases neg <;> exact lH Iff.rfl)
      | _=>exact bY
    | fQ=>cases neg <;> exact lH Iff.rfl
    | _=>exact bY
end
end Go.Proofs.Ytdkkgecdhapfhaa.Ev

/- A part of the proof of SeekStill: cut, joined and given short names by a program of this session (wip/tools/pack.py); Lean checks it. No condition. -/
import Derived.Test.YtfokaoeinpnagaaGreatPSSlle
import Derived.LoopN
import Derived.Tactics
import Derived.Orders
import Derived.OrdersHeld
import Derived.Scope
import Derived.Below
import Derived.Defers
import Derived.Test.YtfokaoeinpnagaaGreatPSSlld
set_option linter.unusedSectionVars false
set_option linter.unusedSimpArgs false
set_option linter.unusedVariables false
set_option maxHeartbeats 16000000
set_option maxRecDepth 100000
namespace Go.Proofs.YtfokaoeinpnagaaGreat.Ev
section
open Go
def Ok (aV:Nat → Prop) (w0:World) (aU:List Nat) (N:Fr) (iy:Nat → Value) (σ:St) (a:Act) (w:World):Prop:=∃ Fz κ,Rel aV w0 aU N Fz κ σ a w ∧ ∀ k,k % 2 = 1 → κ k = iy k
section
variable {P : Program} {Γ:Env} {aV:Nat → Prop} {w0 w w':World} {aU:List Nat} {N:Fr} {d:Nat} {q:Bool} {iy:Nat → Value} {σ σ1 σ':St} {a:Act} {pv:PV} {o:Oper} {X:Hx} {ops:Array Oper}
theorem Dt {Fz:Nat → Prop} {κ:Nat → Value} (h:Rel aV w0 aU N Fz κ σ a w) {t:Bool} (hg:y7 σ (o.guard.map fun p=>((ops[p.1]?).bind (·.dst),p.2)) = some t):Region.wanted o (yielded ops a.tmps) = t:=by
 unfold Region.wanted
 cases hgu:o.guard with
 | none=>rw [hgu] at hg;cases hg;rfl
 | some p =>
  obtain ⟨j,want⟩:=p
  rw [hgu] at hg
  simp only [Option.map_some] at hg
  simp only [yielded]
  cases hd:(ops[j]?).bind (·.dst) with
  | none=>rw [hd] at hg;cases hg;rfl
  | some s =>
   rw [hd] at hg
   simp only [Option.bind_some]
   simp only [y7] at hg
   split at hg
   ·rename_i b hb
    cases hg
    have hv:a.tmps.getD s undef = .bool b:=h.val hb
    rw [aiM] at hv
    cases ht:a.tmps[s]? with
    | none=>rw [ht] at hv;cases hv
    | some v =>
     rw [ht] at hv
     simp only [Option.getD_some] at hv
     subst hv
     cases b <;> cases want <;> rfl
   ·rename_i hb
    cases hg
    have hv:a.tmps.getD s undef = undef:=h.val hb
    rw [aiM] at hv
    cases ht:a.tmps[s]? with
    | none=>rfl
    | some v =>
     rw [ht] at hv
     simp only [Option.getD_some] at hv
     subst hv
     rfl
   ·cases hg
theorem wo (heq:∀ t ∈ X.eqs,kL P t) (j6:gL P Γ) (hC:dG P Γ) {g:G} (hg:rW P X ops N.ok o = some g) (h:Ok aV w0 aU N iy σ a w) (hE:lU Γ q σ g = some (pv,σ')) {K:Act → World → Prop} {Q:Exit → Act → World → Prop}
  (hK:∀ a' w',Ok aV w0 aU N iy (qA σ' g.dst pv) a' w' → K a' w'):if Region.wanted o (yielded ops a.tmps) then o.wp P a w K Q ∨ (o.asks P a w ∧ LetsOut Q) else K (a.put o.dst undef) w:=by
 obtain ⟨Fz,κ,h,hk⟩:=h
 obtain ⟨i,h1,h2⟩:=zbm hg
 split at h2
 ·rename_i hd
  cases h2
  obtain ⟨t,h3,h4⟩:=zbm hE
  have hput:∀ {bg eF w' pv v s},Rel aV w0 aU N bg eF s a w' → gW bg eF w' pv v → Rel aV w0 aU N bg eF (qA s o.dst pv) (a.put o.dst v) w':=by
   intro bg eF w' pv v s hr hv
   cases hdst:o.dst with
   | none=>exact hr.Kt v
   | some d =>
    rw [hdst] at hd
    exact hr.put (by simpa using hd) hv
  rw [Dt h h3]
  cases t with
  | true =>
   rw [ahX rfl]
   left
   rw [ahX rfl] at h4
   refine YI heq j6 hC h h1 h4 ?_
   intro v bg eF w' hg
   exact hK _ _ ⟨bg,eF,hput hg.rel hg.val,fun k hk'=>(hg.e6 k hk').trans (hk k hk')⟩
  | false =>
   rw [ahY (by decide)]
   rw [ahY (by decide)] at h4
   cases h4
   exact hK _ _ ⟨Fz,κ,hput h rfl,hk⟩
 ·cases h2
theorem BG (heq:∀ t ∈ X.eqs,kL P t) (j6:gL P Γ) (hC:dG P Γ) {g:G} (hg:rW P X ops N.ok o = some g) (h:Ok aV w0 aU N iy σ a w) (hE:Oq Γ q σ g = some σ') {K:Act → World → Prop} {Q:Exit → Act → World → Prop}
  (hK:∀ a' w',Ok aV w0 aU N iy σ' a' w' → K a' w'):if Region.wanted o (yielded ops a.tmps) then o.wp P a w K Q ∨ (o.asks P a w ∧ LetsOut Q) else K (a.put o.dst undef) w:=by
 obtain ⟨p,h1,h2⟩:=zmm hE
 subst h2
 exact wo heq j6 hC hg h h1 hK
theorem KY (heq:∀ t ∈ X.eqs,kL P t) (j6:gL P Γ) (hC:dG P Γ) {Q:Exit → Act → World → Prop}:∀ {l:List Oper} {gs:List G} {σ:St} {a:Act} {w:World},jG P X ops N.ok l = some gs → Ok aV w0 aU N iy σ a w → vN Γ q gs σ = some σ' → (∀ a' w',Ok aV w0 aU N iy σ' a' w' → Q .normal a' w') → wpList P ops Q l a w
 | [],gs,σ,a,w,hc,h,hE,hQ=>by cases hc;cases hE;exact hQ a w h
 | o :: l,gs,σ,a,w,hc,h,hE,hQ=>by
  obtain ⟨g,h1,h2⟩:=zbm hc
  obtain ⟨r,h3,rfl⟩:=zmm h2
  obtain ⟨s,h4,h5⟩:=zbm hE
  exact BG heq j6 hC h1 h h4 (fun a' w' h'=>KY heq j6 hC h3 h' h5 hQ)
end
end
section
open Go
def O7 : I → Bool
 | .alloc _ _=>false
 | .box _ _=>false
 | .wh _ _ _ _ _=>false
 | .Oo _ _ _ _ _=>false
 | .yX _ _=>false
 | .store _ _ _=>false
 | .oJ _=>false
 | .wG _ _ _ _=>false
 | .del _ _ _=>false
 | .app _ _ _ _ _=>false
 | .R4 _ _ _=>false
 | _=>true
def iZ : dF → List Nat
 | .t i=>[i]
 | .k _=>[]
def Fb : Option dF → List Nat
 | none=>[]
 | some x=>iZ x
def YJ (ps:List (Nat × Nat × dF)):List Nat:=ps.flatMap fun p=>iZ p.2.2
def mJ : I → List Nat
 | .mv x=>iZ x
 | .pick c x y=>iZ c ++ iZ x ++ iZ y
 | .alloc _ _=>[]
 | .box _ x=>iZ x
 | .build _ ps=>YJ ps
 | .wh _ _ _ _ ps=>YJ ps
 | .Oo _ _ _ _ ps=>YJ ps
 | .load _ _ x=>iZ x
 | .store _ x v=>iZ x ++ iZ v
 | .gH x=>iZ x
 | .wF _ x=>iZ x
 | .ar _ x y=>iZ x ++ iZ y
 | .cmp _ x y=>iZ x ++ iZ y
 | .oG _ _ x y=>iZ x ++ iZ y
 | .cat x y=>iZ x ++ iZ y
 | .no x=>iZ x
 | .ci _ x=>iZ x
 | .mq x=>iZ x
 | .oJ _=>[]
 | .IG x lo hi=>iZ x ++ Fb lo ++ Fb hi
 | .cut _ x lo hi=>iZ x ++ Fb lo ++ Fb hi
 | .fa _ x=>iZ x
 | .WZ _ _ _ x=>iZ x
 | .ia _ x i=>iZ x ++ iZ i
 | .idx _ _ _ x i=>iZ x ++ iZ i
 | .chr x i=>iZ x ++ iZ i
 | .look _ _ _ x k=>iZ x ++ iZ k
 | .wG _ x k v=>iZ x ++ iZ k ++ iZ v
 | .del _ x k=>iZ x ++ iZ k
 | .ext x _=>iZ x
 | .wH x=>iZ x
 | .fV x=>iZ x
 | .II x=>iZ x
 | .app _ _ _ x y=>iZ x ++ iZ y
 | .mn x y=>iZ x ++ iZ y
 | .mx x y=>iZ x ++ iZ y
 | .call _ _ xs=>xs.flatMap iZ
 | .yX _ xs=>xs.flatMap iZ
 | .yY _ x=>iZ x
 | .bit _ x y=>iZ x ++ iZ y
 | .Ub _ x y=>iZ x ++ iZ y
 | .OA _ xs=>xs.flatMap iZ
 | .dyn x xs=>iZ x ++ xs.flatMap iZ
 | .CY _ x y=>iZ x ++ iZ y
 | .cutV _ x y=>iZ x ++ iZ y
 | .R4 _ _ x=>iZ x
 | .W9 x=>iZ x
section
variable {Γ : Env} {d:Nat} {σ σ2 σ':St} {pv:PV}
def Same (l:List Nat) (σ σ2:St):Prop:=∀ s ∈ l,get σ2.tm s = get σ.tm s
theorem Same.l {l m:List Nat} (h:Same (l ++ m) σ σ2):Same l σ σ2:=fun s hs=>h s (by simp [hs])
theorem Same.r {l m:List Nat} (h:Same (l ++ m) σ σ2):Same m σ σ2:=fun s hs=>h s (by simp [hs])
theorem Same.val {x:dF} (h:Same (iZ x) σ σ2):Ev.val σ2 x = Ev.val σ x:=by
 cases x with
 | t i=>simp only [Ev.val];rw [h i (by simp [iZ])]
 | k x=>rfl
theorem Same.rF {x:dF} (h:Same (iZ x) σ σ2):Ev.rF σ2 x = Ev.rF σ x:=by
 cases x with
 | t i=>simp only [Ev.rF];rw [h i (by simp [iZ])]
 | k x=>rfl
theorem Same.vals : ∀ {ps:List (Nat × Nat × dF)},Same (YJ ps) σ σ2 → Ev.vals σ2 ps = Ev.vals σ ps
 | [],_=>rfl
 | (o,n,x) :: ps,h=>by
  unfold YJ at h
  rw [ajD] at h
  unfold Ev.vals
  rw [h.l.val,Same.vals h.r]
theorem Same.iT : ∀ {xs:List dF},Same (xs.flatMap iZ) σ σ2 → Ev.iT σ2 xs = Ev.iT σ xs
 | [],_=>rfl
 | x :: xs,h=>by
  rw [ajD] at h
  unfold Ev.iT
  rw [h.l.val,Same.iT h.r]
theorem Same.bnd {x:Option dF} {n m:Nat} (h:Same (Fb x) σ σ2):Ev.bnd σ2 n x m = Ev.bnd σ n x m:=by
 cases x with
 | none=>rfl
 | some x=>simp only [Ev.bnd];rw [Same.val h]
theorem Same.rng {lo hi:Option dF} {n:Nat} (hl:Same (Fb lo) σ σ2) (hh:Same (Fb hi) σ σ2):Ev.rng n σ2 lo hi = Ev.rng n σ lo hi:=by
 unfold Ev.rng
 rw [hh.bnd]
 congr 1
 funext h
 rw [hl.bnd]
theorem zR {gv:Bool} {x:PL} {y:TV} (ho:∀ k o,get σ.ob k = some o → get σ2.ob k = some o) (h:qP gv σ x = some (y,σ')) (hp:plain y = true):σ' = σ ∧ qP gv σ2 x = some (y,σ2):=by
 cases x with
 | f x=>cases h;exact ⟨rfl,rfl⟩
 | bK=>cases h;exact ⟨rfl,rfl⟩
 | iw=>cases h;exact ⟨rfl,rfl⟩
 | eH=>cases h;exact ⟨rfl,rfl⟩
 | own k n =>
  simp only [qP] at h ⊢
  split at h
  ·rename_i hk
   split at h
   ·cases h;cases hp
   ·rename_i hg;cases h;rw [ho _ _ hk];simp only [ahY hg];exact ⟨trivial,trivial⟩
  ·cases h
 | fp cs=>cases h;exact ⟨rfl,rfl⟩
 | fn f cs=>cases h;exact ⟨rfl,rfl⟩
 | mp k =>
  simp only [qP] at h
  split at h
  ·cases h;cases hp
  ·cases h
 | ptr k o =>
  cases o with
  | succ n=>cases h
  | zero =>
   simp only [qP] at h
   split at h
   ·obtain ⟨p,_,h2⟩:=zmm h;cases h2;cases hp
   ·cases h
 | _=>cases h
theorem xk {gv:Bool} (ho:∀ k o,get σ.ob k = some o → get σ2.ob k = some o):∀ {xs:List PL} {ys:List TV} {σ':St},qQ gv σ xs = some (ys,σ') → ys.all plain = true → σ' = σ ∧ qQ gv σ2 xs = some (ys,σ2)
 | [],ys,σ',h,_=>by cases h;exact ⟨rfl,rfl⟩
 | x :: xs,ys,σ',h,hp=>by
  obtain ⟨p,h1,h2⟩:=zbm h
  obtain ⟨r,h3,h4⟩:=zmm h2
  cases h4
  rw [List.all_cons,ah5] at hp
  obtain ⟨e1,e2⟩:=zR ho h1 hp.1
  rw [e1] at h3
  obtain ⟨e3,e4⟩:=xk ho h3 hp.2
  exact ⟨e3,by unfold qQ;rw [e2];simp only [Option.bind_some];rw [e4];rfl⟩
theorem xq {gv:Bool} (ho:∀ k o,get σ.ob k = some o → get σ2.ob k = some o):∀ {xs:List CV} {ys:List AV} {σ':St},rA gv σ xs = some (ys,σ') → ys.all fC = true → σ' = σ ∧ rA gv σ2 xs = some (ys,σ2)
 | [],ys,σ',h,_=>by cases h;exact ⟨rfl,rfl⟩
 | x :: xs,ys,σ',h,hp=>by
  obtain ⟨p,h1,h2⟩:=zbm h
  obtain ⟨r,h3,h4⟩:=zmm h2
  cases h4
  rw [List.all_cons,ah5] at hp
  have key:p.2 = σ ∧ J7 gv σ2 x = some (p.1,σ2):=by
   cases x with
   | one x =>
    obtain ⟨u,g1,g2⟩:=zmm h1
    obtain ⟨e1,e2⟩:=zR ho g1 (by rw [← g2] at hp;exact hp.1)
    exact ⟨by rw [← g2];exact e1,by simp only [J7];rw [e2,← g2];rfl⟩
   | agg xs =>
    obtain ⟨u,g1,g2⟩:=zmm h1
    obtain ⟨e1,e2⟩:=xk ho g1 (by rw [← g2] at hp;exact hp.1)
    exact ⟨by rw [← g2];exact e1,by simp only [J7];rw [e2,← g2];rfl⟩
  rw [key.1] at h3
  obtain ⟨e3,e4⟩:=xq ho h3 hp.2
  exact ⟨e3,by unfold rA;rw [key.2];simp only [Option.bind_some];rw [e4];rfl⟩
theorem zS {key:Nat} {pend:List PL} {x:TV} (hp:plain x = true):∃ l,∀ σ,CP key pend σ x = some (l,σ):=by
 cases x with
 | f x=>exact ⟨_,fun _=>rfl⟩
 | iw=>exact ⟨_,fun _=>rfl⟩
 | eH=>exact ⟨_,fun _=>rfl⟩
 | fp cs=>exact ⟨_,fun _=>rfl⟩
 | fn f cs=>exact ⟨_,fun _=>rfl⟩
 | any=>exact ⟨_,fun _=>rfl⟩
 | _=>cases hp
theorem xu {base:Nat}:∀ {xs:List TV} {j:Nat} {pend:List PL},xs.all plain = true → ∃ l,∀ σ,wM base j pend σ xs = some (l,σ)
 | [],_,_,_=>⟨[],fun _=>rfl⟩
 | x :: xs,j,pend,hp=>by
  rw [List.all_cons,ah5] at hp
  obtain ⟨l,h1⟩:=zS (key:=base + 200 * (j + 1)) (pend:=pend) hp.1
  obtain ⟨m,h2⟩:=xu (base:=base) (j:=j + 1) (pend:=l :: pend) hp.2
  exact ⟨l :: m,fun σ=>by unfold wM;rw [h1];simp only [Option.bind_some];rw [h2];rfl⟩
theorem xw {base:Nat}:∀ {xs:List AV} {i:Nat} {pend:List PL},xs.all fC = true → ∃ l,∀ σ,wN base i pend σ xs = some (l,σ)
 | [],_,_,_=>⟨[],fun _=>rfl⟩
 | x :: xs,i,pend,hp=>by
  rw [List.all_cons,ah5] at hp
  have key:∃ l,∀ σ,J8 (base + 2000 * i) pend σ x = some (l,σ):=by
   cases x with
   | one x=>obtain ⟨l,h⟩:=zS (key:=base + 2000 * i + 200) (pend:=pend) hp.1;exact ⟨.one l,fun σ=>by simp only [J8];rw [h];rfl⟩
   | agg xs=>obtain ⟨l,h⟩:=xu (base:=base + 2000 * i) (j:=0) (pend:=pend) hp.1;exact ⟨.agg l,fun σ=>by simp only [J8];rw [h];rfl⟩
  obtain ⟨l,h1⟩:=key
  obtain ⟨m,h2⟩:=xw (base:=base) (i:=i + 1) (pend:=cells l ++ pend) hp.2
  exact ⟨l :: m,fun σ=>by unfold wN;rw [h1];simp only [Option.bind_some];rw [h2];rfl⟩
theorem xA {gv:Bool} (ho:∀ k o,get σ.ob k = some o → get σ2.ob k = some o) {f:FuncId} {args:List CV} (hE:kr Γ gv true σ d f args = some (pv,σ')):σ' = σ ∧ kr Γ gv true σ2 d f args = some (pv,σ2):=by
 unfold kr at hE ⊢
 obtain ⟨p,h1,hE⟩:=zbm hE
 obtain ⟨r,h2,hE⟩:=zbm hE
 split at hE
 ·cases hE
 rename_i hq1
 split at hE
 ·cases hE
 rename_i hq2
 have hpl:p.1.all fC = true ∧ r.1.all fC = true:=by simpa using hq1
 obtain ⟨e1,e2⟩:=xq ho h1 hpl.1
 obtain ⟨l,hl⟩:=xw (base:=dw d) (i:=0) (pend:=[]) hpl.2
 have hfr:((r.1.any vM || !p.1.all fC) && args.any (fun x=>(cells x).any fP)) = false:=by
  cases hc:((r.1.any vM || !p.1.all fC) && args.any (fun x=>(cells x).any fP)) with
  | false=>rfl
  | true=>rw [hc] at hq2;exact absurd rfl hq2
 have h3:(r.1.any vM && args.any (fun x=>(cells x).any fP)) = false:=by simpa [hpl.1] using hfr
 simp only [hpl.1,hpl.2,ajw,Bool.or_false,h3,ais,aik,aiu,Option.bind_some,hl,Option.map_some,Bool.and_false,Bool.and_self,aie,ain] at hE
 simp only [e2,Option.bind_some,h2,hpl.1,hpl.2,ajw,Bool.or_false,h3,ais,aik,aiu,hl,Option.map_some,Bool.and_false,Bool.and_self]
 exact ⟨by rw [← hE.2];exact e1,by rw [hE.1]⟩
end
end
section
open Go
section
variable {Γ : Env} {d:Nat} {σ σ2 σ':St} {pv:PV}
theorem Fe {l:List CV}:∀ {caps:List (List FV)} {τ:St},lg true σ l = some (caps,τ) → τ = σ ∧ lg true σ2 l = some (caps,σ2):=by
 induction l with
 | nil=>intro caps τ h;simp only [lg] at h;cases h;exact ⟨rfl,by simp only [lg]⟩
 | cons y l ih =>
  intro caps τ h
  have one:∀ cs,y = .one (.fp cs) → τ = σ ∧ lg true σ2 (y :: l) = some (caps,σ2):=by
   intro cs hy
   subst hy
   simp only [lg] at h ⊢
   obtain ⟨r,g1,g2⟩:=zmm h
   cases g2
   obtain ⟨e1,e2⟩:=ih g1
   exact ⟨e1,by rw [e2];rfl⟩
  cases y with
  | one x =>
   cases x with
   | fp cs=>exact one cs rfl
   | ptr k o=>cases o <;> simp [lg] at h
   | _=>simp [lg] at h
  | agg xs=>simp [lg] at h
theorem O8 {i:I} (hi:O7 i = true) (hs:Same (mJ i) σ σ2) (ho:∀ k o,get σ.ob k = some o → get σ2.ob k = some o) (hE:bW Γ true σ d i = some (pv,σ')):σ' = σ ∧ bW Γ true σ2 d i = some (pv,σ2):=by
 cases i with
 | alloc e z=>cases hi
 | box e x=>cases hi
 | wh e sz len z ps=>cases hi
 | Oo e sz len z ps=>cases hi
 | yX f xs=>cases hi
 | store n x v=>cases hi
 | oJ sh=>cases hi
 | wG sh x k v=>cases hi
 | del sh x k=>cases hi
 | app e sz b x y=>cases hi
 | mv x =>
  simp only [mJ] at hs
  simp only [bW] at hE ⊢
  rw [hs.rF]
  obtain ⟨v,h1,h2⟩:=zmm hE
  cases h2
  rw [h1];simp only [Option.map_some];exact ⟨trivial,trivial⟩
 | pick c x y =>
  simp only [mJ] at hs
  simp only [bW] at hE ⊢
  obtain ⟨v,h1,h2⟩:=zbm hE
  obtain ⟨t,h3,h4⟩:=zbm h2
  obtain ⟨u,h5,h6⟩:=zmm h4
  cases h6
  rw [hs.l.l.val,h1]
  simp only [Option.bind_some,h3]
  have:Ev.val σ2 (if t then x else y) = Ev.val σ (if t then x else y):=by
   cases t
   ·exact hs.r.val
   ·exact hs.l.r.val
  rw [this,h5];exact ⟨trivial,rfl⟩
 | build z ps =>
  simp only [mJ] at hs
  simp only [bW] at hE ⊢
  obtain ⟨v,h1,h2⟩:=zbm hE
  obtain ⟨u,h3,h4⟩:=zmm h2
  cases h4
  rw [hs.vals,h1]
  simp only [Option.bind_some,h3,Option.map_some]
  exact ⟨trivial,trivial⟩
 | load n g x =>
  simp only [mJ] at hs
  simp only [bW] at hE ⊢
  obtain ⟨v,h1,h2⟩:=zbm hE
  rw [hs.val,h1]
  simp only [Option.bind_some]
  split at h2
  ·split at h2
   ·rename_i fK
    obtain ⟨l,h3,h4⟩:=zbm h2
    obtain ⟨u,h5,h6⟩:=zmm h4
    cases h6
    simp only [ho _ _ fK,h3,Option.bind_some,h5,Option.map_some]
    exact ⟨trivial,trivial⟩
   ·cases h2
  ·obtain ⟨l,h3,h4⟩:=zbm h2
   obtain ⟨u,h5,h6⟩:=zmm h4
   cases h6
   simp only [h3,Option.bind_some,h5,Option.map_some]
   exact ⟨trivial,trivial⟩
  ·split at h2
   ·rename_i fK
    split at h2
    ·cases h2
    ·rename_i hz
     obtain ⟨r,h7,h8⟩:=zbm h2
     obtain ⟨l,h3,h4⟩:=zbm h8
     obtain ⟨u,h5,h6⟩:=zmm h4
     cases h6
     simp only [ho _ _ fK,ahY hz,h7,h3,Option.bind_some,h5,Option.map_some]
     exact ⟨trivial,trivial⟩
   ·cases h2
  ·cases h2
 | gH x =>
  simp only [mJ] at hs
  simp only [bW] at hE ⊢
  obtain ⟨v,h1,h2⟩:=zbm hE
  rw [hs.val,h1]
  simp only [Option.bind_some]
  split at h2 <;> cases h2 <;> exact ⟨rfl,rfl⟩
 | wF neg x =>
  simp only [mJ] at hs
  simp only [bW] at hE ⊢
  obtain ⟨v,h1,h2⟩:=zbm hE
  rw [hs.val,h1]
  simp only [Option.bind_some]
  split at h2 <;> cases h2 <;> exact ⟨rfl,rfl⟩
 | ar o x y =>
  simp only [mJ] at hs
  simp only [bW] at hE ⊢
  obtain ⟨u,h1,hE⟩:=zbm hE
  obtain ⟨v,h2,hE⟩:=zbm hE
  obtain ⟨m,h3,hE⟩:=zbm hE
  obtain ⟨n,h4,hE⟩:=zbm hE
  split at hE
  ·rename_i hk
   obtain ⟨r,h5,hE⟩:=zbm hE
   cases hE
   rw [hs.l.val,hs.r.val]
   simp only [h1,h2,h3,h4,h5,Option.bind_some,ahX hk,one]
   exact ⟨trivial,trivial⟩
  ·cases hE
 | cmp o x y =>
  simp only [mJ] at hs
  simp only [bW] at hE ⊢
  obtain ⟨u,h1,hE⟩:=zbm hE
  obtain ⟨v,h2,hE⟩:=zbm hE
  obtain ⟨m,h3,hE⟩:=zbm hE
  obtain ⟨n,h4,hE⟩:=zbm hE
  split at hE
  ·rename_i hk
   cases hE
   rw [hs.l.val,hs.r.val]
   simp only [h1,h2,h3,h4,Option.bind_some,ahX hk,one]
   exact ⟨trivial,trivial⟩
  ·cases hE
 | oG sh neg x y =>
  simp only [mJ] at hs
  simp only [bW] at hE ⊢
  obtain ⟨u,h1,hE⟩:=zbm hE
  obtain ⟨v,h2,hE⟩:=zbm hE
  obtain ⟨m,h3,hE⟩:=zbm hE
  obtain ⟨n,h4,hE⟩:=zbm hE
  split at hE
  ·rename_i hk
   cases hE
   rw [hs.l.val,hs.r.val]
   simp only [h1,h2,h3,h4,Option.bind_some,ahX hk,one]
   exact ⟨trivial,trivial⟩
  ·cases hE
 | cat x y =>
  simp only [mJ] at hs
  simp only [bW] at hE ⊢
  obtain ⟨u,h1,hE⟩:=zbm hE
  obtain ⟨v,h2,hE⟩:=zbm hE
  rw [hs.l.val,hs.r.val]
  simp only [h1,h2,Option.bind_some]
  split at hE
  ·split at hE
   ·rename_i hk;cases hE;simp only [ahX hk,one];exact ⟨trivial,trivial⟩
   ·cases hE
  ·cases hE
 | no x =>
  simp only [mJ] at hs
  simp only [bW] at hE ⊢
  obtain ⟨u,h1,hE⟩:=zbm hE
  obtain ⟨v,h2,hE⟩:=zbm hE
  cases hE
  rw [hs.val]
  simp only [h1,h2,Option.bind_some,one]
  exact ⟨trivial,trivial⟩
 | ci k x =>
  simp only [mJ] at hs
  simp only [bW] at hE ⊢
  obtain ⟨u,h1,hE⟩:=zbm hE
  obtain ⟨v,h2,hE⟩:=zbm hE
  cases hE
  rw [hs.val]
  simp only [h1,h2,Option.bind_some,one]
  exact ⟨trivial,trivial⟩
 | mq x =>
  simp only [mJ] at hs
  simp only [bW] at hE ⊢
  obtain ⟨u,h1,hE⟩:=zbm hE
  rw [hs.val,h1]
  simp only [Option.bind_some]
  split at hE
  ·cases hE;exact ⟨rfl,rfl⟩
  ·cases hE
 | IG x lo hi =>
  simp only [mJ] at hs
  simp only [bW] at hE ⊢
  obtain ⟨u,h1,hE⟩:=zbm hE
  rw [hs.l.l.val,h1]
  simp only [Option.bind_some]
  split at hE
  ·obtain ⟨p,h2,hE⟩:=zbm hE
   cases hE
   rw [Same.rng hs.l.r hs.r,h2]
   exact ⟨rfl,rfl⟩
  ·cases hE
 | cut sz x lo hi =>
  simp only [mJ] at hs
  simp only [bW] at hE ⊢
  obtain ⟨u,h1,hE⟩:=zbm hE
  rw [hs.l.l.val,h1]
  simp only [Option.bind_some]
  split at hE
  ·split at hE
   ·cases hE
   ·rename_i hz
    obtain ⟨p,h2,hE⟩:=zbm hE
    cases hE
    rw [ahY hz,Same.rng hs.l.r hs.r,h2]
    exact ⟨rfl,rfl⟩
  ·obtain ⟨p,h2,hE⟩:=zbm hE
   cases hE
   rw [Same.rng hs.l.r hs.r,h2]
   exact ⟨rfl,rfl⟩
  ·split at hE
   ·split at hE
    ·cases hE
    ·obtain ⟨p,h2,hE⟩:=zbm hE
     rw [ahX trivial] at hE
     cases hE
   ·cases hE
  ·cases hE
 | fa off x =>
  simp only [mJ] at hs
  simp only [bW] at hE ⊢
  obtain ⟨v,h1,h2⟩:=zbm hE
  rw [hs.val,h1]
  simp only [Option.bind_some]
  split at h2 <;> cases h2 <;> exact ⟨rfl,rfl⟩
 | WZ off n g x =>
  simp only [mJ] at hs
  simp only [bW] at hE ⊢
  obtain ⟨v,h1,h2⟩:=zbm hE
  rw [hs.val,h1]
  simp only [Option.bind_some]
  split at h2
  ·obtain ⟨l,h3,h4⟩:=zbm h2
   obtain ⟨u,h5,h6⟩:=zmm h4
   cases h6
   simp only [h3,Option.bind_some,h5,Option.map_some]
   exact ⟨trivial,trivial⟩
  ·cases h2
 | ia sz x i =>
  simp only [mJ] at hs
  simp only [bW] at hE ⊢
  obtain ⟨v,h1,hE⟩:=zbm hE
  obtain ⟨j,h2,hE⟩:=zbm hE
  obtain ⟨p,h3,hE⟩:=zbm hE
  rw [hs.l.val,hs.r.val]
  simp only [h1,h2,h3,Option.bind_some]
  split at hE
  ·rename_i h0
   rw [ahX h0]
   split at hE
   ·obtain ⟨r,h4,hE⟩:=zbm hE
    split at hE
    ·rename_i hk;cases hE;simp only [h4,Option.bind_some,ahX hk];exact ⟨trivial,trivial⟩
    ·cases hE
   ·split at hE
    ·rename_i fK
     split at hE
     ·rename_i hk;cases hE;simp only [ho _ _ fK,ahX hk];exact ⟨trivial,trivial⟩
     ·cases hE
    ·cases hE
   ·cases hE
  ·cases hE
 | idx sz len g x i =>
  simp only [mJ] at hs
  simp only [bW] at hE ⊢
  obtain ⟨v,h1,hE⟩:=zbm hE
  obtain ⟨j,h2,hE⟩:=zbm hE
  obtain ⟨p,h3,hE⟩:=zbm hE
  rw [hs.l.val,hs.r.val]
  simp only [h1,h2,h3,Option.bind_some]
  split at hE
  ·rename_i h0
   rw [ahX h0]
   split at hE
   ·obtain ⟨l,h4,hE⟩:=zbm hE
    obtain ⟨u,h5,h6⟩:=zmm hE
    cases h6
    simp only [h4,Option.bind_some,h5,Option.map_some]
    exact ⟨trivial,trivial⟩
   ·cases hE
  ·cases hE
 | chr x i =>
  simp only [mJ] at hs
  simp only [bW] at hE ⊢
  obtain ⟨v,h1,hE⟩:=zbm hE
  obtain ⟨j,h2,hE⟩:=zbm hE
  obtain ⟨p,h3,hE⟩:=zbm hE
  rw [hs.l.val,hs.r.val]
  simp only [h1,h2,h3,Option.bind_some]
  split at hE
  ·split at hE
   ·rename_i h0
    obtain ⟨b,h4,hE⟩:=zbm hE
    cases hE
    simp only [ahX h0,h4,Option.bind_some,one]
    exact ⟨trivial,trivial⟩
   ·cases hE
  ·cases hE
 | look sh z ok x k =>
  simp only [mJ] at hs
  simp only [bW] at hE ⊢
  obtain ⟨v,h1,hE⟩:=zbm hE
  obtain ⟨u,h2,hE⟩:=zbm hE
  obtain ⟨b,h3,hE⟩:=zbm hE
  rw [hs.l.val,hs.r.val]
  simp only [h1,h2,h3,Option.bind_some]
  split at hE
  ·cases hE
  ·rename_i hsh
   rw [ahY hsh]
   obtain ⟨r,h4,h5⟩:=zmm hE
   cases h5
   split at h4
   ·cases h4;exact ⟨rfl,rfl⟩
   ·split at h4
    ·rename_i fK
     split at h4
     ·rename_i hk;cases h4;simp only [ho _ _ fK,ahX hk,Option.map_some];exact ⟨trivial,trivial⟩
     ·cases h4
    ·cases h4
   ·cases h4
 | ext x i =>
  simp only [mJ] at hs
  simp only [bW] at hE ⊢
  rw [hs.rF]
  split at hE
  ·rename_i l hl
   obtain ⟨v,h1,h2⟩:=zmm hE
   cases h2
   simp only [h1,Option.map_some]
   exact ⟨trivial,trivial⟩
  ·cases hE
 | wH x =>
  simp only [mJ] at hs
  simp only [bW] at hE ⊢
  obtain ⟨v,h1,h2⟩:=zbm hE
  rw [hs.val,h1]
  simp only [Option.bind_some]
  split at h2 <;> cases h2 <;> exact ⟨rfl,rfl⟩
 | fV x =>
  simp only [mJ] at hs
  simp only [bW] at hE ⊢
  obtain ⟨v,h1,h2⟩:=zbm hE
  rw [hs.val,h1]
  simp only [Option.bind_some]
  split at h2 <;> cases h2 <;> exact ⟨rfl,rfl⟩
 | II x =>
  simp only [mJ] at hs
  simp only [bW] at hE ⊢
  obtain ⟨v,h1,h2⟩:=zbm hE
  rw [hs.val,h1]
  simp only [Option.bind_some]
  split at h2
  ·cases h2;exact ⟨rfl,rfl⟩
  ·split at h2
   ·rename_i fK;cases h2;simp only [ho _ _ fK,one];exact ⟨trivial,trivial⟩
   ·cases h2
  ·cases h2
 | mn x y =>
  simp only [mJ] at hs
  simp only [bW] at hE ⊢
  obtain ⟨u,h1,hE⟩:=zbm hE
  obtain ⟨v,h2,hE⟩:=zbm hE
  obtain ⟨m,h3,hE⟩:=zbm hE
  obtain ⟨n,h4,hE⟩:=zbm hE
  rw [hs.l.val,hs.r.val]
  simp only [h1,h2,h3,h4,Option.bind_some]
  split at hE
  ·rename_i hk;cases hE;rw [ahX hk];exact ⟨rfl,rfl⟩
  ·cases hE
 | mx x y =>
  simp only [mJ] at hs
  simp only [bW] at hE ⊢
  obtain ⟨u,h1,hE⟩:=zbm hE
  obtain ⟨v,h2,hE⟩:=zbm hE
  obtain ⟨m,h3,hE⟩:=zbm hE
  obtain ⟨n,h4,hE⟩:=zbm hE
  rw [hs.l.val,hs.r.val]
  simp only [h1,h2,h3,h4,Option.bind_some]
  split at hE
  ·rename_i hk;cases hE;rw [ahX hk];exact ⟨rfl,rfl⟩
  ·cases hE
 | R4 sz z x=>cases hi
 | call gv f xs =>
  simp only [mJ] at hs
  simp only [bW] at hE ⊢
  obtain ⟨l,h1,hE⟩:=zbm hE
  rw [hs.iT,h1]
  simp only [Option.bind_some]
  exact xA ho hE
 | dyn x xs =>
  simp only [mJ] at hs
  simp only [bW] at hE ⊢
  obtain ⟨v,h0,hE⟩:=zbm hE
  rw [hs.l.val,h0]
  simp only [Option.bind_some]
  split at hE
  ·obtain ⟨l,h1,hE⟩:=zbm hE
   simp only [hs.r.iT,h1,Option.bind_some]
   exact xA ho hE
  ·cases hE
 | OA f xs =>
  simp only [mJ] at hs
  simp only [bW] at hE ⊢
  obtain ⟨l,h1,hE⟩:=zbm hE
  rw [hs.iT,h1]
  simp only [Option.bind_some]
  obtain ⟨p,h2,h3⟩:=zmm hE
  cases h3
  obtain ⟨e1,e2⟩:=Fe (σ2:=σ2) h2
  rw [e2]
  exact ⟨e1,rfl⟩
 | yY neg x =>
  simp only [mJ] at hs
  simp only [bW] at hE ⊢
  obtain ⟨v,h1,h2⟩:=zbm hE
  rw [hs.val,h1]
  simp only [Option.bind_some]
  split at h2 <;> cases h2 <;> exact ⟨rfl,rfl⟩
 | bit o x y =>
  simp only [mJ] at hs
  simp only [bW] at hE ⊢
  obtain ⟨u,h1,hE⟩:=zbm hE
  obtain ⟨v,h2,hE⟩:=zbm hE
  obtain ⟨m,h3,hE⟩:=zbm hE
  obtain ⟨n,h4,hE⟩:=zbm hE
  rw [hs.l.val,hs.r.val]
  simp only [h1,h2,h3,h4,Option.bind_some]
  split at hE
  ·rename_i hk;cases hE;rw [ahX hk];exact ⟨rfl,rfl⟩
  ·cases hE
 | Ub o x y =>
  simp only [mJ] at hs
  simp only [bW] at hE ⊢
  obtain ⟨u,h1,hE⟩:=zbm hE
  obtain ⟨v,h2,hE⟩:=zbm hE
  obtain ⟨m,h3,hE⟩:=zbm hE
  obtain ⟨n,h4,hE⟩:=zbm hE
  rw [hs.l.val,hs.r.val]
  simp only [h1,h2,h3,h4,Option.bind_some]
  split at hE
  ·rename_i hk;cases hE;rw [ahX hk];exact ⟨rfl,rfl⟩
  ·cases hE
 | CY sz x y=>simp [bW] at hE
 | cutV sz x y =>
  simp only [mJ] at hs
  simp only [bW] at hE ⊢
  obtain ⟨v,h1,hE⟩:=zbm hE
  obtain ⟨j,h2,hE⟩:=zbm hE
  obtain ⟨p,h3,hE⟩:=zbm hE
  rw [hs.l.val,hs.r.val]
  simp only [h1,h2,h3,Option.bind_some]
  split at hE
  ·split at hE
   ·rename_i fK
    split at hE
    ·rename_i hk;cases hE;simp only [ho _ _ fK,ahX hk];exact ⟨trivial,trivial⟩
    ·cases hE
   ·cases hE
  ·cases hE
 | W9 x =>
  simp only [mJ] at hs
  simp only [bW] at hE ⊢
  obtain ⟨v,h1,h2⟩:=zbm hE
  rw [hs.val,h1]
  simp only [Option.bind_some]
  split at h2
  ·obtain ⟨s,h3,h4⟩:=zbm h2
   cases h4
   simp only [h3,Option.bind_some,one]
   exact ⟨trivial,trivial⟩
  ·cases h2;exact ⟨rfl,rfl⟩
  ·split at h2
   ·rename_i fK
    split at h2
    ·rename_i hz
     obtain ⟨s,h3,h4⟩:=zbm h2
     cases h4
     simp only [ho _ _ fK,ahX hz,h3,Option.bind_some,one]
     exact ⟨trivial,trivial⟩
    ·cases h2
   ·cases h2
  ·cases h2
end
end
section
open Go
section
variable {Γ : Env} {d:Nat} {σ σ2 σ':St} {pv:PV}
theorem UD {α:Type} {l:List (Nat × α)} {k:Nat} (h:∀ p ∈ l,p.1 ≠ k):rem l k = l:=by
 induction l with
 | nil=>rfl
 | cons p l ih =>
  obtain ⟨j,u⟩:=p
  unfold rem
  rw [ahY (h _ ajh),ih (fun p hp=>h p (aiQ _ hp))]
theorem jh {key:Nat}:fresh σ key = true ↔ (∀ p ∈ σ.ob,p.1 ≠ key ∧ lT key p.2 = false) ∧ ∀ p ∈ σ.tm,qF key p.2 = false:=by
 simp [fresh]
theorem iN {key:Nat} (h:fresh σ key = true) (o:Ob):new σ key o = some ⟨σ.tm,(key,o) :: σ.ob⟩:=by
 obtain ⟨h1,h2⟩:=jh.mp h
 have hr:=UD (fun p hp=>(h1 p hp).1)
 unfold new Xa
 rw [hr,ahY]
 ·simp only [Option.map_some]
  rw [List.filter_eq_self.mpr (fun p hp=>by rw [h2 p hp];rfl)]
 ·intro hc
  obtain ⟨p,hp,hm⟩:=ai0.mp hc
  rw [(h1 p hp).2] at hm;cases hm
theorem IZ {x:PL} {y:FV} (hn:fP x = false) (h:uU σ x = some (y,σ')):σ' = σ ∧ uU σ2 x = some (y,σ2):=by
 cases x with
 | f x=>cases h;exact ⟨rfl,rfl⟩
 | bK=>cases h;exact ⟨rfl,rfl⟩
 | own k n=>cases hn
 | _=>cases h
theorem xB : ∀ {xs:List PL} {ys:List FV} {σ':St},xs.any fP = false → jR σ xs = some (ys,σ') → σ' = σ ∧ jR σ2 xs = some (ys,σ2)
 | [],ys,σ',_,h=>by cases h;exact ⟨rfl,rfl⟩
 | x :: xs,ys,σ',hn,h=>by
  obtain ⟨p,h1,h2⟩:=zbm h
  obtain ⟨r,h3,h4⟩:=zmm h2
  cases h4
  simp only [List.any_cons,ajI] at hn
  obtain ⟨e1,e2⟩:=IZ (σ2:=σ2) hn.1 h1
  rw [e1] at h3
  obtain ⟨e3,e4⟩:=xB hn.2 h3
  exact ⟨e3,by unfold jR;rw [e2];simp only [Option.bind_some];rw [e4];rfl⟩
theorem YK {i:I} (hi:jL i = true) (hs:Same (mJ i) σ σ2) (hf:fresh σ (dw d) = true) (hf2:fresh σ2 (dw d) = true) (hE:bW Γ true σ d i = some (pv,σ')) :
  ∃ o,σ' = ⟨σ.tm,(dw d,o) :: σ.ob⟩ ∧ bW Γ true σ2 d i = some (pv,⟨σ2.tm,(dw d,o) :: σ2.ob⟩):=by
 cases i <;> first | cases hi | skip
 ·rename_i e z
  simp only [bW] at hE ⊢
  split at hE
  ·cases hE
  ·rename_i hm
   simp only [gq,iN hf,Option.map_some] at hE
   cases hE
   refine ⟨_,rfl,?_⟩
   rw [ahY hm]
   simp only [gq,iN hf2,Option.map_some]
 ·rename_i e x
  simp only [mJ] at hs
  simp only [bW] at hE ⊢
  obtain ⟨v,h1,h2⟩:=zbm hE
  split at h2
  ·cases h2
  ·rename_i hm
   simp only [gq,iN hf,Option.map_some] at h2
   cases h2
   refine ⟨_,rfl,?_⟩
   rw [hs.val,h1]
   simp only [Option.bind_some]
   rw [ahY hm]
   simp only [gq,iN hf2,Option.map_some]
 ·rename_i e sz len z ps
  simp only [mJ] at hs
  simp only [bW] at hE ⊢
  obtain ⟨v,h1,hE⟩:=zbm hE
  obtain ⟨u,h2,hE⟩:=zbm hE
  split at hE
  ·cases hE
  ·rename_i hm
   obtain ⟨p,h3,hE⟩:=zbm hE
   have hn:u.any fP = false:=by simpa using hm
   obtain ⟨e1,e2⟩:=xB (σ2:=σ2) hn h3
   rw [e1] at hE
   simp only [gq,iN hf,Option.map_some] at hE
   cases hE
   refine ⟨_,rfl,?_⟩
   rw [hs.vals,h1]
   simp only [Option.bind_some,h2]
   rw [ahY hm,e2]
   simp only [Option.bind_some,gq,iN hf2,Option.map_some]
 ·rename_i sh
  simp only [bW] at hE ⊢
  simp only [gq,iN hf,Option.map_some] at hE
  cases hE
  exact ⟨_,rfl,by simp only [gq,iN hf2,Option.map_some]⟩
 ·rename_i f xs
  simp only [mJ] at hs
  simp only [bW,rE] at hE ⊢
  obtain ⟨l,h1,hE⟩:=zbm hE
  obtain ⟨dV,h2,hE⟩:=zbm hE
  obtain ⟨r,h3,hE⟩:=zbm hE
  obtain ⟨p,h4,hE⟩:=zbm hE
  simp only [iN hf,Option.map_some] at hE
  cases hE
  refine ⟨_,rfl,?_⟩
  rw [hs.iT,h1]
  simp only [Option.bind_some,h2,h3,h4,iN hf2,Option.map_some]
end
end
section
open Go
def rd (g:G):List Nat:=mJ g.i ++ match g.gd with
 | some (some s,_)=>[s]
 | _=>[]
section
variable {Γ : Env} {d:Nat} {σ σ2 σ':St} {pv:PV}
theorem KZ {g:G} (hs:Same (rd g) σ σ2):y7 σ2 g.gd = y7 σ g.gd:=by
 unfold rd at hs
 have hr:=hs.r
 cases hg:g.gd with
 | none=>rfl
 | some p =>
  obtain ⟨s,want⟩:=p
  cases s with
  | none=>rfl
  | some s =>
   rw [hg] at hr
   simp only [y7]
   rw [hr s (by simp)]
theorem sF {g:G} (hi:O7 g.i = true) (hs:Same (rd g) σ σ2) (ho:∀ k o,get σ.ob k = some o → get σ2.ob k = some o) (hE:lU Γ true σ g = some (pv,σ')):σ' = σ ∧ lU Γ true σ2 g = some (pv,σ2):=by
 unfold lU at hE ⊢
 obtain ⟨t,h1,h2⟩:=zbm hE
 rw [KZ hs,h1]
 simp only [Option.bind_some]
 cases t with
 | true =>
  rw [ahX rfl] at h2 ⊢
  exact O8 hi (by unfold rd at hs;exact hs.l) ho h2
 | false =>
  rw [ahY (by decide)] at h2 ⊢
  cases h2
  exact ⟨rfl,rfl⟩
theorem K3 {g:G} (hi:jL g.i = true) (hg:g.gd = none) (hs:Same (rd g) σ σ2) (hf:fresh σ (dw (g.dst.getD 999)) = true) (hf2:fresh σ2 (dw (g.dst.getD 999)) = true) (hE:lU Γ true σ g = some (pv,σ')) :
  ∃ o,σ' = ⟨σ.tm,(dw (g.dst.getD 999),o) :: σ.ob⟩ ∧ lU Γ true σ2 g = some (pv,⟨σ2.tm,(dw (g.dst.getD 999),o) :: σ2.ob⟩):=by
 unfold lU at hE ⊢
 rw [hg] at hE ⊢
 simp only [y7,Option.bind_some,aiu] at hE ⊢
 exact YK hi (by unfold rd at hs;exact hs.l) hf hf2 hE
theorem get_put {α:Type} {l:List (Nat × α)} {i j:Nat} {v:α}:get (put l i v) j = if j = i then some v else get l j:=by
 have adW:∀ {l:List (Nat × α)} {i j:Nat},j ≠ i → get (rem l i) j = get l j:=by
  intro l i j hj
  induction l with
  | nil=>rfl
  | cons p l ih =>
   obtain ⟨k,u⟩:=p
   unfold rem
   by_cases hk:k = i
   ·rw [ahX hk,ih]
    conv=>rhs;unfold get
    rw [ahY (fun e=>hj (by omega))]
   ·rw [ahY hk]
    unfold get
    rw [ih]
 induction l with
 | nil =>
  unfold put get
  by_cases h:j = i
  ·rw [ahX h,ahX h.symm]
  ·rw [ahY h,ahY (fun e=>h e.symm)];rfl
 | cons p l ih =>
  obtain ⟨k,u⟩:=p
  unfold put
  by_cases hk:k = i
  ·rw [ahX hk]
   unfold get
   by_cases h:j = i
   ·rw [ahX h,ahX h.symm]
   ·rw [ahY h,ahY (fun e=>h e.symm),adW h,ahY (fun e=>h (by omega))]
  ·rw [ahY hk]
   unfold get
   by_cases hkj:k = j
   ·rw [ahX hkj,ahY (by omega),ahX hkj]
   ·rw [ahY hkj,ih,ahY hkj]
theorem Du {b:Bool} (h:¬ b = true):b = false:=aiX.mpr h
def iV (Γ:Env) (qG:List (Nat × Ob)) (pre:List (G × List Nat)) (zh:List (Nat × PV)):Nat → List (Nat × PV)
 | 0=>zh
 | i + 1=>match pre[i]? with
  | some g=>match lU Γ true ⟨iV Γ qG pre zh i,qG⟩ g.1 with
   | some p=>rJ g.1.dst (iV Γ qG pre zh i) p.1
   | none=>iV Γ qG pre zh i
  | none=>iV Γ qG pre zh i
structure Can (Γ:Env) (qG:List (Nat × Ob)) (pre:List (G × List Nat)) (zh:List (Nat × PV)) (i:Nat) (pv:PV) (s:St):Prop where
 lt:i < pre.length
 ev:lU Γ true ⟨iV Γ qG pre zh i,qG⟩ (pre[i]'lt).1 = some (pv,s)
 nx:iV Γ qG pre zh (i + 1) = rJ (pre[i]'lt).1.dst (iV Γ qG pre zh i) pv
 nk:∀ k ∈ (pre[i]'lt).2,qF k pv = false ∧ (jL (pre[i]'lt).1.i = true → ∀ r ∈ s.ob.take 1,r.1 ≠ k ∧ lT k r.2 = false)
theorem Dv {qG:List (Nat × Ob)} {pre:List (G × List Nat)} {zh:List (Nat × PV)}:∀ (n i:Nat) (obx:List (Nat × Ob)) (s:St),n + i = pre.length → OG Γ qG (pre.drop i) ⟨iV Γ qG pre zh i,obx⟩ = some s →
  (∀ j,i ≤ j → j < pre.length → ∃ pv st,Can Γ qG pre zh j pv st) ∧ s.tm = iV Γ qG pre zh pre.length ∧
  ∃ news,s.ob = news ++ obx ∧ ∀ p ∈ news,∃ j pv st,i ≤ j ∧ j < pre.length ∧ ∃ (h:Can Γ qG pre zh j pv st),jL (pre[j]'h.lt).1.i = true ∧ p ∈ st.ob.take 1
 | 0,i,obx,s,hn,hE=>by
  rw [List.drop_eq_nil_of_le (by omega)] at hE
  cases hE
  refine ⟨fun j h1 h2=>by omega,by rw [show pre.length = i from by omega],[],rfl,fun p hp=>by simp at hp⟩
 | n + 1,i,obx,s,hn,hE=>by
  have hi:i < pre.length:=by omega
  rw [ajz hi] at hE
  obtain ⟨g,nk,hp⟩:∃ g nk,pre[i] = (g,nk):=⟨_,_,rfl⟩
  rw [hp] at hE
  simp only [OG] at hE
  obtain ⟨p,h1,h2⟩:=zbm hE
  split at h2
  ·cases h2
  ·rename_i hnk
   have hnx:iV Γ qG pre zh (i + 1) = rJ g.dst (iV Γ qG pre zh i) p.1:=by
    conv=>lhs;unfold iV
    rw [aic hi,hp]
    simp only [h1]
   have hcan:Can Γ qG pre zh i p.1 p.2:=⟨hi,by rw [hp];exact h1,by rw [hp];exact hnx,fun k hk=>by
    rw [hp] at hk ⊢
    have hk':¬ (qF k p.1 || (jL g.i && (p.2.ob.take 1).any (fun r=>r.1 == k || lT k r.2))) = true:=fun hc=>hnk (ai0.mpr ⟨k,hk,hc⟩)
    rw [aiV,not_or] at hk'
    refine ⟨Du hk'.1,fun hN r hr=>?_⟩
    have:=hk'.2
    rw [hN,Bool.true_and] at this
    have hr':¬ (r.1 == k || lT k r.2) = true:=fun hc=>this (ai0.mpr ⟨r,hr,hc⟩)
    rw [aiV,not_or] at hr'
    exact ⟨by simpa using hr'.1,Du hr'.2⟩⟩
   rw [← hnx] at h2
   obtain ⟨e1,e2,news,e3,e4⟩:=Dv n (i + 1) _ s (by omega) h2
   refine ⟨fun j h3 h4=>?_,e2,news ++ (if jL g.i then p.2.ob.take 1 else []),?_,fun r hr=>?_⟩
   ·by_cases hj:j = i
    ·subst hj;exact ⟨_,_,hcan⟩
    ·exact e1 j (by omega) h4
   ·rw [e3]
    cases jL g.i <;> simp
   ·rcases air.mp hr with h | h
    ·obtain ⟨j,pv,st,h3,h4,h5⟩:=e4 r h
     exact ⟨j,pv,st,by omega,h4,h5⟩
    ·split at h
     ·rename_i hN
      exact ⟨i,p.1,p.2,ah1 _,hi,hcan,by rw [hp];exact hN,h⟩
     ·simp at h
end
end
section
open Go
def iA (o:Oper):List Nat:=(o.after.toList.filter (fun e=>Region.binds .any e)).map (·.on)
inductive I4 (ops:Array Oper):Nat → Nat → Prop
 | dir {i e:Nat} (h:i < ops.size) (he:e ∈ iA ops[i]):I4 ops e i
 | step {i e j:Nat} (h:i < ops.size) (he:e ∈ iA ops[i]) (hj:I4 ops j e):I4 ops j i
def isLt (g:G):Bool:=g.dst.isNone && g.gd.isNone && (match g.i with
 | .store _ _ _=>true
 | _=>false)
structure K4 (ops:Array Oper) (pre:List (G × List Nat)) (kZ:List Nat) (jA rest:List G):Prop where
 len:ops.size = pre.length + (jA.length + rest.length)
 lt:∀ i (h:i < ops.size),∀ e ∈ iA ops[i],e < i
 data:∀ i (h:i < pre.length) (h':i < ops.size),∀ s ∈ rd pre[i].1,∀ j (hj:j < pre.length),pre[j].1.dst = some s → j ∈ iA ops[i]
 dst:∀ i j (h:i < pre.length) (hj:j < pre.length),i ≠ j → ∀ s,pre[i].1.dst = some s → pre[j].1.dst ≠ some s
 cls:∀ i (h:i < pre.length),O7 pre[i].1.i = true ∨ (jL pre[i].1.i = true ∧ pre[i].1.gd = none)
 nk:∀ i j (h:i < pre.length) (hj:j < pre.length),i ≠ j → jL pre[i].1.i = true → dw (pre[i].1.dst.getD 999) ∈ pre[j].2 ∨ I4 ops i j
 tl:∀ k,pre.length ≤ k → k < ops.size → ∀ j,j < k → I4 ops j k ∨ (j < pre.length ∧ j ∈ kZ ∧ k < pre.length + jA.length)
 fl:∀ j ∈ kZ,∀ (h:j < pre.length),O7 pre[j].1.i = true
 lt':∀ g ∈ jA,isLt g = true
 ld:∀ m (h:m < jA.length) (h':pre.length + m < ops.size),∀ s ∈ rd jA[m],∀ j (hj:j < pre.length),pre[j].1.dst = some s → j ∈ iA ops[pre.length + m]
def Dn (l:Array Bool) (i:Nat):Prop:=l.getD i false = true
section
variable {P : Program} {Γ:Env} {aV:Nat → Prop} {w0 w w':World} {aU:List Nat} {N:Fr} {iy:Nat → Value} {σ σ':St} {a:Act} {X:Hx} {ops:Array Oper} {pre:List (G × List Nat)} {kZ:List Nat} {jA rest:List G} {l:Array Bool} {Q:Exit → Act → World → Prop}
def Down (ops:Array Oper) (l:Array Bool):Prop:=∀ i (h:i < ops.size),Dn l i → ∀ e ∈ iA ops[i],Dn l e
theorem Down.YL (hd:Down ops l) (hD:K4 ops pre kZ jA rest) {i j:Nat} (hb:I4 ops j i):(∀ (h:i < ops.size),∀ e ∈ iA ops[i],Dn l e) → Dn l j:=by
 induction hb with
 | dir h he=>intro hr;exact hr h _ he
 | step h he hj ih =>
  intro hr
  exact ih (fun h'=>hd _ h' (hr h _ he))
theorem fM {i:Nat} (hl:l.size = ops.size):i ∈ Region.ready .any ops l ↔ ∃ (h:i < ops.size),¬ Dn l i ∧ ∀ e ∈ iA ops[i],Dn l e:=by
 unfold Region.ready
 rw [ajs,aiA]
 constructor
 ·rintro ⟨h,hh⟩
  refine ⟨h,?_⟩
  rw [ah5,ait h] at hh
  simp only [Option.map_some,Option.getD_some] at hh
  refine ⟨fun hd=>?_,fun e he=>?_⟩
  ·have h1:=hh.1
   unfold Dn at hd
   rw [aiM,ait (by omega)] at hd h1
   simp only [Option.getD_some] at hd h1
   rw [hd] at h1;cases h1
  ·obtain ⟨x,hx,rfl⟩:=aiq.mp he
   obtain ⟨hx1,hx2⟩:=ajs.mp hx
   have:=(Array.all_eq_true_iff_forall_mem.mp hh.2) x (by simpa using hx1)
   rw [hx2] at this
   exact this
 ·rintro ⟨h,h1,h2⟩
  refine ⟨h,?_⟩
  rw [ah5,ait h]
  simp only [Option.map_some,Option.getD_some]
  constructor
  ·unfold Dn at h1
   rw [aiM,ait (by omega)] at h1 ⊢
   simp only [Option.getD_some] at h1 ⊢
   simpa using h1
  ·refine Array.all_eq_true_iff_forall_mem.mpr fun x hx=>?_
   cases hb:Region.binds .any x with
   | false=>rfl
   | true=>exact h2 x.on (aiq.mpr ⟨x,ajs.mpr ⟨by simpa using hx,hb⟩,rfl⟩)
theorem Dn.set {i j:Nat} (hi:i < l.size):Dn (l.setIfInBounds i true) j ↔ j = i ∨ Dn l j:=by
 unfold Dn
 rw [aiM,aiM,ai6]
 by_cases h:i = j
 ·subst h
  rw [ahX rfl,ahX hi]
  simp
 ·rw [ahY h]
  constructor
  ·exact fun hh=>.inr hh
  ·rintro (hh | hh)
   ·exact absurd hh.symm h
   ·exact hh
def left (l:Array Bool):Nat:=(l.toList.filter (!·)).length
theorem ng {i:Nat} (hi:i < l.size) (hn:¬ Dn l i):left (l.setIfInBounds i true) + 1 = left l:=by
 unfold left
 rw [Array.toList_setIfInBounds]
 have hv:l.toList[i]? = some false:=by
  unfold Dn at hn
  rw [aiM,ait hi] at hn
  simp only [Option.getD_some] at hn
  rw [ai7,ait hi]
  simpa using hn
 have key:∀ (l:List Bool) (i:Nat),l[i]? = some false → ((l.set i true).filter (!·)).length + 1 = (l.filter (!·)).length:=by
  intro l
  induction l with
  | nil=>intro i h;simp at h
  | cons b l ih =>
   intro i h
   cases i with
   | zero=>simp at h;subst h;simp
   | succ i =>
    have:=ih i (by simpa using h)
    cases b <;> simp_all
 exact key l.toList i hv
theorem oU (hd:Down ops l) {i:Nat} (hl:l.size = ops.size) (hi:i < ops.size) (hr:∀ e ∈ iA ops[i],Dn l e):Down ops (l.setIfInBounds i true):=by
 intro j hj hD e he
 rcases (Dn.set (by omega)).mp hD with rfl | hD
 ·exact (Dn.set (by omega)).mpr (.inr (hr e he))
 ·exact (Dn.set (by omega)).mpr (.inr (hd j hj hD e he))
theorem oV (hD:K4 ops pre kZ jA rest) (hl:l.size = ops.size) {i:Nat} (hi:i < ops.size) (hn:¬ Dn l i):Region.ready .any ops l ≠ []:=by
 have key:∀ (n i:Nat),i ≤ n → (hi:i < ops.size) → ¬ Dn l i → ∃ j,j ∈ Region.ready .any ops l:=by
  intro n
  induction n with
  | zero =>
   intro i h0 hi hn
   exact ⟨i,(fM hl).mpr ⟨hi,hn,fun e he=>by have:=hD.lt i hi e he;omega⟩⟩
  | succ n ih =>
   intro i h0 hi hn
   by_cases hall:∀ e ∈ iA ops[i],Dn l e
   ·exact ⟨i,(fM hl).mpr ⟨hi,hn,hall⟩⟩
   ·have:∃ e,e ∈ iA ops[i] ∧ ¬ Dn l e:=by
     apply aiK
     intro hc
     exact hall (fun e he=>aiK fun hne=>hc ⟨e,he,hne⟩)
    obtain ⟨e,he,hne⟩:=this
    have:=hD.lt i hi e he
    exact ih e (by omega) (by omega) hne
 obtain ⟨j,hj⟩:=key i i (ah1 _) hi hn
 intro e
 rw [e] at hj
 simp at hj
end
end
section
open Go
section
variable {P : Program} {Γ:Env} {aV:Nat → Prop} {w0 w w':World} {aU:List Nat} {N:Fr} {iy:Nat → Value} {σ σ':St} {a:Act} {X:Hx} {ops:Array Oper} {pre:List (G × List Nat)} {kZ:List Nat} {jA rest:List G} {l:Array Bool} {Q:Exit → Act → World → Prop}
theorem iE : ∀ {l:List Oper} {gs:List G},jG P X ops N.ok l = some gs → l.length = gs.length ∧ ∀ i (h:i < l.length) (h':i < gs.length),rW P X ops N.ok l[i] = some gs[i]
 | [],gs,h=>by cases h;exact ⟨rfl,fun i h=>by simp at h⟩
 | o :: l,gs,h=>by
  obtain ⟨g,h1,h2⟩:=zbm h
  obtain ⟨r,h3,rfl⟩:=zmm h2
  obtain ⟨e1,e2⟩:=iE h3
  refine ⟨by simp [e1],fun i hi hi'=>?_⟩
  cases i with
  | zero=>exact h1
  | succ i=>exact e2 i (by simpa using hi) (by simpa using hi')
theorem kE {fuel:Nat}:wpAny P .any ops Q (fuel + 1) l a w = ((Region.ready .any ops l = [] → Q .normal a w) ∧ ∀ i ∈ Region.ready .any ops l,wpOp P ops Q i (wpAny P .any ops Q fuel (l.setIfInBounds i true)) a w):=rfl
theorem UE (hD:K4 ops pre kZ jA rest) (heq:∀ t ∈ X.eqs,kL P t) (j6:gL P Γ) (hC:dG P Γ) (hc:jG P X ops N.ok ops.toList = some (pre.map (·.1) ++ (jA ++ rest))) (hQ:∀ a' w',Ok aV w0 aU N iy σ' a' w' → Q .normal a' w') :
  ∀ (fuel k:Nat) (l:Array Bool) (σ:St) (a:Act) (w:World),l.size = ops.size → pre.length + jA.length ≤ k → k ≤ ops.size → (∀ i,i < ops.size → (Dn l i ↔ i < k)) → Down ops l → left l ≤ fuel → Ok aV w0 aU N iy σ a w → vN Γ false (rest.drop (k - (pre.length + jA.length))) σ = some σ' → wpAny P .any ops Q fuel l a w:=by
 intro fuel
 have hcg:=iE hc
 have hlen:=hD.len
 have nil:∀ {k:Nat} {l:Array Bool},l.size = ops.size → k = ops.size → (∀ i,i < ops.size → (Dn l i ↔ i < k)) → Region.ready .any ops l = []:=by
  intro k l hl hk hd
  refine List.eq_nil_iff_forall_not_mem.mpr fun i hi=>?_
  obtain ⟨h1,h2,_⟩:=(fM hl).mp hi
  exact h2 ((hd i h1).mpr (by omega))
 have pos:∀ {k:Nat} {l:Array Bool},l.size = ops.size → k < ops.size → (∀ i,i < ops.size → (Dn l i ↔ i < k)) → 0 < left l:=by
  intro k l hl hk hd
  have:=ng (l:=l) (i:=k) (by omega) (fun h=>by have:=(hd k hk).mp h;omega)
  omega
 induction fuel with
 | zero =>
  intro k l σ a w hl h1 h2 hd hdn hf h hE
  by_cases hk:k = ops.size
  ·refine ⟨nil hl hk hd,?_⟩
   rw [List.drop_eq_nil_of_le (by omega)] at hE
   cases hE
   exact hQ a w h
  ·have:=pos hl (by omega) hd
   omega
 | succ fuel ih =>
  intro k l σ a w hl h1 h2 hd hdn hf h hE
  rw [kE]
  by_cases hk:k = ops.size
  ·have hn:=nil hl hk hd
   refine ⟨fun _=>?_,fun i hi=>by rw [hn] at hi;simp at hi⟩
   rw [List.drop_eq_nil_of_le (by omega)] at hE
   cases hE
   exact hQ a w h
  ·have hk':k < ops.size:=by omega
   have hnk:¬ Dn l k:=fun hh=>by have:=(hd k hk').mp hh;omega
   refine ⟨fun hn=>absurd hn (oV hD hl hk' hnk),fun i hi=>?_⟩
   obtain ⟨hi1,hi2,hi3⟩:=(fM hl).mp hi
   have hik:i = k:=by
    have hge:k ≤ i:=by
     apply aiK
     intro hlt
     exact hi2 ((hd i hi1).mpr (by omega))
    apply aiK
    intro hne
    rcases hD.tl i (by omega) hi1 k (by omega) with hb | ⟨_,_,hb⟩
    ·exact hnk (hdn.YL hD hb (fun _=>hi3))
    ·omega
   subst hik
   unfold wpOp
   rw [ait hi1]
   have ht:i - (pre.length + jA.length) < rest.length:=by omega
   rw [ajz ht] at hE
   obtain ⟨s,h4,h5⟩:=zbm hE
   have hg:=hcg.2 i (by simpa using hi1) (by simp;omega)
   rw [List.getElem_append_right (by simp;omega),List.getElem_append_right (by simp;omega)] at hg
   simp only [ahZ,Array.getElem_toList,Nat.sub_sub] at hg
   refine BG heq j6 hC hg h h4 fun a' w' h'=>?_
   refine ih (i + 1) _ s a' w' (by simp [hl]) (by omega) (by omega) (fun j hj=>?_) (oU hdn hl hi1 hi3) ?_ h' (by rw [show i + 1 - (pre.length + jA.length) = i - (pre.length + jA.length) + 1 from by omega];exact h5)
   ·rw [Dn.set (by omega)]
    rw [hd j hj]
    omega
   ·have:=ng (l:=l) (i:=i) (by omega) hnk
    omega
end
end
section
open Go
structure K5 (Γ:Env) (pre:List (G × List Nat)) (fB:St) (l:Array Bool) (σ:St):Prop where
 tg1:∀ i pv st (h:Can Γ fB.ob pre fB.tm i pv st),Dn l i → ∀ s,(pre[i]'h.lt).1.dst = some s → get σ.tm s = some pv
 tg2:∀ s,(∀ i (h:i < pre.length),Dn l i → pre[i].1.dst ≠ some s) → get σ.tm s = get fB.tm s
 ob1:∃ news,σ.ob = news ++ fB.ob ∧ ∀ p ∈ news,∃ i,∃ (h:i < pre.length),jL pre[i].1.i = true ∧ p.1 = dw (pre[i].1.dst.getD 999)
 ob2:∀ i pv st (h:Can Γ fB.ob pre fB.tm i pv st),Dn l i → jL (pre[i]'h.lt).1.i = true → ∀ p ∈ st.ob.take 1,p ∈ σ.ob
 fr:∀ i (h:i < pre.length),jL pre[i].1.i = true → ¬ Dn l i → fresh σ (dw (pre[i].1.dst.getD 999)) = true
section
variable {Γ : Env} {σ fB σ':St} {ops:Array Oper} {pre:List (G × List Nat)} {kZ:List Nat} {jA rest:List G} {l:Array Bool}
theorem Can.uniq {qG:List (Nat × Ob)} {zh:List (Nat × PV)} {i:Nat} {pv pv':PV} {s s':St} (h:Can Γ qG pre zh i pv s) (h':Can Γ qG pre zh i pv' s'):pv = pv' ∧ s = s':=by
 have:=h.ev.symm.trans h'.ev
 simp only [aie,ain] at this
 exact this
theorem oW {d:Option Nat} {tm:List (Nat × PV)} {v:PV} {s:Nat}:get (rJ d tm v) s = if d = some s then some v else get tm s:=by
 cases d with
 | none=>simp [rJ]
 | some d =>
  simp only [rJ,get_put,aie]
  by_cases h:s = d
  ·rw [ahX h,ahX h.symm]
  ·rw [ahY h,ahY (fun e=>h e.symm)]
theorem Dw {d:Option Nat} {tm:List (Nat × PV)} {v:PV} {p:Nat × PV} (h:p ∈ rJ d tm v):p.2 = v ∨ p ∈ tm:=by
 cases d with
 | none=>exact .inr h
 | some d =>
  rcases gT h with rfl | ⟨h,_⟩
  ·exact .inl rfl
  ·exact .inr h
theorem sG (hD:K4 ops pre kZ jA rest) (hall:∀ j,j < pre.length → ∃ pv st,Can Γ fB.ob pre fB.tm j pv st):∀ i,i ≤ pre.length →
  (∀ j pv st (h:Can Γ fB.ob pre fB.tm j pv st),j < i → ∀ s,(pre[j]'h.lt).1.dst = some s → get (iV Γ fB.ob pre fB.tm i) s = some pv) ∧
  (∀ s,(∀ j (h:j < pre.length),j < i → pre[j].1.dst ≠ some s) → get (iV Γ fB.ob pre fB.tm i) s = get fB.tm s) ∧
  ∀ p ∈ iV Γ fB.ob pre fB.tm i,p ∈ fB.tm ∨ ∃ j pv st,j < i ∧ Can Γ fB.ob pre fB.tm j pv st ∧ p.2 = pv
 | 0,_=>⟨fun j _ _ _ h=>by omega,fun s _=>rfl,fun p hp=>.inl hp⟩
 | i + 1,hi=>by
  obtain ⟨e1,e2,e3⟩:=sG hD hall i (by omega)
  obtain ⟨pv,st,hc⟩:=hall i (by omega)
  rw [hc.nx]
  refine ⟨fun j pv' st' h hj s hs=>?_,fun s hs=>?_,fun p hp=>?_⟩
  ·rw [oW]
   by_cases hji:j = i
   ·subst hji
    rw [ahX hs,(h.uniq hc).1]
   ·rw [ahY (hD.dst j i h.lt hc.lt hji s hs),e1 j pv' st' h (by omega) s hs]
  ·rw [oW,ahY (hs i hc.lt (by omega))]
   exact e2 s (fun j h hj=>hs j h (by omega))
  ·rcases Dw hp with h | h
   ·exact .inr ⟨i,pv,st,by omega,hc,h⟩
   ·rcases e3 p h with h | ⟨j,pv',st',h1,h2,h3⟩
    ·exact .inl h
    ·exact .inr ⟨j,pv',st',by omega,h2,h3⟩
theorem I4.lt (hD:K4 ops pre kZ jA rest) {i j:Nat} (h:I4 ops j i):j < i:=by
 induction h with
 | dir h he=>exact hD.lt _ h _ he
 | step h he hj ih=>have:=hD.lt _ h _ he;omega
theorem GZ {α:Type} {l m:List (Nat × α)} {k:Nat} (h:∀ p ∈ l,p.1 ≠ k):get (l ++ m) k = get m k:=by
 induction l with
 | nil=>rfl
 | cons p l ih =>
  obtain ⟨j,u⟩:=p
  rw [List.cons_append]
  conv=>lhs;unfold get
  rw [ahY (h _ ajh),ih (fun p hp=>h p (aiQ _ hp))]
theorem BH : ∀ {i:I},O7 i = true → jL i = true → False:=by
 intro i h1 h2
 cases i <;> simp [O7,jL] at h1 h2
theorem YM (hD:K4 ops pre kZ jA rest) (hall:∀ j,j < pre.length → ∃ pv st,Can Γ fB.ob pre fB.tm j pv st) (hfr:∀ i (h:i < pre.length),jL pre[i].1.i = true → fresh fB (dw (pre[i].1.dst.getD 999)) = true)
  (hI:K5 Γ pre fB l σ) (hl:l.size = ops.size) (hdn:Down ops l) {i:Nat} (hi:i < pre.length) (hi':i < ops.size) (hn:¬ Dn l i) (hr:∀ e ∈ iA ops[i],Dn l e) :
  ∃ pv σ1,lU Γ true σ pre[i].1 = some (pv,σ1) ∧ K5 Γ pre fB (l.setIfInBounds i true) (qA σ1 pre[i].1.dst pv):=by
 obtain ⟨pv,st,hc⟩:=hall i hi
 obtain ⟨c1,c2,c3⟩:=sG hD hall i (by omega)
 have hset:∀ {j},Dn (l.setIfInBounds i true) j ↔ j = i ∨ Dn l j:=fun {j}=>Dn.set (by omega)
 have hsame:Same (rd pre[i].1) ⟨iV Γ fB.ob pre fB.tm i,fB.ob⟩ σ:=by
  intro s hs
  by_cases hw:∃ j,∃ (h:j < pre.length),pre[j].1.dst = some s
  ·obtain ⟨j,hj,hjs⟩:=hw
   have hje:=hD.data i hi hi' s hs j hj hjs
   obtain ⟨pv',st',hc'⟩:=hall j hj
   rw [hI.tg1 j pv' st' hc' (hr j hje) s hjs,c1 j pv' st' hc' (hD.lt i hi' j hje) s hjs]
  ·have hw':∀ j (h:j < pre.length),pre[j].1.dst ≠ some s:=fun j h e=>hw ⟨j,h,e⟩
   rw [hI.tg2 s (fun j h _=>hw' j h),c2 s (fun j h _=>hw' j h)]
 have hnk:∀ j (h:j < pre.length),jL pre[j].1.i = true → ¬ Dn l j → j ≠ i → dw (pre[j].1.dst.getD 999) ∈ pre[i].2:=by
  intro j h hN hdj hji
  rcases hD.nk j i h hi hji hN with h1 | h1
  ·exact h1
  ·exact absurd (hdn.YL hD h1 (fun _=>hr)) hdj
 obtain ⟨news,ho1,ho2⟩:=hI.ob1
 have hkey:∀ k o,get fB.ob k = some o → get σ.ob k = some o:=by
  intro k o hk
  rw [ho1,GZ]
  ·exact hk
  ·intro p hp e
   obtain ⟨j,hj,hN,hpk⟩:=ho2 p hp
   have:=(jh.mp (hfr j hj hN)).1 _ (get_mem hk)
   exact this.1 (by show k = _;rw [← e,hpk])
 have fin:∀ (σ1:St) (new:List (Nat × Ob)),σ1.tm = σ.tm → σ1.ob = new ++ σ.ob → (∀ p ∈ new,jL pre[i].1.i = true ∧ p.1 = dw (pre[i].1.dst.getD 999)) → (jL pre[i].1.i = true → new = st.ob.take 1) → K5 Γ pre fB (l.setIfInBounds i true) (qA σ1 pre[i].1.dst pv):=by
  intro σ1 new ht fK hnew hst
  have Sd:(qA σ1 pre[i].1.dst pv).tm = rJ pre[i].1.dst σ.tm pv:=by
   unfold qA rJ
   cases pre[i].1.dst <;> simp [ht]
  have UF:(qA σ1 pre[i].1.dst pv).ob = new ++ σ.ob:=by
   unfold qA
   cases pre[i].1.dst <;> simp [fK]
  refine ⟨fun j pv' st' h hd s hs=>?_,fun s hs=>?_,⟨new ++ news,by rw [UF,ho1,aiP],fun p hp=>?_⟩,fun j pv' st' h hd hN p hp=>?_,fun j h hN hd=>?_⟩
  ·rw [Sd,oW]
   rcases hset.mp hd with rfl | hd
   ·rw [ahX hs,(h.uniq hc).1]
   ·have hji:j ≠ i:=fun e=>hn (e ▸ hd)
    rw [ahY (hD.dst j i h.lt hi hji s hs)]
    exact hI.tg1 j pv' st' h hd s hs
  ·rw [Sd,oW,ahY (hs i hi (hset.mpr (.inl rfl)))]
   exact hI.tg2 s (fun j h hd=>hs j h (hset.mpr (.inr hd)))
  ·rcases air.mp hp with hp | hp
   ·exact ⟨i,hi,hnew p hp⟩
   ·exact ho2 p hp
  ·rw [UF]
   rcases hset.mp hd with rfl | hd
   ·refine List.mem_append_left _ ?_
    rw [hst hN,(hc.uniq h).2];exact hp
   ·exact List.mem_append_right _ (hI.ob2 j pv' st' h hd hN p hp)
  ·have hji:j ≠ i:=fun e=>hd (hset.mpr (.inl e))
   have hdj:¬ Dn l j:=fun e=>hd (hset.mpr (.inr e))
   have hk:=hnk j h hN hdj hji
   obtain ⟨f1,f2⟩:=jh.mp (hI.fr j h hN hdj)
   obtain ⟨g1,g2⟩:=hc.nk _ hk
   refine jh.mpr ⟨fun p hp=>?_,fun p hp=>?_⟩
   ·rw [UF] at hp
    rcases air.mp hp with hp | hp
    ·have hNi:=(hnew p hp).1
     exact g2 hNi p (by rw [← hst hNi];exact hp)
    ·exact f1 p hp
   ·rw [Sd] at hp
    rcases Dw hp with h | h
    ·rw [h];exact g1
    ·exact f2 p h
 rcases hD.cls i hi with hV | ⟨hN,hgd⟩
 ·obtain ⟨e1,e2⟩:=sF hV hsame hkey hc.ev
  refine ⟨pv,σ,e2,fin σ [] rfl rfl (fun p hp=>by simp at hp) (fun hN=>?_)⟩
  exact (BH hV hN).elim
 ·have hfc:fresh ⟨iV Γ fB.ob pre fB.tm i,fB.ob⟩ (dw (pre[i].1.dst.getD 999)) = true:=by
   obtain ⟨f1,f2⟩:=jh.mp (hfr i hi hN)
   refine jh.mpr ⟨f1,fun p hp=>?_⟩
   rcases c3 p hp with h | ⟨j,pv',st',h1,h2,h3⟩
   ·exact f2 p h
   ·rcases hD.nk i j hi h2.lt (by omega) hN with h4 | h4
    ·rw [h3];exact (h2.nk _ h4).1
    ·have:=h4.lt hD;omega
  obtain ⟨o,e1,e2⟩:=K3 hN hgd hsame hfc (hI.fr i hi hN hn) hc.ev
  refine ⟨pv,_,e2,fin _ [(dw (pre[i].1.dst.getD 999),o)] rfl rfl (fun p hp=>by simp at hp;exact ⟨hN,by rw [hp]⟩) (fun _=>by rw [e1];rfl)⟩
end
end
section
open Go
section
variable {P : Program} {Γ:Env} {aV:Nat → Prop} {w0 w w':World} {aU:List Nat} {N:Fr} {d:Nat} {iy:Nat → Value} {σ fB σ':St} {a:Act} {X:Hx} {ops:Array Oper} {pre:List (G × List Nat)} {kZ:List Nat} {jA rest:List G} {l:Array Bool} {Q:Exit → Act → World → Prop} {pv:PV}
theorem UG {tm tm2:List (Nat × PV)} {ob:List (Nat × Ob)} {n key off:Nat} {x y:dF} {s:St} (hv:val ⟨tm,ob⟩ x = some (.one (.ptr key off))) (hE:bW Γ true ⟨tm,ob⟩ d (.store n x y) = some (pv,s)) :
  s.tm = tm ∧ (Same (mJ (.store n x y)) ⟨tm,ob⟩ ⟨tm2,ob⟩ → ∀ q d,bW Γ q ⟨tm2,ob⟩ d (.store n x y) = some (pv,⟨tm2,s.ob⟩)) ∧ ∀ k o,k ≠ key → get ob k = some o → get s.ob k = some o:=by
 simp only [bW] at hE
 rw [hv] at hE
 simp only [Option.bind_some] at hE
 obtain ⟨u,h1,h2⟩:=zbm hE
 split at h2
 ·rename_i hc
  split at h2
  ·rename_i xs fK
   obtain ⟨l,h3,h4⟩:=zmm h2
   cases h4
   refine ⟨rfl,fun hs q d=>?_,fun k o hk hg=>?_⟩
   ·simp only [bW]
    simp only [mJ] at hs
    rw [hs.l.val,hv,Option.bind_some,hs.r.val,h1,Option.bind_some,ahX hc]
    simp only [fK]
    simp only [h3,Option.map_some,iY]
   ·simp only [iY,get_put,ahY hk]
    exact hg
  ·cases h2
 ·cases h2
theorem UH {tm:List (Nat × PV)} {ob ob':List (Nat × Ob)} {x:dF}:val ⟨tm,ob⟩ x = val ⟨tm,ob'⟩ x:=by
 cases x <;> rfl
theorem get_filter {α:Type} {l:List (Nat × α)} {p:Nat → Bool} {k:Nat} {o:α} (h:get (l.filter fun x=>p x.1) k = some o):p k = true ∧ get l k = some o:=by
 induction l with
 | nil=>cases h
 | cons q l ih =>
  obtain ⟨j,u⟩:=q
  rw [List.filter_cons] at h
  by_cases hp:p j = true
  ·rw [ahX hp] at h
   unfold get at h ⊢
   by_cases hj:j = k
   ·rw [ahX hj] at h ⊢
    exact ⟨hj ▸ hp,h⟩
   ·rw [ahY hj] at h ⊢
    exact ih h
  ·rw [ahY hp] at h
   obtain ⟨h1,h2⟩:=ih h
   refine ⟨h1,?_⟩
   unfold get
   rw [ahY (by intro e;subst e;exact hp h1)]
   exact h2
theorem Ok.less (h:Ok aV w0 aU N iy σ a w) (ht:∀ p ∈ σ'.tm,p ∈ σ.tm) (ho:∀ p ∈ σ'.ob,p ∈ σ.ob):Ok aV w0 aU N iy σ' a w:=by
 obtain ⟨Fz,κ,hr,hk⟩:=h
 exact ⟨Fz,κ,hr.less ht ho,hk⟩
def Vis (pre:List (G × List Nat)) (l:Array Bool) (s:Nat):Prop:=∀ j (h:j < pre.length),¬ Dn l j → pre[j].1.dst ≠ some s
theorem UJ (hD:K4 ops pre kZ jA rest) (heq:∀ t ∈ X.eqs,kL P t) (j6:gL P Γ) (hC:dG P Γ) (hc:jG P X ops N.ok ops.toList = some (pre.map (·.1) ++ (jA ++ rest))) (hQ:∀ a' w',Ok aV w0 aU N iy σ' a' w' → Q .normal a' w')
  {tm:List (Nat × PV)} {obS O9:List (Nat × Ob)} (Sd:∀ p ∈ tm,get tm p.1 = some p.2)
  (hpv:∀ j (h:j < pre.length),j ∈ kZ → ∃ pv s,lU Γ true ⟨tm,obS.filter (fun p=>!(jA.flatMap (rM tm)).contains p.1)⟩ pre[j].1 = some (pv,s) ∧ ∀ s,pre[j].1.dst = some s → get tm s = some pv)
  (hE:vN Γ false rest ⟨tm,O9⟩ = some σ') :
  ∀ (fuel m:Nat) (l:Array Bool) (Dx:List (Nat × PV)) (ob:List (Nat × Ob)) (a:Act) (w:World),l.size = ops.size → m ≤ jA.length → (∀ i,i < ops.size → pre.length ≤ i → (Dn l i ↔ i < pre.length + m)) → (∀ j,j < pre.length → j ∉ kZ → Dn l j) → Down ops l → left l ≤ fuel →
   Ko Γ tm (jA.drop m) ob = some O9 → (∀ k o,(jA.flatMap (rM tm)).contains k = false → get obS k = some o → get ob k = some o) → (∀ s,Vis pre l s → get Dx s = get tm s) → Ok aV w0 aU N iy ⟨Dx,ob⟩ a w → wpAny P .any ops Q fuel l a w:=by
 intro fuel
 have hcg:=iE hc
 have hlen:=hD.len
 have over:∀ (fuel m:Nat) (l:Array Bool) (Dx:List (Nat × PV)) (ob:List (Nat × Ob)) (a:Act) (w:World),l.size = ops.size → m = jA.length → (∀ i,i < ops.size → pre.length ≤ i → (Dn l i ↔ i < pre.length + m)) → (∀ j,j < pre.length → Dn l j) → Down ops l → left l ≤ fuel →
   Ko Γ tm (jA.drop m) ob = some O9 → (∀ s,Vis pre l s → get Dx s = get tm s) → Ok aV w0 aU N iy ⟨Dx,ob⟩ a w → wpAny P .any ops Q fuel l a w:=by
  intro fuel m l Dx ob a w hl hm hd hall hdn hf hL hv h
  subst hm
  rw [List.drop_of_length_le (ah1 _)] at hL
  cases hL
  refine UE hD heq j6 hC hc hQ fuel (pre.length + jA.length) l ⟨tm,O9⟩ a w hl (ah1 _) (by omega) (fun i hi=>?_) hdn hf (h.less (fun p hp=>?_) (fun _ hp=>hp)) (by rw [Nat.sub_self,ai9];exact hE)
  ·by_cases hi':i < pre.length
   ·exact ⟨fun _=>by omega,fun _=>hall i hi'⟩
   ·exact hd i hi (by omega)
  ·have:=hv p.1 (fun j hj hnd=>absurd (hall j hj) hnd)
   rw [Sd p hp] at this
   exact get_mem this
 induction fuel with
 | zero =>
  intro m l Dx ob a w hl hm hd hfl hdn hf hL fK hv h
  have hdone:∀ i,i < ops.size → Dn l i:=by
   intro i hi
   apply aiK
   intro hn
   have:=ng (l:=l) (i:=i) (by omega) hn
   omega
  refine over 0 m l Dx ob a w hl ?_ hd (fun j hj=>hdone j (by omega)) hdn hf hL hv h
  apply aiK
  intro hne
  have:=(hd (pre.length + m) (by omega) (by omega)).mp (hdone _ (by omega))
  omega
 | succ fuel ih =>
  intro m l Dx ob a w hl hm hd hfl hdn hf hL fK hv h
  by_cases hfin:m = jA.length ∧ ∀ j,j < pre.length → Dn l j
  ·exact over (fuel + 1) m l Dx ob a w hl hfin.1 hd hfin.2 hdn hf hL hv h
  ·have hex:∃ i,i < pre.length + jA.length ∧ i < ops.size ∧ ¬ Dn l i:=by
    apply aiK
    intro hno
    have hall:∀ i,i < pre.length + jA.length → i < ops.size → Dn l i:=fun i h1 h2=>aiK fun hn=>hno ⟨i,h1,h2,hn⟩
    refine hfin ⟨?_,fun j hj=>hall j (by omega) (by omega)⟩
    apply aiK
    intro hne
    have:=(hd (pre.length + m) (by omega) (by omega)).mp (hall _ (by omega) (by omega))
    omega
   obtain ⟨i0,hi0,adX,hn0⟩:=hex
   rw [kE]
   refine ⟨fun hn=>absurd hn (oV hD hl adX hn0),fun i hi=>?_⟩
   obtain ⟨hi1,hi2,hi3⟩:=(fM hl).mp hi
   have hset:∀ {j},Dn (l.setIfInBounds i true) j ↔ j = i ∨ Dn l j:=fun {j}=>Dn.set (by omega)
   have hleft:=ng (l:=l) (i:=i) (by omega) hi2
   unfold wpOp
   rw [ait hi1]
   have hg:=hcg.2 i (by simpa using hi1) (by simp;omega)
   by_cases UK:i < pre.length
   ·
    have hif:i ∈ kZ:=aiK fun hn=>hi2 (hfl i UK hn)
    rw [List.getElem_append_left (by simpa using UK)] at hg
    simp only [ajd,Array.getElem_toList] at hg
    obtain ⟨pv,s,h1,h2⟩:=hpv i UK hif
    have hsame:Same (rd pre[i].1) ⟨tm,obS.filter (fun p=>!(jA.flatMap (rM tm)).contains p.1)⟩ ⟨Dx,ob⟩:=fun s hs=>hv s (fun j hj hnd he=>hnd (hi3 j (hD.data i UK hi1 s hs j hj he)))
    obtain ⟨e1,e2⟩:=sF (σ2:=⟨Dx,ob⟩) (hD.fl i hif UK) hsame (fun k o hk=>by
     obtain ⟨g1,g2⟩:=get_filter (p:=fun k=>!(jA.flatMap (rM tm)).contains k) hk
     exact fK k o (by simpa using g1) g2) h1
    refine wo heq j6 hC hg h e2 fun a' w' h'=>?_
    refine ih m _ (rJ pre[i].1.dst Dx pv) ob a' w' (by simp [hl]) hm (fun j hj hj'=>?_) (fun j hj hjf=>hset.mpr (.inr (hfl j hj hjf))) (oU hdn hl hi1 hi3) (by omega) hL fK (fun s hs=>?_) ?_
    ·rw [hset,hd j hj hj']
     omega
    ·rw [oW]
     split
     ·rename_i he
      exact (h2 s he).symm
     ·rename_i he
      refine hv s (fun j hj hnd hjs=>?_)
      by_cases hji:j = i
      ·subst hji;exact he hjs
      ·exact hs j hj (fun hdj=>by rcases hset.mp hdj with h | h;exact hji h;exact hnd h) hjs
    ·cases hdst:pre[i].1.dst with
     | none=>rw [hdst] at h';exact h'
     | some s=>rw [hdst] at h';exact h'
   ·
    have him:i = pre.length + m ∧ m < jA.length:=by
     have hge:pre.length + m ≤ i:=by
      apply aiK
      intro hlt
      exact hi2 ((hd i hi1 (by omega)).mpr (by omega))
     have hlt':i < pre.length + jA.length:=by
      apply aiK
      intro hnl
      rcases hD.tl i (by omega) hi1 i0 (by omega) with hb | ⟨_,_,hb⟩
      ·exact hn0 (hdn.YL hD hb (fun _=>hi3))
      ·omega
     refine ⟨?_,by omega⟩
     apply aiK
     intro hne
     have hnm:¬ Dn l (pre.length + m):=fun hh=>by have:=(hd (pre.length + m) (by omega) (by omega)).mp hh;omega
     rcases hD.tl i (by omega) hi1 (pre.length + m) (by omega) with hb | ⟨hb,_,_⟩
     ·exact hnm (hdn.YL hD hb (fun _=>hi3))
     ·omega
    obtain ⟨rfl,hml⟩:=him
    rw [List.getElem_append_right (by simp),List.getElem_append_left (by simpa using hml)] at hg
    simp only [ahZ,Array.getElem_toList,Nat.add_sub_cancel_left] at hg
    rw [ajz hml] at hL
    have hlg:=hD.lt' _ (List.getElem_mem hml)
    have hld:=hD.ld m hml hi1
    have hkey:∀ k,k ∈ rM tm jA[m] → (jA.flatMap (rM tm)).contains k = true:=fun k hk=>by
     rw [List.contains_iff_mem]
     exact List.mem_flatMap.mpr ⟨_,List.getElem_mem hml,hk⟩
    generalize jA[m] = g at hg hL hlg hld hkey
    obtain ⟨gd,gg,gi⟩:=g
    unfold isLt at hlg
    simp only [ah5] at hlg
    obtain ⟨⟨hl1,hl2⟩,hl3⟩:=hlg
    have hgd:gd = none:=by cases gd <;> simp_all
    have hgg:gg = none:=by cases gg <;> simp_all
    subst hgd
    subst hgg
    cases gi with
    | store n x y =>
     simp only [Ko] at hL
     split at hL
     ·rename_i key off hval
      obtain ⟨p,h1,h2⟩:=zbm hL
      obtain ⟨pv,s⟩:=p
      have hsame:Same (mJ (.store n x y)) ⟨tm,ob⟩ ⟨Dx,ob⟩:=fun s hs=>hv s (fun j hj hnd he=>hnd (hi3 j (hld s (by unfold rd;exact List.mem_append_left _ hs) j hj he)))
      obtain ⟨e1,e2,e3⟩:=UG (tm2:=Dx) hval h1
      have e2':=e2 hsame true 999
      refine wo (q:=true) (pv:=pv) (σ':=⟨Dx,s.ob⟩) heq j6 hC hg h (by simp only [lU,y7,Option.bind_some,aiu];exact e2') fun a' w' h'=>?_
      refine ih (m + 1) _ Dx s.ob a' w' (by simp [hl]) (by omega) (fun j hj hj'=>?_) (fun j hj hjf=>hset.mpr (.inr (hfl j hj hjf))) (oU hdn hl hi1 hi3) (by omega) h2 (fun k o hk hg'=>?_) (fun s hs=>hv s (fun j hj hnd=>hs j hj (fun hdj=>by rcases hset.mp hdj with h | h;omega;exact hnd h))) h'
      ·rw [hset,hd j hj hj']
       omega
      ·refine e3 k o (fun e=>?_) (fK k o hk hg')
       subst e
       have hv0:val ⟨tm,[]⟩ x = some (.one (.ptr k off)):=(UH (ob':=ob)).trans hval
       have:=hkey k (by simp only [rM,hv0,aiR])
       rw [this] at hk;cases hk
     ·cases hL
    | _=>simp at hl3
end
end
section
open Go
section
variable {P : Program} {Γ:Env} {aV:Nat → Prop} {w0 w w':World} {aU:List Nat} {N:Fr} {iy:Nat → Value} {σ fB σ':St} {a:Act} {X:Hx} {ops:Array Oper} {pre:List (G × List Nat)} {kZ:List Nat} {jA rest:List G} {l:Array Bool} {Q:Exit → Act → World → Prop}
theorem BI {α:Type} {ks:List Nat} {l:List (Nat × α)} {p:Nat × α} (h:p ∈ pick ks l):get l p.1 = some p.2:=by
 unfold pick at h
 obtain ⟨i,_,h2⟩:=List.mem_filterMap.mp h
 obtain ⟨v,h3,h4⟩:=zmm h2
 subst h4
 exact h3
theorem Dy {α:Type} {l:List (Nat × α)} {s:Nat}:∀ {ks:List Nat},get (pick ks l) s = if s ∈ ks then get l s else none
 | []=>rfl
 | k :: ks=>by
  have ih:=Dy (l:=l) (s:=s) (ks:=ks)
  unfold pick at ih ⊢
  rw [List.filterMap_cons]
  cases hg:get l k with
  | none =>
   simp only [Option.map_none]
   rw [ih]
   by_cases hk:s = k
   ·subst hk;simp [hg]
   ·simp [hk]
  | some v =>
   simp only [Option.map_some]
   conv=>lhs;unfold get
   by_cases hk:k = s
   ·subst hk;simp [hg]
   ·rw [ahY hk,ih]
    have:¬ s = k:=fun e=>hk e.symm
    simp [this]
theorem get_none {α:Type} {l:List (Nat × α)} {s:Nat} (h:s ∉ l.map (·.1)):get l s = none:=by
 cases hg:get l s with
 | none=>rfl
 | some v=>exact absurd (aiq.mpr ⟨_,get_mem hg,rfl⟩) h
theorem Pb {α:Type} {l:List (Nat × α)} {s:Nat}:get (pick (l.map (·.1)) l) s = get l s:=by
 rw [Dy]
 split
 ·rfl
 ·rename_i h;exact (get_none h).symm
theorem adY (hD:K4 ops pre kZ jA rest) (hall:∀ j,j < pre.length → ∃ pv st,Can Γ fB.ob pre fB.tm j pv st) (hfr:∀ i (h:i < pre.length),jL pre[i].1.i = true → fresh fB (dw (pre[i].1.dst.getD 999)) = true)
  {i:Nat} {pv:PV} {st:St} (hc:Can Γ fB.ob pre fB.tm i pv st) (hN:jL (pre[i]'hc.lt).1.i = true):∀ p ∈ st.ob.take 1,p.1 = dw ((pre[i]'hc.lt).1.dst.getD 999):=by
 have hi:=hc.lt
 obtain ⟨c1,c2,c3⟩:=sG hD hall i (by omega)
 have hgd:pre[i].1.gd = none:=by
  rcases hD.cls i hi with h | h
  ·exact (BH h hN).elim
  ·exact h.2
 have hfc:fresh ⟨iV Γ fB.ob pre fB.tm i,fB.ob⟩ (dw (pre[i].1.dst.getD 999)) = true:=by
  obtain ⟨f1,f2⟩:=jh.mp (hfr i hi hN)
  refine jh.mpr ⟨f1,fun p hp=>?_⟩
  rcases c3 p hp with h | ⟨j,pv',st',h1,h2,h3⟩
  ·exact f2 p h
  ·rcases hD.nk i j hi h2.lt (by omega) hN with h4 | h4
   ·rw [h3];exact (h2.nk _ h4).1
   ·have:=h4.lt hD;omega
 obtain ⟨o,e1,_⟩:=K3 (σ2:=⟨iV Γ fB.ob pre fB.tm i,fB.ob⟩) hN hgd (fun _ _=>rfl) hfc hfc hc.ev
 intro p hp
 rw [e1] at hp
 simp at hp
 rw [hp]
theorem UL (hD:K4 ops pre kZ jA rest) (heq:∀ t ∈ X.eqs,kL P t) (j6:gL P Γ) (hC:dG P Γ) (hc:jG P X ops N.ok ops.toList = some (pre.map (·.1) ++ (jA ++ rest))) (hQ:∀ a' w',Ok aV w0 aU N iy σ' a' w' → Q .normal a' w')
  (hall:∀ j,j < pre.length → ∃ pv st,Can Γ fB.ob pre fB.tm j pv st) (hfr:∀ i (h:i < pre.length),jL pre[i].1.i = true → fresh fB (dw (pre[i].1.dst.getD 999)) = true)
  {tm:List (Nat × PV)} {sob O9 news':List (Nat × Ob)} (Sd:tm = pick ((iV Γ fB.ob pre fB.tm pre.length).map (·.1)) (iV Γ fB.ob pre fB.tm pre.length))
  (YN:sob = news' ++ fB.ob) (hnews:∀ p ∈ news',∃ j pv st,∃ (h:Can Γ fB.ob pre fB.tm j pv st),jL (pre[j]'h.lt).1.i = true ∧ p ∈ st.ob.take 1)
  (Pf:kZ.all (fun j=>(lU Γ true ⟨tm,fB.ob.filter (fun p=>!(jA.flatMap (rM tm)).contains p.1)⟩ (pre.getD j default).1).isSome) = true)
  (hL:Ko Γ tm jA sob = some O9) (hE:vN Γ false rest ⟨tm,O9⟩ = some σ') :
  ∀ (fuel:Nat) (l:Array Bool) (σ:St) (a:Act) (w:World),l.size = ops.size → (∀ i,pre.length ≤ i → ¬ Dn l i) → Down ops l → left l ≤ fuel → Ok aV w0 aU N iy σ a w → K5 Γ pre fB l σ → wpAny P .any ops Q fuel l a w:=by
 intro fuel
 have hcg:=iE hc
 have hlen:=hD.len
 obtain ⟨c1,c2,c3⟩:=sG (Γ:=Γ) hD hall pre.length (ah1 _)
 have htg:∀ s,get tm s = get (iV Γ fB.ob pre fB.tm pre.length) s:=fun s=>by rw [Sd];exact Pb
 have adZ:∀ p ∈ tm,get tm p.1 = some p.2:=fun p hp=>by
  rw [htg]
  rw [Sd] at hp
  exact BI hp
 have hpv:∀ j (h:j < pre.length),j ∈ kZ → ∃ pv s,lU Γ true ⟨tm,fB.ob.filter (fun p=>!(jA.flatMap (rM tm)).contains p.1)⟩ pre[j].1 = some (pv,s) ∧ ∀ s,pre[j].1.dst = some s → get tm s = some pv:=by
  intro j h hj
  have h1:=aib.mp Pf j hj
  rw [aix,aic h,Option.getD_some] at h1
  obtain ⟨q,hq⟩:=ajl.mp h1
  obtain ⟨pv',s'⟩:=q
  refine ⟨pv',s',hq,fun s hs=>?_⟩
  obtain ⟨pv,st,hcj⟩:=hall j h
  obtain ⟨d1,d2,d3⟩:=sG (Γ:=Γ) hD hall j (by omega)
  have hV:=hD.fl j hj h
  obtain ⟨_,g1⟩:=sF (σ:=⟨tm,fB.ob.filter (fun p=>!(jA.flatMap (rM tm)).contains p.1)⟩) (σ2:=⟨tm,fB.ob⟩) hV (fun _ _=>rfl) (fun k o hk=>(get_filter (p:=fun k=>!(jA.flatMap (rM tm)).contains k) hk).2) hq
  have hsame:Same (rd pre[j].1) ⟨iV Γ fB.ob pre fB.tm j,fB.ob⟩ ⟨tm,fB.ob⟩:=by
   intro s hs
   show get tm s = get (iV Γ fB.ob pre fB.tm j) s
   rw [htg]
   by_cases hw:∃ i,∃ (hi:i < pre.length),pre[i].1.dst = some s
   ·obtain ⟨i,hi,his⟩:=hw
    have hie:=hD.data j h (by omega) s hs i hi his
    obtain ⟨pv',st',hc'⟩:=hall i hi
    rw [c1 i pv' st' hc' hi s his,d1 i pv' st' hc' (hD.lt j (by omega) i hie) s his]
   ·have hw':∀ i (h:i < pre.length),pre[i].1.dst ≠ some s:=fun i h e=>hw ⟨i,h,e⟩
    rw [c2 s (fun i h _=>hw' i h),d2 s (fun i h _=>hw' i h)]
  obtain ⟨_,g2⟩:=sF (σ2:=⟨tm,fB.ob⟩) hV hsame (fun k o hk=>hk) hcj.ev
  rw [g1] at g2
  simp only [aie,ain] at g2
  rw [htg,c1 j pv st hcj h s hs,g2.1]
 have over:∀ (fuel:Nat) (l:Array Bool) (σ:St) (a:Act) (w:World),l.size = ops.size → (∀ i,pre.length ≤ i → ¬ Dn l i) → Down ops l → left l ≤ fuel → Ok aV w0 aU N iy σ a w → K5 Γ pre fB l σ → (∀ i,i < pre.length → i ∉ kZ → Dn l i) → wpAny P .any ops Q fuel l a w:=by
  intro fuel l σ a w hl hno hdn hf h hI hdone
  refine UJ (tm:=tm) (obS:=fB.ob) (O9:=O9) hD heq j6 hC hc hQ adZ hpv hE fuel 0 l σ.tm sob a w hl (aiy _) (fun i hi UK=>⟨fun hd=>absurd hd (hno i UK),fun hd=>by omega⟩) hdone hdn hf (by rw [ai9];exact hL) (fun k o _ hk=>?_) (fun s hs=>?_) (h.less (fun _ hp=>hp) (fun p hp=>?_))
  ·rw [YN,GZ]
   ·exact hk
   ·intro p hp e
    obtain ⟨j,pv,st,hcj,hN,hpt⟩:=hnews p hp
    have hk':=adY hD hall hfr hcj hN p hpt
    have:=(jh.mp (hfr j hcj.lt hN)).1 _ (get_mem hk)
    exact this.1 (by show k = _;rw [← e,hk'])
  ·rw [htg]
   by_cases hw:∃ j,∃ (h:j < pre.length),pre[j].1.dst = some s
   ·obtain ⟨j,hj,hjs⟩:=hw
    obtain ⟨pv,st,hcj⟩:=hall j hj
    have hdj:Dn l j:=aiK fun hn=>hs j hj hn hjs
    rw [c1 j pv st hcj hj s hjs]
    exact hI.tg1 j pv st hcj hdj s hjs
   ·have hw':∀ j (h:j < pre.length),pre[j].1.dst ≠ some s:=fun j h e=>hw ⟨j,h,e⟩
    rw [c2 s (fun j h _=>hw' j h)]
    exact hI.tg2 s (fun j h _=>hw' j h)
  ·rw [YN] at hp
   rcases air.mp hp with hp | hp
   ·obtain ⟨j,pv,st,hcj,hN,hpt⟩:=hnews p hp
    refine hI.ob2 j pv st hcj (hdone j hcj.lt (fun hj=>?_)) hN p hpt
    exact BH (hD.fl j hj hcj.lt) hN
   ·obtain ⟨news,ho,_⟩:=hI.ob1
    rw [ho]
    exact List.mem_append_right _ hp
 induction fuel with
 | zero =>
  intro l σ a w hl hno hdn hf h hI
  refine over 0 l σ a w hl hno hdn hf h hI fun i hi _=>?_
  apply aiK
  intro hn
  have:=ng (l:=l) (i:=i) (by omega) hn
  omega
 | succ fuel ih =>
  intro l σ a w hl hno hdn hf h hI
  by_cases hdone:∀ i,i < pre.length → i ∉ kZ → Dn l i
  ·exact over (fuel + 1) l σ a w hl hno hdn hf h hI hdone
  ·have:∃ i,i < pre.length ∧ i ∉ kZ ∧ ¬ Dn l i:=by
    apply aiK
    intro hc
    exact hdone fun i hi hif=>aiK fun hn=>hc ⟨i,hi,hif,hn⟩
   obtain ⟨i0,hi0,ad1,hn0⟩:=this
   rw [kE]
   refine ⟨fun hn=>absurd hn (oV hD hl (by omega) hn0),fun i hi=>?_⟩
   obtain ⟨hi1,hi2,hi3⟩:=(fM hl).mp hi
   have him:i < pre.length:=by
    apply aiK
    intro hge
    rcases hD.tl i (by omega) hi1 i0 (by omega) with hb | ⟨_,hb,_⟩
    ·exact hn0 (hdn.YL hD hb (fun _=>hi3))
    ·exact ad1 hb
   obtain ⟨pv,σ1,h1,h2⟩:=YM hD hall hfr hI hl hdn him hi1 hi2 hi3
   unfold wpOp
   rw [ait hi1]
   have hg:=hcg.2 i (by simpa using hi1) (by simp;omega)
   rw [List.getElem_append_left (by simpa using him)] at hg
   simp only [ajd,Array.getElem_toList] at hg
   refine wo heq j6 hC hg h h1 fun a' w' h'=>?_
   refine ih _ _ a' w' (by simp [hl]) (fun j hj hd=>?_) (oU hdn hl hi1 hi3) ?_ h' h2
   ·rcases (Dn.set (by omega)).mp hd with rfl | hd
    ·omega
    ·exact hno j hj hd
   ·have:=ng (l:=l) (i:=i) (by omega) hi2
    omega
theorem UM {id:Nat} (hm:P.follows .mixedOrders = true) (hD:K4 ops pre kZ jA rest) (heq:∀ t ∈ X.eqs,kL P t) (j6:gL P Γ) (hC:dG P Γ) (hc:jG P X ops N.ok ops.toList = some (pre.map (·.1) ++ (jA ++ rest))) (h:Ok aV w0 aU N iy σ a w) (hE:Xd Γ pre kZ jA rest σ = some σ')
  (hQ:∀ a' w',Ok aV w0 aU N iy σ' a' w' → Q .normal a' w'):(Code.region id ops true).wp P Q a w:=by
 refine wp_region_any hm ?_
 unfold Xd at hE
 split at hE
 ·rename_i hfr
  obtain ⟨s,h1,h2⟩:=zbm hE
  split at h2
  ·rename_i Pf
   obtain ⟨ob,h3,h4⟩:=zbm h2
   obtain ⟨e1,e2,news,e3,e4⟩:=Dv (Γ:=Γ) (qG:=σ.ob) (pre:=pre) (zh:=σ.tm) pre.length 0 σ.ob s (by omega) (by rw [ai9];exact h1)
   have hall:∀ j,j < pre.length → ∃ pv st,Can Γ σ.ob pre σ.tm j pv st:=fun j hj=>e1 j (by omega) hj
   have YO:∀ i (h:i < pre.length),jL pre[i].1.i = true → fresh σ (dw (pre[i].1.dst.getD 999)) = true:=by
    intro i hi hN
    have:=aib.mp hfr pre[i] (List.getElem_mem hi)
    rw [hN] at this
    exact this
   have hoff:∀ i,¬ Dn (Array.replicate ops.size false) i:=by
    intro i hd
    unfold Dn at hd
    rw [aiM,Array.getElem?_replicate] at hd
    split at hd <;> simp at hd
   rw [e2] at Pf h3 h4
   refine UL (fB:=σ) hD heq j6 hC hc hQ hall YO rfl e3 (fun p hp=>?_) Pf h3 h4 ops.size _ σ a _ (by simp) (fun i _=>hoff i) (fun i hi hd=>absurd hd (hoff i)) ?_ ?_ ⟨fun i pv st h hd=>absurd hd (hoff i),fun s _=>rfl,⟨[],rfl,fun p hp=>by simp at hp⟩,fun i pv st h hd=>absurd hd (hoff i),fun i hi hN _=>YO i hi hN⟩
   ·obtain ⟨j,pv,st,_,_,h5,h6,h7⟩:=e4 p hp
    exact ⟨j,pv,st,h5,h6,h7⟩
   ·unfold left
    exact aij (List.length_filter_le _ _) (by simp)
   ·obtain ⟨Fz,κ,hr,hk⟩:=h
    exact ⟨Fz,κ,hr.grow (w':={ w with drawn:=w.drawn + 1 }) (ah1 _) (fun _ _=>rfl) ⟨rfl,rfl⟩,hk⟩
  ·cases h2
 ·cases hE
end
end
section
open Go
def Ext (w w':World):Prop:=w.heap.size ≤ w'.heap.size ∧ ∀ b,b < w.heap.size → w'.heap[b]? = w.heap[b]?
theorem Ext.refl (w:World):Ext w w:=⟨ah1 _,fun _ _=>rfl⟩
theorem Ext.trans {w w1 w2:World} (h:Ext w w1) (h':Ext w1 w2):Ext w w2:=⟨aij h.1 h'.1,fun b hb=>(h'.2 b (aiz hb h.1)).trans (h.2 b hb)⟩
theorem Ext.cell {w w':World} (h:Ext w w') {b o:Nat} {v:Value} (hc:w.cell? ⟨b,o,none⟩ = some v):w'.cell? ⟨b,o,none⟩ = some v:=by
 have hb:b < w.heap.size:=by
  apply aiK
  intro hn
  have:w.heap[b]? = none:=aja (by omega)
  simp [World.cell?,this] at hc
 rw [cell_of (h.2 b hb),hc]
section
variable {P : Program} {Γ:Env} {aV Fz:Nat → Prop} {w0 w:World} {aU:List Nat} {N:Fr} {d:Nat} {q:Bool} {κ:Nat → Value} {σ σ':St} {a:Act} {pv:PV} {o:Oper}
theorem oZ {t:TypeId} {g:Bool} {n b o:Nat} {xs:List PL} {vs:List Value} {u:CV} (hg:uj P t = some g) (hn:kC P t = some n) (hx:aM Fz κ w xs vs) (hc:∀ j v,vs[j]? = some v → w.cell? ⟨b,o + j,none⟩ = some v)
  (hl:vs.length = if g then n else 1) (hm:mk g xs = some u):∃ v,(∀ w',Ext w w' → (loadVar t ⟨b,o,none⟩).run P w' = .ok v w') ∧ fJ Fz κ w u v:=by
 unfold loadVar
 cases g with
 | true =>
  cases hm
  refine ⟨.agg vs.toArray,fun w' hw=>?_,vs.toArray,rfl,hx⟩
  have:=uW (P:=P) (w:=w') b o vs (fun j v h=>hw.cell (hc j v h))
  rw [hl,ahX rfl] at this
  simp only [Sem.run_bind,lK hg,lY hn,this,Result.andThen_ok,aiu,Sem.run_pure]
 | false =>
  simp only [mk,ais,aik] at hm
  split at hm
  ·rename_i x
   cases hm
   cases vs with
   | nil=>exact hx.elim
   | cons v vs =>
    have h1:=hc 0 v rfl
    rw [Nat.add_zero] at h1
    refine ⟨v,fun w' hw=>?_,hx.1⟩
    simp only [Sem.run_bind,lK hg,Result.andThen_ok,ais,aik]
    rw [run_load,hw.cell h1]
  ·cases hm
theorem K6 (h:Rel aV w0 aU N Fz κ σ a w) {t:TypeId} {x:Operand} {x':dF} {g:Bool} {n:Nat} (hg:uj P t = some g) (hn:kC P t = some n) (hx:eY x = some x') (hE:bW Γ q σ d (.load (if g then n else 1) g x') = some (pv,σ')) :
  σ' = σ ∧ ∃ v,(∀ w',Ext w w' → (Instr.loadAt t (a.eval x)).run P w' = .ok v w') ∧ gW Fz κ w pv v:=by
 obtain ⟨v,h1,h2⟩:=zbm hE
 have hv:=h.eval hx h1
 split at h2
 ·rename_i key off
  split at h2
  ·rename_i xs fK
   obtain ⟨l,h3,h4⟩:=zbm h2
   obtain ⟨u,h5,h6⟩:=zmm h4
   cases h6
   obtain ⟨b,e1,e2⟩:=hv
   obtain ⟨b',cs,e,e3,e4,e5⟩:=h.obj fK
   rw [e1] at e3
   cases e3
   obtain ⟨e6,e7,e8⟩:=e5.seg h3
   obtain ⟨r,e9,e10⟩:=oZ (P:=P) (b:=b) (o:=off) hg hn e6 (fun j v hj=>by
    have:=kD (w:=w) (b:=b) (o:=0) (off:=off) (vs:=cs.toList) (n:=if g then n else 1) (fun j v hj=>by
     rw [aip]
     simp only [World.cell?,e4]
     simpa using hj) j v hj
    rwa [aip] at this) e7 h5
   exact ⟨rfl,r,fun w' hw=>by rw [e2];exact e9 w' hw,e10⟩
  ·cases h2
 ·rename_i cs
  obtain ⟨l,h3,h4⟩:=zbm h2
  obtain ⟨u,h5,h6⟩:=zmm h4
  cases h6
  obtain ⟨b,o,e1,e2,e3⟩:=hv
  obtain ⟨vs,e4,e5⟩:=e3.cells
  obtain ⟨e6,e7,e8⟩:=e4.seg h3
  obtain ⟨r,e9,e10⟩:=oZ (P:=P) (b:=b) (o:=o) hg hn (e6.Xf (κ:=κ)) (fun j v hj=>by
    have:=kD (w:=w) (b:=b) (o:=o) (off:=0) e5 j v hj
    rwa [Nat.add_zero] at this) e7 h5
  exact ⟨rfl,r,fun w' hw=>by rw [e1];exact e9 w' hw,e10⟩
 ·rename_i key z i off
  split at h2
  ·rename_i sz rows fK
   split at h2
   ·cases h2
   ·rename_i hz
    obtain ⟨rr,h3,h4⟩:=zbm h2
    obtain ⟨l,h5,h6⟩:=zbm h4
    obtain ⟨u,h7,h8⟩:=zmm h6
    cases h8
    obtain ⟨b,n',c,e1,e2⟩:=hv
    obtain ⟨e3,vs,e4,e5⟩:=Gy (h.obj fK) e1 h3
    have hz':sz = z:=aiJ.mp hz
    subst hz'
    obtain ⟨e6,e7,e8⟩:=e4.seg h5
    obtain ⟨r,e9,e10⟩:=oZ (P:=P) (b:=b) (o:=i * sz + off) hg hn (e6.Xf (κ:=κ)) (kD e5) e7 h7
    exact ⟨rfl,r,fun w' hw=>by rw [e2];exact e9 w' hw,e10⟩
  ·cases h2
 ·cases h2
theorem K7 (h:Rel aV w0 aU N Fz κ σ a w) {x:Operand} {x':dF} (hx:eY x = some x') (hE:bW Γ q σ d (.gH x') = some (pv,σ')) (ho:o.op = .nilCheck x) :
  σ' = σ ∧ ∃ v,(∀ w',(execOp a.eval o).run P w' = .ok (.value v) w') ∧ gW Fz κ w pv v:=by
 obtain ⟨v,h1,h2⟩:=zbm hE
 have hv:=h.eval hx h1
 have key:∀ ad,a.eval x = .pointer (some ad) → σ' = σ → pv = .c v → σ' = σ ∧ ∃ v,(∀ w',(execOp a.eval o).run P w' = .ok (.value v) w') ∧ gW Fz κ w pv v:=by
  intro ad he e1 e2
  subst e1 e2
  refine ⟨rfl,.pointer (some ad),fun w'=>?_,by rw [← he];exact hv⟩
  unfold execOp
  simp only [ho,he]
  rfl
 split at h2
 ·cases h2;obtain ⟨b,_,e⟩:=hv;exact key _ e rfl rfl
 ·cases h2;obtain ⟨b,_,e,_⟩:=hv;exact key _ e rfl rfl
 ·cases h2;obtain ⟨b,_,_,_,e⟩:=hv;exact key _ e rfl rfl
 ·cases h2
theorem UN (h:Rel aV w0 aU N Fz κ σ a w) {op:BinOp} {c:Ar} {t:TypeId} {x y:Operand} {x' y':dF} (ho:Xe op = some c) (hx:eY x = some x') (hy:eY y = some y') (hE:bW Γ q σ d (.ar c x' y') = some (pv,σ')) :
  σ' = σ ∧ ∃ v,(∀ w',(do eqGuard op t x y (a.eval x) (a.eval y);binOp op t (a.eval x) (a.eval y):Sem Value).run P w' = .ok v w') ∧ gW Fz κ w pv v:=by
 obtain ⟨u,h1,h2⟩:=zbm hE
 obtain ⟨v,h3,h4⟩:=zbm h2
 obtain ⟨m,h5,h6⟩:=zbm h4
 obtain ⟨n,h7,h8⟩:=zbm h6
 split at h8
 ·rename_i hk
  obtain ⟨r,h9,h10⟩:=zbm h8
  cases h10
  have e1:=gM h5 (h.eval hx h1)
  have e2:=gM h7 (h.eval hy h3)
  obtain ⟨k,m⟩:=m
  obtain ⟨k',n⟩:=n
  simp only at hk e1 e2 h9
  subst hk
  refine ⟨rfl,.int k r,fun w'=>?_,rfl⟩
  rw [e1,e2]
  exact iU mW (zI ho h9)
 ·cases h8
theorem UO (h:Rel aV w0 aU N Fz κ σ a w) {t e:TypeId} {sz:Nat} {x y:Operand} {x' y':dF} (hu:R7 P t = some e) (hn:kC P e = some sz) (hx:eY x = some x') (hy:eY y = some y') (hE:bW Γ q σ d (.ia sz x' y') = some (pv,σ')) :
  σ' = σ ∧ ∃ v,(∀ w',(Instr.indexAt t (a.eval x) (a.eval y)).run P w' = .ok v w') ∧ gW Fz κ w pv v:=by
 obtain ⟨v,h1,h2⟩:=zbm hE
 obtain ⟨j,h3,h4⟩:=zbm h2
 obtain ⟨p,h5,h6⟩:=zbm h4
 have hv:=h.eval hx h1
 have hj:=gM h5 (h.eval hy h3)
 have run:∀ b o len c,a.eval x = .slice (some ⟨b,o,none⟩) len c → 0 ≤ p.2 → p.2 < len → ∀ w',(Instr.indexAt t (a.eval x) (a.eval y)).run P w' = .ok (.pointer (some ⟨b,o + p.2.toNat * sz,none⟩)) w':=by
  intro b o len c he h0 hl w'
  rw [he,hj]
  unfold Instr.indexAt
  simp only [Sem.run_bind,iC,run_underlying (uo hu),Result.andThen_ok,Sem.run_pure]
  simp only [ahX (And.intro h0 hl),Sem.run_bind,lY hn,Result.andThen_ok,Sem.run_pure,lX]
 split at h6
 ·rename_i h0
  split at h6
  ·rename_i rows
   obtain ⟨r,h7,h8⟩:=zbm h6
   split at h8
   ·rename_i hl
    cases h8
    simp only [fJ,dW,eO] at hv
    obtain ⟨A,c,e1,e2,e3,e4⟩:=hv
    rcases e4 with e4 | ⟨b,o,sz',rfl,e5,e6⟩
    ·subst e4;simp at h7
    ·obtain ⟨e7,e8⟩:=e6.get h7
     have hlt:p.2.toNat < rows.length:=(aiO.mp h7).1
     have:sz' = sz:=by omega
     subst this
     exact ⟨rfl,_,run b o _ c e1 h0 (by omega),b,_,rfl,e5,e8⟩
   ·cases h8
  ·rename_i key n
   split at h6
   ·rename_i sz' rows fK
    split at h6
    ·rename_i hc
     cases h6
     obtain ⟨e1,A,c,e2⟩:=hv
     obtain ⟨h00,e,inner,A',c',e3,e4,e5⟩:=h.obj fK
     obtain ⟨e6,e7⟩:=e4
     rcases e7 with ⟨e7,e8⟩ | ⟨g,cap,cur,e7,e8⟩
     ·exfalso
      rw [hc.2.2,e8] at hc
      have:=hc.2.1
      omega
     ·rw [e2] at e1
      rw [e7] at e1
      injection e1 with e9 e10 e11
      subst e9
      refine ⟨rfl,_,run g 0 n c e2 h0 hc.2.1,g,_,_,e7,?_⟩
      simp
    ·cases h6
   ·cases h6
  ·cases h6
 ·cases h6
end
section
variable {P : Program} {ops:Array Oper} {Q:Exit → Act → World → Prop} {M:Nat → Bool} {S:World → Prop}
def UQ (P:Program) (ops:Array Oper) (Q:Exit → Act → World → Prop) (M:Nat → Bool) (S:World → Prop):Nat → Array Bool → Act → World → Prop
 | 0,l,a,w=>Region.ready .any ops l = [] ∧ Q .normal a w
 | n + 1,l,a,w=>(Region.ready .any ops l = [] → Q .normal a w) ∧ ∀ i ∈ Region.ready .any ops l,wpOp P ops Q i (fun a' w'=>(M i = true → S w → S w') ∧ UQ P ops Q M S n (l.setIfInBounds i true) a' w') a w
theorem G5 : ∀ (n:Nat) (l:Array Bool) (a:Act) (w:World),UQ P ops Q M S n l a w → wpAny P .any ops Q n l a w
 | 0,_,_,_,h=>h
 | n + 1,_,_,_,h=>⟨h.1,fun i hi=>wpOp_mono (fun a' w' h'=>G5 n _ a' w' h'.2) (h.2 i hi)⟩
theorem I5 {i:Nat} {oi:Oper} {v:Value} (hi:ops[i]? = some oi) (hsel:∀ (j:Nat) (o:Oper) cs b,ops[j]? = some o → o.op ≠ .select cs b) (hQ:∀ c a w,¬ Q (.panic c) a w)
  (hM:∀ l j,l.size = ops.size → Down ops l → j ∈ Region.ready .any ops l → ¬ Dn l i → j ≠ i → M j = true) :
  ∀ (n:Nat) (l:Array Bool) (a:Act) (w:World),l.size = ops.size → Down ops l → (∀ j oj,ops[j]? = some oj → j ≠ i → l.getD j true = false → (∀ e ∈ oj.after,Region.binds .any e = true → e.on ≠ i) → oi.apart ops oj = true) →
   i ∈ Region.ready .any ops l → YieldsIf P ops S oi v a → S w → UQ P ops Q M S n (l.setIfInBounds i true) (a.put oi.dst v) w → UQ P ops Q M S (n + 1) l a w:=by
 intro n
 induction n with
 | zero =>
  intro l a w _ _ _ hr hy hS H
  refine ⟨fun h=>(by rw [h] at hr;cases hr),fun j hj=>?_⟩
  by_cases hji:j = i
  ·subst hji;exact hy.wpOp hi hS ⟨fun _ _=>hS,H⟩
  ·have:=ready_mono hj hji
   rw [H.1] at this
   cases this
 | succ n ih =>
  intro l a w hl hdn hfree hr hy hS H
  refine ⟨fun h=>(by rw [h] at hr;cases hr),fun j hj=>?_⟩
  by_cases hji:j = i
  ·subst hji;exact hy.wpOp hi hS ⟨fun _ _=>hS,H⟩
  ·have h1:=H.2 j (ready_mono hj hji)
   obtain ⟨hjun,oj,hoj,hall⟩:=mem_ready.1 hj
   have hnot:∀ e ∈ oj.after,Region.binds .any e = true → e.on ≠ i:=fun e he hb heq=>by
    have h1:=hall e he hb
    have h0:=(mem_ready.1 hr).1
    rw [heq] at h1
    rcases ajf i l.size with h' | h'
    ·simp [h'] at h0 h1;rw [h0] at h1;cases h1
    ·simp [aja h'] at h1
   have hap:=hfree j oj hoj hji hjun hnot
   obtain ⟨hj1,hj2,hj3⟩:=(fM hl).mp hj
   have hMj:=hM l j hl hdn hj ((fM hl).mp hr).2.1 hji
   have h2:=wpOp_putIf hoj hap (fun cs b=>hsel i oi cs b hi) (fun cs b=>hsel j oj cs b hoj) (fun c a w h=>absurd h (hQ _ _ _)) hy h1
   have hfree':∀ k ok,ops[k]? = some ok → k ≠ i → (l.setIfInBounds j true).getD k true = false → (∀ e ∈ ok.after,Region.binds .any e = true → e.on ≠ i) → oi.apart ops ok = true:=fun k ok hk hki hun hno=>by
    refine hfree k ok hk hki ?_ hno
    by_cases hjk:j = k
    ·subst hjk;exact hjun
    ·rw [getD_set_ne true hjk] at hun;exact hun
   refine wpOp_mono (fun a' w' h3=>⟨fun _ _=>h3.2.1 hMj hS,ih (l.setIfInBounds j true) a' w' (by simp [hl]) (oU hdn hl hj1 hj3) hfree' (ready_mono hr (Ne.symm hji)) h3.1 (h3.2.1 hMj hS) ?_⟩) h2
   rw [Array.setIfInBounds_comm _ _ hji]
   exact h3.2.2
theorem Fg {i:Nat} {o:Oper} {e:TypeId} {z:List PL} (hi:ops[i]? = some o) (ho:o.op = .alloc e) (hz:zF P e = some z) {w1:World} {K:Act → World → Prop} {a:Act} {w:World} (h:wpOp P ops Q i K a w) :
  wpOp P ops Q i (fun a' w'=>(Ext w1 w → Ext w1 w') ∧ K a' w') a w:=by
 unfold wpOp at *
 simp only [hi] at *
 split
 ·rename_i hw
  rw [ahX hw] at h
  rcases h with h | h
  ·refine .inl ?_
   unfold Oper.wp at *
   have hr:∃ v x,(execOp a.eval o).run P w = .ok (.value v) (w.alloc x):=by
    obtain ⟨i,h3,h4⟩:=zbm hz
    obtain ⟨zv,h5,h6⟩:=zbm h4
    unfold execOp
    simp only [ho]
    unfold Instr.alloc
    simp only [Sem.run_bind,zeroValue,typeInfo]
    simp [h3,h5,newVar,newRow]
    exact ⟨_,rfl⟩
   obtain ⟨v,x,hr⟩:=hr
   rw [hr] at h ⊢
   simp only [Oper.upon] at h ⊢
   obtain ⟨_,g1,g2⟩:=lM w x
   exact ⟨fun hx=>hx.trans ⟨by omega,g1⟩,h⟩
  ·exact .inr h
 ·rename_i hw
  rw [ahY hw] at h
  exact ⟨id,h⟩
end
end
section
open Go
def jq : List (List Nat) → List (List Nat) → List (List Nat)
 | acc,[]=>acc
 | acc,es :: l=>jq (acc ++ [(List.range acc.length).filter fun x=>es.any fun e=>e == x || (acc.getD e []).contains x]) l
def BJ : List G → Nat
 | []=>0
 | g :: l=>if O7 g.i || (jL g.i && g.gd.isNone) then BJ l + 1 else 0
def UR {α:Type} (n:Nat) (k:Nat → α):α:=match n with
 | 0=>k 0
 | j + 1=>k (j + 1)
theorem Fh {α:Type} {n:Nat} {k:Nat → α}:UR n k = k n:=by cases n <;> rfl
def YP : Nat → List (List Nat) → Nat
 | i,[]=>i
 | i,es :: l=>UR (YP (i + 1) l) fun r=>if r == i + 1 && es.length == i then i else r
def YQ (C:List (List Nat)) (gs:List G):Nat:=min (BJ gs) (YP 0 C)
def K8 (gs:List G) (C:List (List Nat)) (m j:Nat):List Nat:=((List.range m).filter fun i=>i != j && jL (gs.getD i default).i && !(C.getD j []).contains i).map fun i=>dw ((gs.getD i default).dst.getD 999)
def Sg : List G → Nat
 | []=>0
 | g :: l=>if isLt g then Sg l + 1 else 0
def YR (C:List (List Nat)) (m nl:Nat):List Nat:=(List.range m).filter fun j=>(List.range nl).any fun t=>!(C.getD (m + t) []).contains j
def ad2 (kZ:List Nat) (n:Nat):Nat:=if kZ.isEmpty then 0 else n
def UU (E C:List (List Nat)) (gs:List G) (n m:Nat) (kZ:List Nat) (nl:Nat):Bool :=
 (List.range n).all (fun i=>(E.getD i []).all (· < i)) &&
 (List.range m).all (fun i=>(rd (gs.getD i default)).all fun s=>(List.range m).all fun j=>!((gs.getD j default).dst == some s) || (E.getD i []).contains j) &&
 (List.range m).all (fun i=>(List.range m).all fun j=>i == j || (gs.getD i default).dst.isNone || !((gs.getD i default).dst == (gs.getD j default).dst)) &&
 (List.range m).all (fun i=>O7 (gs.getD i default).i || (jL (gs.getD i default).i && (gs.getD i default).gd.isNone)) &&
 (List.range n).all (fun k=>k < m || (List.range k).all fun j=>(C.getD k []).contains j || (j < m && kZ.contains j && k < m + nl)) &&
 kZ.all (fun j=>O7 (gs.getD j default).i) &&
 ((gs.drop m).take nl).all isLt &&
 (List.range nl).all (fun t=>(rd (gs.getD (m + t) default)).all fun s=>(List.range m).all fun j=>!((gs.getD j default).dst == some s) || (E.getD (m + t) []).contains j)
structure Hi where
 ks:List Nat
 AX:List Nat
 rws:List (Nat × Nat)
def YS (k:Array Bool → Option (List (List Nat))) (l:Array Bool):List Nat → Option (List (List Nat))
 | []=>some []
 | i :: is=>(k (l.setIfInBounds i true)).bind fun a=>(YS k l is).map fun b=>a.map (i :: ·) ++ b
def K9 (ops:Array Oper) (i:Nat):Bool:=match ops[i]? with
 | some o=>(match o.op with
  | .move _=>true
  | .assign _=>true
  | .fieldAddr _ _ _=>true
  | .build _ _=>true
  | .extract _ _=>true
  | _=>false)
 | none=>false
def exts (ops:Array Oper):Nat → Array Bool → Option (List (List Nat))
 | 0,l=>if Region.ready .any ops l = [] then some [[]] else none
 | n + 1,l=>match Region.ready .any ops l with
  | []=>some [[]]
  | i :: is=>match (i :: is).find? (fun j=>K9 ops j && Region.free .any ops l j) with
   | some j=>(exts ops n (l.setIfInBounds j true)).map fun a=>a.map (j :: ·)
   | none=>YS (exts ops n) l (i :: is)
def YT : Nat → List Nat → Nat
 | i,[]=>i
 | i,j :: l=>if i == j then YT (i + 1) l else i
def Dz (C:List (List Nat)):Nat → Nat → Nat
 | 0,_=>C.length
 | n + 1,k=>UR (Dz C n (k + 1)) fun r=>UR (YT 0 (C.getD k [])) fun p=>if p < k then min p r else r
def G6 (E C:List (List Nat)) (n h:Nat):Bool:=(List.range n).all (fun i=>(E.getD i []).all (· < i)) && (List.range n).all fun k=>(C.getD k []).take (min k h) == List.range (min k h)
def mask (h n:Nat):Array Bool:=(List.replicate h true ++ List.replicate (n - h) false).toArray
def La (ops:Array Oper):Option (List (List Nat)) :=
 let E:=ops.toList.map iA
 let C:=jq [] E
 UR (Dz C ops.size 0) fun h=>if h ≤ ops.size ∧ G6 E C ops.size h = true then (exts ops (ops.size - h) (mask h ops.size)).map fun a=>a.map (List.range h ++ ·) else none
def Pg (ops:Array Oper) (i:Nat):Bool:=K9 ops i || match ops[i]? with
 | some o=>(match o.op with
  | .load _ _=>true
  | .nilCheck _=>true
  | .binOp .sub _ _ _ _=>true
  | .indexAddr _ _ (.tmp _)=>true
  | _=>false)
 | none=>false
def Fj (ops:Array Oper) (i:Nat):Bool:=match ops[i]? with
 | some o=>(match o.op with
  | .alloc _=>true
  | _=>false)
 | none=>false
def Lb (ops:Array Oper):Nat → Nat → Nat
 | 0,i=>i
 | n + 1,i=>if Pg ops i then Lb ops n (i + 1) else i
def Fp (E C:List (List Nat)) (ops:Array Oper) (h:Nat):Bool:=(List.range ops.size).all (fun i=>(E.getD i []).all (· < i)) && ((List.range h).all (fun i=>Pg ops i && Region.free .any ops (mask i ops.size) i) && (List.range ops.size).all fun k=>decide (k < h) || Fj ops k || (C.getD k []).take h == List.range h)
def Lc (ops:Array Oper):Option (List (List Nat)) :=
 let E:=ops.toList.map iA
 let C:=jq [] E
 UR (Lb ops ops.size 0) fun h=>if h ≤ ops.size ∧ Fp E C ops h = true then (exts ops (ops.size - h) (mask h ops.size)).map fun a=>a.map (List.range h ++ ·) else none
def YU (P:Program) (X:Hx) (N:Nat → Bool) (ops:Array Oper) (draw:Bool) (ks AX:List Nat):Option CC :=
 (jG P X ops N ops.toList).bind fun gs=>match draw with
  | false=>some (.reg gs ks)
  | true=>match AX with
   | 0 :: _=>if Region.noSelect ops then (Lc ops).map fun o=>.any gs o ks AX else none
   | _ :: _=>if Region.noSelect ops then (La ops).map fun o=>.any gs o ks AX else none
   | [] =>
   let E:=ops.toList.map iA
   let C:=jq [] E
   UR (YQ C gs) fun m =>
   let nl0:=Sg (gs.drop m)
   let kZ:=YR C m nl0
   let nl:=ad2 kZ nl0
   if UU E C gs ops.size m kZ nl then some (.oH ((List.range m).map fun j=>(gs.getD j default,K8 gs C m j)) kZ ((gs.drop m).take nl) ((gs.drop m).drop nl) ks) else none
def comp (P:Program) (X:Hx) (N:Nat → Bool):Code → List Hi → Option (CC × List Hi)
 | .skip,h=>some (.skip,h)
 | .region _ ops draw,h=>match h with
  | []=>none
  | k :: h=>(YU P X N ops draw k.ks k.AX).map fun c=>(c,h)
 | .seq x y,h=>(comp P X N x h).bind fun p=>(comp P X N y p.2).map fun r=>(.seq p.1 r.1,r.2)
 | .cond c x y,h=>(eY c).bind fun o=>(comp P X N x h).bind fun p=>(comp P X N y p.2).map fun r=>(.cond o p.1 r.1,r.2)
 | .block id c,h=>(comp P X N c h).map fun p=>(.block id p.1,p.2)
 | .loop c,h=>match h with
  | []=>none
  | k :: h=>(comp P X N c h).map fun p=>(.loop k.ks k.AX k.rws p.1,p.2)
 | .exit id,h=>some (.exit id,h)
 | .ret,h=>some (.ret,h)
 | .scope c,h=>comp P X N c h
 | .label _,h=>some (.skip,h)
 | _,_=>none
section
variable {P : Program} {Γ:Env} {aV:Nat → Prop} {w0 w w':World} {aU:List Nat} {N:Fr} {F:Nat} {iy:Nat → Value} {σ fB σ':St} {a:Act} {X:Hx} {ops:Array Oper} {gs:List G} {Q:Exit → Act → World → Prop}
theorem xC : ∀ (l acc:List (List Nat)),(∀ j,∀ x ∈ acc.getD j [],I4 ops x j) → (∀ k,k < l.length → ∃ h:acc.length + k < ops.size,l[k]? = some (iA ops[acc.length + k])) → ∀ j,∀ x ∈ (jq acc l).getD j [],I4 ops x j
 | [],acc,h,_=>h
 | es :: l,acc,h,hl=>by
  unfold jq
  obtain ⟨h0,h1⟩:=hl 0 (by simp)
  simp only [List.getElem?_cons_zero,aie,Nat.add_zero] at h1
  refine xC l _ (fun j x hx=>?_) (fun k hk=>?_)
  ·rw [aix,ajJ] at hx
   split at hx
   ·rename_i hj
    exact h j x (by rw [aix];exact hx)
   ·by_cases hj:j - acc.length = 0
    ·have hje:j = acc.length:=by omega
     subst hje
     simp only [Nat.sub_self,List.getElem?_cons_zero,Option.getD_some] at hx
     obtain ⟨_,hx⟩:=ajs.mp hx
     obtain ⟨e,he,hor⟩:=ai0.mp hx
     rw [h1] at he
     rw [aiV] at hor
     rcases hor with hor | hor
     ·have:e = x:=by simpa using hor
      subst this
      exact .dir h0 he
     ·exact .step h0 he (h e x (by simpa using hor))
    ·rw [ajm (by simp;omega)] at hx
     simp at hx
  ·obtain ⟨h2,h3⟩:=hl (k + 1) (by simpa using hk)
   simp only [ah7,List.length_cons,List.length_nil]
   refine ⟨by omega,?_⟩
   simp only [List.getElem?_cons_succ] at h3
   rw [h3]
   congr 3
   omega
theorem zT : ∀ (gs:List G),BJ gs ≤ gs.length
 | []=>ah1 _
 | g :: l=>by
  unfold BJ
  have:=zT l
  split <;> simp <;> omega
theorem Ph (C:List (List Nat)) (gs:List G):YQ C gs ≤ gs.length:=by
 exact aij (Nat.min_le_left _ _) (zT gs)
theorem I6 {kZ:List Nat} {nl m:Nat} (hm:m ≤ gs.length) (h:jG P X ops N.ok ops.toList = some gs) (hb:UU (ops.toList.map iA) (jq [] (ops.toList.map iA)) gs ops.size m kZ nl = true) :
  K4 ops ((List.range m).map fun j=>(gs.getD j default,K8 gs (jq [] (ops.toList.map iA)) m j)) kZ ((gs.drop m).take nl) ((gs.drop m).drop nl) ∧
  ((List.range m).map fun j=>(gs.getD j default,K8 gs (jq [] (ops.toList.map iA)) m j)).map (·.1) ++ ((gs.drop m).take nl ++ (gs.drop m).drop nl) = gs:=by
 obtain ⟨hlen,_⟩:=iE h
 rw [Array.length_toList] at hlen
 unfold UU at hb
 simp only [ah5] at hb
 obtain ⟨⟨⟨⟨⟨⟨⟨b1,b2⟩,b3⟩,b4⟩,b5⟩,b6⟩,b7⟩,b8⟩:=hb
 have hE:∀ i (hi:i < ops.size),(ops.toList.map iA).getD i [] = iA ops[i]:=by
  intro i hi
  rw [aix,ah3,ai7,ait hi]
  rfl
 have hC:∀ j,∀ x ∈ (jq [] (ops.toList.map iA)).getD j [],I4 ops x j:=xC _ _ (fun j x hx=>by simp at hx) (fun k hk=>by
  have hk':k < ops.size:=by simpa using hk
  refine ⟨by simpa using hk',?_⟩
  rw [ah3,ai7,ait hk']
  simp)
 refine ⟨⟨?_,fun i hi e he=>?_,fun i hi hi' s hs j hj hjs=>?_,fun i j hi hj hne s h1 h2=>?_,fun i hi=>?_,fun i j hi hj hne hN=>?_,fun k h1 h2 j hj=>?_,fun j hj h=>?_,fun g hg=>aib.mp b7 g hg,fun t ht ht' s hs j hj hjs=>?_⟩,?_⟩
 ·simp only [ahZ,ajo,aiv,aia]
  omega
 ·have:=aib.mp b1 i (aiA.mpr hi)
  rw [hE i hi] at this
  have:=aib.mp this e he
  simpa using this
 ·simp only [ahZ,ajo] at hi hj
  simp only [ajd,ajE] at hs hjs
  have:=aib.mp b2 i (aiA.mpr hi)
  have:=aib.mp this s hs
  have:=aib.mp this j (aiA.mpr hj)
  rw [hjs,hE i hi'] at this
  simpa using this
 ·simp only [ahZ,ajo] at hi hj
  simp only [ajd,ajE] at h1 h2
  have:=aib.mp b3 i (aiA.mpr hi)
  have:=aib.mp this j (aiA.mpr hj)
  rw [h1,h2] at this
  simp [hne] at this
 ·simp only [ahZ,ajo] at hi
  have:=aib.mp b4 i (aiA.mpr hi)
  simp only [ajd,ajE]
  rw [aiV,ah5] at this
  rcases this with h | h
  ·exact .inl h
  ·exact .inr ⟨h.1,by simpa using h.2⟩
 ·simp only [ahZ,ajo] at hi hj
  simp only [ajd,ajE] at hN ⊢
  cases hcc:((jq [] (ops.toList.map iA)).getD j []).contains i with
  | true=>exact .inr (hC j i (by simpa using hcc))
  | false =>
   left
   unfold K8
   refine aiq.mpr ⟨i,ajs.mpr ⟨aiA.mpr hi,?_⟩,rfl⟩
   rw [hN,hcc]
   simp [hne]
 ·simp only [ahZ,ajo] at h1 ⊢
  have:=aib.mp b5 k (aiA.mpr h2)
  rw [aiV] at this
  rcases this with h | h
  ·have:k < m:=by simpa using h
   omega
  ·have:=aib.mp h j (aiA.mpr hj)
   rw [aiV,ah5,ah5] at this
   rcases this with h | ⟨⟨g1,g2⟩,g3⟩
   ·exact .inl (hC k j (by simpa using h))
   ·refine .inr ⟨by simpa using g1,by simpa using g2,?_⟩
    have g3':k < m + nl:=by simpa using g3
    simp only [aia,aiv]
    omega
 ·simp only [ahZ,ajo] at h
  simp only [ajd,ajE]
  exact aib.mp b6 j hj
 ·simp only [ahZ,ajo] at hj ht' ⊢
  simp only [aia,aiv] at ht
  simp only [ajd,ajE] at hjs
  have h1:=aib.mp b8 t (aiA.mpr (by omega))
  have hgt:((gs.drop m).take nl)[t]'(by simp only [aia,aiv];omega) = gs.getD (m + t) default:=by
   rw [List.getElem_take,List.getElem_drop,aix,aic (by omega)]
   rfl
  rw [hgt] at hs
  have h2:=aib.mp h1 s hs
  have h3:=aib.mp h2 j (aiA.mpr hj)
  rw [hjs,hE _ ht'] at h3
  simpa using h3
 ·rw [List.map_map]
  have:((List.range m).map ((fun x:G × List Nat=>x.1) ∘ fun j=>(gs.getD j default,K8 gs (jq [] (ops.toList.map iA)) m j))) = gs.take m:=by
   refine List.ext_getElem (by simp;omega) fun i h1 h2=>?_
   simp only [ahZ,ajo] at h1
   simp only [ajd,ajE,Function.comp,List.getElem_take]
   rw [aix,aic (by omega)]
   rfl
  rw [this,aju,aju]
def BK : Out → Exit
 | .iK=>.normal
 | .ext id=>.exit id
 | .ret=>.ret
theorem Rel.put' {Fz:Nat → Prop} {κ:Nat → Value} (h:Rel aV w0 aU N Fz κ σ a w) {d:Nat} {pv:PV} (hv:gW Fz κ w pv (a.tmps.getD d undef)):Rel aV w0 aU N Fz κ ⟨Ev.put σ.tm d pv,σ.ob⟩ a w where
 tm:=fun p hp=>by
  rcases gT hp with rfl | ⟨hp,_⟩
  ·exact hv
  ·exact h.tm p hp
 sz:=h.sz
 lJ:=h.lJ
 fs:=h.fs
 ob:=h.ob
 uh:=h.uh
 pos:=h.pos
 fz:=h.fz
 yU:=h.yU
 big:=h.big
 ext:=h.ext
 kp:=h.kp
theorem Ok.keep (h:Ok aV w0 aU N iy σ a w) (ks:List Nat):Ok aV w0 aU N iy ⟨pick ks σ.tm,σ.ob⟩ a w:=h.less (fun _ hp=>jS hp) (fun _ hp=>hp)
theorem Ok.iK : ∀ (l:List (Nat × Nat)) {σ:St},Ok aV w0 aU N iy σ a w → Ok aV w0 aU N iy (Ev.iK σ l) a w
 | [],σ,h=>h
 | (s,sz) :: l,σ,h=>by
  unfold Ev.iK
  split
  ·rename_i hg
   split
   ·exact Ok.iK l h
   ·rename_i hz
    split
    ·rename_i t hn
     refine Ok.iK l ?_
     obtain ⟨Fz,κ,hr,hk⟩:=h
     have hv:a.tmps.getD s undef = .slice none 0 0:=hr.val hg
     have hnew:=hr.new (w':=w) (v:=.slice none 0 0) hn (ah1 _) (fun _ _=>rfl) (fun b hb=>by cases hb) ⟨rfl,rfl⟩ ⟨by omega,0,[],none,0,by rw [bL];rfl,by rw [bL];exact World.ownsRow_nil w _ _ _,rfl⟩
     refine ⟨Fz,oI κ (dw s) (.slice none 0 0),hnew.put' ⟨?_,none,0,hv⟩,fun k hk'=>?_⟩
     ·rw [bL];exact hv
     ·rw [dY (fun e=>by unfold dw at e;omega)];exact hk k hk'
    ·exact Ok.iK l h
  ·exact Ok.iK l h
theorem Ok.res (h:Ok aV w0 aU N iy σ a w) (ks os:List Nat) (rws:List (Nat × Nat)):Ok aV w0 aU N iy (Ev.res ks os rws σ) a w :=
 (Ok.iK rws h).less (fun _ hp=>jS hp) (fun _ hp=>jS hp)
theorem pW : ∀ (n:Nat) (l:Array Bool),exts ops n l ≠ some []
 | 0,l,h=>by unfold exts at h;split at h <;> simp at h
 | n + 1,l,h=>by
  unfold exts at h
  split at h
  ·simp at h
  ·split at h
   ·obtain ⟨A,h1,h2⟩:=zmm h
    have:A = []:=by
     cases A with
     | nil=>rfl
     | cons _ _=>simp at h2
    subst this
    exact pW n _ h1
   ·obtain ⟨A,h1,h2⟩:=zbm h
    obtain ⟨B,_,h3⟩:=zmm h2
    have:A = []:=by
     cases A with
     | nil=>rfl
     | cons _ _=>simp at h3
    subst this
    exact pW n _ h1
theorem ku.app {ks lS:List Nat} {r:St}:∀ {A B:List (List Nat)},ku Γ gs ks lS σ r (A ++ B) → ku Γ gs ks lS σ r A ∧ ku Γ gs ks lS σ r B
 | [],_,h=>⟨trivial,h⟩
 | _ :: A,_,h=>⟨⟨h.1,(ku.app (A:=A) h.2).1⟩,(ku.app (A:=A) h.2).2⟩
theorem ku.step {ks lS:List Nat} {r:St} {i:Nat}:∀ {A:List (List Nat)},ku Γ gs ks lS σ r (A.map (i :: ·)) → A ≠ [] → ∃ s,Oq Γ false σ (gs.getD i default) = some s ∧ ku Γ gs ks lS s r A
 | [],_,h=>absurd rfl h
 | x :: A,h,_=>by
  obtain ⟨⟨s,h1,h2⟩,h3⟩:=h
  obtain ⟨s1,h4,h5⟩:=zbm h1
  refine ⟨s1,h4,⟨s,h5,h2⟩,?_⟩
  by_cases hA:A = []
  ·subst hA;trivial
  ·obtain ⟨s2,g1,g2⟩:=ku.step h3 hA
   rw [h4] at g1;cases g1
   exact g2
theorem I7 {Fz:Nat → Prop} {κ:Nat → Value} (h:Rel aV w0 aU N Fz κ σ a w) {t:TypeId} {ps:Array (Nat × Operand)} {z:List PL} {l:List (Nat × Nat × dF)} {d:Nat} {p:PV × St} (hz:zF P t = some z) (hp:(∃ fs,P.underlying t = some (.struct fs) ∧ fs.toList.all (fun (f:Field)=>(kC P f.type).isSome) = true ∧ parts P fs ps.toList = some l) ∨ ∃ n e sz,P.underlying t = some (.array n e) ∧ kC P e = some sz ∧ nL sz ps.toList = some l) (hE:bW Γ false σ d (.build z l) = some p) :
  p.2 = σ ∧ ∃ v,(∀ w',(Instr.build t (ps.map fun (i,x)=>(i,a.eval x))).run P w' = .ok v w') ∧ gW Fz κ w p.1 v:=by
 obtain ⟨vs,h1,h2⟩:=zbm hE
 obtain ⟨z',h3,h4⟩:=zmm h2
 cases h4
 obtain ⟨i,zv,e1,e2,e3⟩:=uq (Fz:=Fz) (κ:=κ) (w:=w) hz
 refine ⟨rfl,?_⟩
 rcases hp with ⟨fs,hu,hall,hp⟩ | ⟨n,e,sz,hu,hn,hp⟩
 ·have hpl:∃ places:List (Nat × Nat),fs.toList.mapM (fun (f:Field)=>(P.info? f.type).map fun i=>(f.offset,i.size)) = some places ∧ ∀ i:Nat,places.toArray[i]? = (fs[i]?.bind fun (f:Field)=>(kC P f.type).map fun n=>(f.offset,n)):=by
   have key:∀ (l:List Field),l.all (fun (f:Field)=>(kC P f.type).isSome) = true → ∃ places:List (Nat × Nat),l.mapM (fun (f:Field)=>(P.info? f.type).map fun i=>(f.offset,i.size)) = some places ∧ ∀ i:Nat,places[i]? = (l[i]?.bind fun (f:Field)=>(kC P f.type).map fun n=>(f.offset,n)):=by
    intro l
    induction l with
    | nil=>intro _;exact ⟨[],rfl,fun i=>by simp⟩
    | cons f l ih =>
     intro ha
     simp only [List.all_cons,ah5] at ha
     obtain ⟨pl,e1,e2⟩:=ih ha.2
     obtain ⟨n,hn⟩:=ajl.mp ha.1
     obtain ⟨inf,hi,hs⟩:=zmm hn
     refine ⟨(f.offset,n) :: pl,by simp [List.mapM_cons,hi,hs,e1],fun i=>?_⟩
     cases i with
     | zero=>simp [hn]
     | succ i=>simpa using e2 i
   obtain ⟨pl,e1,e2⟩:=key fs.toList hall
   exact ⟨pl,e1,fun i=>by have:=e2 i;simpa using this⟩
  obtain ⟨places,e4,e5⟩:=hpl
  obtain ⟨cs',e6,e7,_⟩:=mI h (place:=(places.toArray[·]?)) (ps:=ps.toList) (cs:=zv.cells) (fun _=>trivial) (by
   refine (wW hp).imp fun {p r} hpr=>⟨?_,hpr.2⟩
   rw [e5];exact hpr.1) h1 h3 e3
  refine ⟨.agg cs',fun w'=>run_build w' t _ cs' ?_,cs',rfl,e7⟩
  unfold Program.built
  rw [e1,hu]
  simp only [e2,e4]
  rw [aje]
  exact e6
 ·obtain ⟨ie,g1,g2⟩:=zmm hn
  obtain ⟨cs',e6,e7,_⟩:=mI h (place:=fun i=>some (i * sz,sz)) (ps:=ps.toList) (cs:=zv.cells) (fun _=>trivial) (pU hp) h1 h3 e3
  refine ⟨.agg cs',fun w'=>run_build w' t _ cs' ?_,cs',rfl,e7⟩
  unfold Program.built
  rw [e1,hu]
  simp only [e2,g1]
  rw [aje,g2]
  exact e6
theorem Pj {Fz:Nat → Prop} {κ:Nat → Value} (h:Rel aV w0 aU N Fz κ σ a w) {x:Operand} {x':dF} {i d:Nat} {p:PV × St} (hx:eY x = some x') (hE:bW Γ false σ d (.ext x' i) = some p) :
  p.2 = σ ∧ ∃ v,(∀ w',(Instr.extract (a.eval x) i).run P w' = .ok v w') ∧ gW Fz κ w p.1 v:=by
 simp only [bW] at hE
 split at hE
 ·rename_i l hl
  obtain ⟨v,h1,h2⟩:=zmm hE
  cases h2
  obtain ⟨vs,e1,e2⟩:=h.Gw hx hl
  have key:∀ (l:List CV) (us:List Value) (i:Nat) (v:CV),dH Fz κ w l us → l[i]? = some v → ∃ u,us[i]? = some u ∧ fJ Fz κ w v u:=by
   intro l
   induction l with
   | nil=>intro us i v _ h;simp at h
   | cons x l ih =>
    intro us i v h h2
    cases us with
    | nil=>exact h.elim
    | cons u us =>
     cases i with
     | zero=>simp at h2;subst h2;exact ⟨u,rfl,h.1⟩
     | succ i=>simp at h2;exact ih us i v h.2 h2
  obtain ⟨u,h3,h4⟩:=key _ _ _ _ e2 h1
  refine ⟨rfl,u,fun w'=>?_,h4⟩
  rw [e1]
  rw [ai7] at h3
  simp [Instr.extract,h3]
 ·cases hE
theorem G7 {i:Nat} {o:Oper} {g:G} (ho:ops[i]? = some o) (hp:K9 ops i = true) (hg:rW P X ops N.ok o = some g) (h:Ok aV w0 aU N iy σ a w) (hE:Oq Γ false σ g = some σ'):∃ v,Yields P ops o v a ∧ Ok aV w0 aU N iy σ' (a.put o.dst v) w:=by
 obtain ⟨Fz,κ,hr,hk⟩:=h
 obtain ⟨p,h1,rfl⟩:=zmm hE
 obtain ⟨i',hi,h2⟩:=zbm hg
 split at h2
 ·rename_i hd
  cases h2
  have hput:∀ {pv v},gW Fz κ w pv v → Ok aV w0 aU N iy (qA σ o.dst pv) (a.put o.dst v) w:=by
   intro pv v hv
   refine ⟨Fz,κ,?_,hk⟩
   cases hdst:o.dst with
   | none=>exact hr.Kt v
   | some d =>
    rw [hdst] at hd
    exact hr.put (by simpa using hd) hv
  obtain ⟨t,h3,h4⟩:=zbm h1
  cases t with
  | false =>
   rw [ahY (by decide)] at h4
   cases h4
   exact ⟨undef,.inr ⟨Dt hr h3,rfl⟩,hput rfl⟩
  | true =>
   rw [ahX rfl] at h4
   have hw:=Dt hr h3
   unfold K9 at hp
   rw [ho] at hp
   simp only at hp
   have mv:∀ x,(o.op = .move x ∨ o.op = .assign x) → ∃ v,Yields P ops o v a ∧ Ok aV w0 aU N iy (qA p.2 o.dst p.1) (a.put o.dst v) w:=by
    intro x hx
    have hi2:(eY x).map I.mv = some i':=by
     unfold rV rU jv at hi
     rcases hx with hx | hx <;> simp only [hx] at hi <;> (split at hi <;> first | (split at hi <;> first | (cases hi;assumption) | cases hi) | cases hi)
    obtain ⟨y,h5,rfl⟩:=zmm hi2
    obtain ⟨v,h6,h7⟩:=zmm h4
    cases h7
    refine ⟨a.eval x,.inl ⟨hw,fun w'=>?_⟩,hput (hr.Gw h5 h6)⟩
    unfold execOp
    rcases hx with hx | hx <;> simp only [hx] <;> rfl
   split at hp
   ·rename_i x hx;exact mv x (.inl hx)
   ·rename_i x hx;exact mv x (.inr hx)
   ·rename_i s x f hx
    have hi2:jv P X o = some i':=by
     unfold rV rU at hi
     simp only [hx] at hi
     split at hi
     ·split at hi
      ·cases hi
      ·cases hi;assumption
     ·cases hi
    unfold jv at hi2
    simp only [hx] at hi2
    obtain ⟨fl,h5,hi2⟩:=zbm hi2
    obtain ⟨n,h6,hi2⟩:=zbm hi2
    split at hi2
    ·cases hi2
    ·rename_i h0
     obtain ⟨y,h7,rfl⟩:=zmm hi2
     obtain ⟨v,h8,h9⟩:=zbm h4
     have hv:=hr.eval h7 h8
     obtain ⟨fs,hu,hfi⟩:=Bh h5
     have run:∀ b o' (w':World),a.eval x = .pointer (some ⟨b,o',none⟩) → (execOp a.eval o).run P w' = .ok (.value (.pointer (some ⟨b,o' + fl.offset,none⟩))) w':=by
      intro b o' w' he
      unfold execOp
      simp only [hx,he]
      unfold Instr.fieldAt
      simp only [Sem.run_bind,run_underlying hu,Result.andThen_ok,hfi]
      simp only [Instr.sureAddr,Sem.run_bind,Sem.run_pure,Result.andThen_ok,oL h6 h0]
     split at h9
     ·cases h9;obtain ⟨b,e1,e2⟩:=hv;exact ⟨_,.inl ⟨hw,fun w'=>run _ _ w' e2⟩,hput ⟨b,e1,rfl⟩⟩
     ·cases h9;obtain ⟨b,o',e1,e2,e3⟩:=hv;exact ⟨_,.inl ⟨hw,fun w'=>run _ _ w' e1⟩,hput ⟨b,_,rfl,e2,e3.drop _⟩⟩
     ·cases h9;obtain ⟨b,n',c,e1,e2⟩:=hv;exact ⟨_,.inl ⟨hw,fun w'=>run _ _ w' e2⟩,hput ⟨b,n',c,e1,by rw [Nat.add_assoc]⟩⟩
     ·cases h9
   ·rename_i s t ps hx
    have hi2:jv P X o = some i':=by
     unfold rV rU at hi
     simp only [hx] at hi
     split at hi
     ·split at hi
      ·cases hi
      ·cases hi;assumption
     ·cases hi
    unfold jv at hi2
    simp only [hx] at hi2
    have hb:∃ z l,zF P t = some z ∧ i' = .build z l ∧ ((∃ fs,P.underlying t = some (.struct fs) ∧ fs.toList.all (fun (f:Field)=>(kC P f.type).isSome) = true ∧ parts P fs ps.toList = some l) ∨ ∃ n e sz,P.underlying t = some (.array n e) ∧ kC P e = some sz ∧ nL sz ps.toList = some l):=by
     split at hi2
     ·rename_i fs hu
      split at hi2
      ·rename_i hall
       obtain ⟨z,g1,g2⟩:=zbm hi2
       obtain ⟨l,g3,rfl⟩:=zmm g2
       exact ⟨z,l,g1,rfl,.inl ⟨fs,hu,hall,g3⟩⟩
      ·cases hi2
     ·rename_i n e hu
      obtain ⟨sz,g0,g00⟩:=zbm hi2
      obtain ⟨z,g1,g2⟩:=zbm g00
      obtain ⟨l,g3,rfl⟩:=zmm g2
      exact ⟨z,l,g1,rfl,.inr ⟨n,e,sz,hu,g0,g3⟩⟩
     ·cases hi2
    obtain ⟨z,l,g1,rfl,g2⟩:=hb
    obtain ⟨g3,v,g4,g5⟩:=I7 hr g1 g2 h4
    refine ⟨v,.inl ⟨hw,fun w'=>?_⟩,by rw [g3];exact hput g5⟩
    unfold execOp
    simp only [hx,Sem.run_bind,g4,Result.andThen_ok,Sem.run_pure]
   ·rename_i s x n hx
    have hi2:jv P X o = some i':=by
     unfold rV rU at hi
     simp only [hx] at hi
     split at hi
     ·split at hi
      ·cases hi
      ·cases hi;assumption
     ·cases hi
    unfold jv at hi2
    simp only [hx] at hi2
    obtain ⟨y,g1,rfl⟩:=zmm hi2
    obtain ⟨g3,v,g4,g5⟩:=Pj (P:=P) hr g1 h4
    refine ⟨v,.inl ⟨hw,fun w'=>?_⟩,by rw [g3];exact hput g5⟩
    unfold execOp
    simp only [hx,Sem.run_bind,g4,Result.andThen_ok,Sem.run_pure]
   ·cases hp
 ·cases h2
theorem BL (heq:∀ t ∈ X.eqs,kL P t) (j6:gL P Γ) (hC:dG P Γ) {ks lS:List Nat} {r:St} {Q:Exit → Act → World → Prop} (hns:Region.noSelect ops = true) (hg:jG P X ops N.ok ops.toList = some gs) (Xh:∀ c a w,¬ Q (.panic c) a w) (hQ:∀ a' w',Ok aV w0 aU N iy r a' w' → Q .normal a' w'):∀ (n:Nat) (l:Array Bool) (os:List (List Nat)) {σ:St} {a:Act} {w:World},l.size = ops.size → exts ops n l = some os → ku Γ gs ks lS σ r os → Ok aV w0 aU N iy σ a w → wpAny P .any ops Q n l a w
 | 0,l,os,σ,a,w,hl,he,hA,hO=>by
  unfold exts at he
  split at he
  ·rename_i hn
   cases he
   obtain ⟨⟨s,h1,h2⟩,_⟩:=hA
   cases h1
   exact ⟨hn,hQ a w (h2 ▸ hO.less (fun _ hp=>jS hp) (fun _ hp=>jS hp))⟩
  ·cases he
 | n + 1,l,os,σ,a,w,hl,he,hA,hO=>by
  unfold exts at he
  obtain ⟨e1,e2⟩:=iE hg
  have hgd:∀ i (hi1:i < ops.size),rW P X ops N.ok ops[i] = some (gs.getD i default):=by
   intro i hi1
   have hgi:=e2 i (by simpa using hi1) (by rw [← e1];simpa using hi1)
   rw [aix,aic (by rw [← e1];simpa using hi1)]
   simpa using hgi
  split at he
  ·rename_i hn
   cases he
   obtain ⟨⟨s,h1,h2⟩,_⟩:=hA
   cases h1
   rw [kE]
   exact ⟨fun _=>hQ a w (h2 ▸ hO.less (fun _ hp=>jS hp) (fun _ hp=>jS hp)),fun i hi=>by rw [hn] at hi;simp at hi⟩
  ·rename_i i0 is0 hn
   split at he
   ·rename_i j hf
    obtain ⟨A,h1,rfl⟩:=zmm he
    have hj:=List.find?_some hf
    rw [ah5] at hj
    have hjr:j ∈ Region.ready .any ops l:=by rw [hn];exact ajS hf
    obtain ⟨hj1,hj2,hj3⟩:=(fM hl).mp hjr
    obtain ⟨s,g1,g2⟩:=hA.step (fun e=>pW n _ (e ▸ h1))
    obtain ⟨v,hy,BM⟩:=G7 (ait hj1) hj.1 (hgd j hj1) hO g1
    exact wpAny_take (ait hj1) hns hj.2 (by simpa using hjr) (fun c a w h=>absurd h (Xh c _ w)) hy (BL heq j6 hC hns hg Xh hQ n _ A (by simp [hl]) h1 g2 BM)
   ·rw [kE]
    refine ⟨fun h=>(by rw [hn] at h;cases h),?_⟩
    rw [hn]
    have hall:∀ i ∈ i0 :: is0,i ∈ Region.ready .any ops l:=fun i hi=>by rw [hn];exact hi
    rename_i hfn
    clear hfn
    generalize i0 :: is0 = is at he hall
    clear hn
    induction is generalizing os with
    | nil=>intro i hi;simp at hi
    | cons j is ih =>
     obtain ⟨A,h1,h2⟩:=zbm he
     obtain ⟨B,h3,rfl⟩:=zmm h2
     obtain ⟨hA1,hA2⟩:=hA.app
     intro i hi
     rcases aif.mp hi with rfl | hi
     ·obtain ⟨hi1,hi2,hi3⟩:=(fM hl).mp (hall i (by simp))
      obtain ⟨s,g1,g2⟩:=hA1.step (fun e=>pW n _ (e ▸ h1))
      unfold wpOp
      rw [ait hi1]
      exact BG heq j6 hC (hgd i hi1) hO g1 fun a' w' h'=>BL heq j6 hC hns hg Xh hQ n _ A (by simp [hl]) h1 g2 h'
     ·exact ih B hA2 h3 (fun i hi=>hall i (aiQ _ hi)) i hi
theorem ku.pre {ks lS:List Nat} {r:St}:∀ {p:List Nat} {A:List (List Nat)} {σ:St},ku Γ gs ks lS σ r (A.map (p ++ ·)) → A ≠ [] → ∃ s,vN Γ false (p.map fun i=>gs.getD i default) σ = some s ∧ ku Γ gs ks lS s r A
 | [],A,σ,h,_=>⟨σ,rfl,by simpa using h⟩
 | i :: p,A,σ,h,hA=>by
  have e:A.map (i :: p ++ ·) = (A.map (p ++ ·)).map (i :: ·):=by rw [List.map_map];rfl
  rw [e] at h
  obtain ⟨s,h1,h2⟩:=h.step (by simpa using hA)
  obtain ⟨s',h3,h4⟩:=ku.pre h2 hA
  refine ⟨s',?_,h4⟩
  show (Oq Γ false σ _).bind _ = _
  rw [h1]
  exact h3
theorem DC (ops:Array Oper):∀ j,∀ x ∈ (jq [] (ops.toList.map iA)).getD j [],I4 ops x j:=xC _ _ (fun j x hx=>by simp at hx) (fun k hk=>by
 have hk':k < ops.size:=by simpa using hk
 refine ⟨by simpa using hk',?_⟩
 rw [ah3,ai7,ait hk']
 simp)
theorem Ld {l:Array Bool} (hd:Down ops l) {i j:Nat} (hb:I4 ops j i):(∀ (h:i < ops.size),∀ e ∈ iA ops[i],Dn l e) → Dn l j:=by
 induction hb with
 | dir h he=>intro hr;exact hr h _ he
 | step h he hj ih=>intro hr;exact ih (fun h'=>hd _ h' (hr h _ he))
theorem BN {h n i:Nat} (hh:h ≤ n):Dn (mask h n) i ↔ i < h:=by
 unfold Dn mask
 rw [aiM,List.getElem?_toArray,ajJ,List.length_replicate]
 split
 ·rename_i h1;simp [List.getElem?_replicate,h1]
 ·rename_i h1
  rw [List.getElem?_replicate]
  split <;> simp [h1]
theorem DF {h n:Nat} (hh:h < n):(mask h n).setIfInBounds h true = mask (h + 1) n:=by
 unfold mask
 refine Array.ext' ?_
 rw [Array.toList_setIfInBounds]
 refine ai4 fun i=>?_
 rw [List.getElem?_set]
 simp only [ajJ,List.length_replicate,List.getElem?_replicate,ah7]
 by_cases h1:h = i
 ·subst h1
  rw [ahX rfl,ahX (by simp;omega),ahX (by omega),ahX (by omega)]
 ·rw [ahY h1]
  by_cases h2:i < h
  ·rw [ahX h2,ahX h2,ahX (by omega),ahX (by omega)]
  ·have h4:¬ i < h + 1:=by omega
   simp only [h2,h4,aik]
   by_cases h3:i < n
   ·rw [ahX (by omega),ahX (by omega)]
   ·rw [ahY (by omega),ahY (by omega)]
theorem G8 (heq:∀ t ∈ X.eqs,kL P t) (j6:gL P Γ) (hC:dG P Γ) {Q:Exit → Act → World → Prop} (hg:jG P X ops N.ok ops.toList = some gs) {h:Nat} (hh:h ≤ ops.size) (hB:G6 (ops.toList.map iA) (jq [] (ops.toList.map iA)) ops.size h = true) {YV:St}
  (hK:∀ a' w',Ok aV w0 aU N iy YV a' w' → wpAny P .any ops Q (ops.size - h) (mask h ops.size) a' w'):∀ (m i:Nat) {σ:St} {a:Act} {w:World},m + i = h → vN Γ false ((List.range' i m).map fun i=>gs.getD i default) σ = some YV → Ok aV w0 aU N iy σ a w → wpAny P .any ops Q (ops.size - i) (mask i ops.size) a w
 | 0,i,σ,a,w,hm,hE,hO=>by
  have:i = h:=by omega
  subst this
  cases hE
  exact hK a w hO
 | m + 1,i,σ,a,w,hm,hE,hO=>by
  obtain ⟨e1,e2⟩:=iE hg
  have hi:i < ops.size:=by omega
  have hgd:rW P X ops N.ok ops[i] = some (gs.getD i default):=by
   have hgi:=e2 i (by simpa using hi) (by rw [← e1];simpa using hi)
   rw [aix,aic (by rw [← e1];simpa using hi)]
   simpa using hgi
  unfold G6 at hB
  rw [ah5] at hB
  have YW:∀ k (hk:k < ops.size),∀ e ∈ iA ops[k],e < k:=fun k hk e he=>by
   have h1:=aib.mp hB.1 k (aiA.mpr hk)
   rw [aix,ah3,ai7,ait hk] at h1
   simpa using aib.mp h1 e he
  have hsz:(mask i ops.size).size = ops.size:=by simp [mask];omega
  have hdn:∀ j,Dn (mask i ops.size) j ↔ j < i:=fun j=>BN (by omega)
  have Le:Down ops (mask i ops.size):=fun j hj hd e he=>(hdn e).mpr (by have:=(hdn j).mp hd;have:=YW j hj e he;omega)
  have hri:i ∈ Region.ready .any ops (mask i ops.size):=(fM hsz).mpr ⟨hi,fun hd=>by have:=(hdn i).mp hd;omega,fun e he=>(hdn e).mpr (YW i hi e he)⟩
  rw [show ops.size - i = (ops.size - (i + 1)) + 1 from by omega,kE]
  refine ⟨fun hn=>by rw [hn] at hri;simp at hri,fun j hj=>?_⟩
  obtain ⟨hj1,hj2,hj3⟩:=(fM hsz).mp hj
  have hij:j = i:=by
   apply aiK
   intro hne
   have hlt:i < j:=by
    have:¬ j < i:=fun hx=>hj2 ((hdn j).mpr hx)
    omega
   have h1:=aib.mp hB.2 j (aiA.mpr hj1)
   have h2:(List.getD (jq [] (ops.toList.map iA)) j []).take (min j h) = List.range (min j h):=by simpa using h1
   have h3:i ∈ (jq [] (ops.toList.map iA)).getD j []:=List.mem_of_mem_take (by rw [h2];exact aiA.mpr (by omega))
   have:=(hdn i).mp (Ld Le (DC ops j i h3) (fun _=>hj3))
   omega
  subst hij
  rw [List.range'_succ,ah8] at hE
  obtain ⟨s,g1,g2⟩:=zbm hE
  unfold wpOp
  rw [ait hi]
  refine BG heq j6 hC hgd hO g1 fun a' w' h'=>?_
  rw [DF hi]
  exact G8 heq j6 hC hg hh (by unfold G6;rw [ah5];exact hB) hK m (j + 1) (by omega) g2 h'
theorem UW (hm:P.follows .mixedOrders = true) (heq:∀ t ∈ X.eqs,kL P t) (j6:gL P Γ) (hC:dG P Γ) {ks lS:List Nat} {os:List (List Nat)} {o:Out} {id:Nat} (hns:Region.noSelect ops = true) (hg:jG P X ops N.ok ops.toList = some gs) (he:La ops = some os) (hO:Ok aV w0 aU N iy σ a w) (hE:evO Γ gs ks lS σ os = some (o,σ')) (hQ:∀ a' w',Ok aV w0 aU N iy σ' a' w' → Q (BK o) a' w'):(Code.region id ops true).wp P Q a w:=by
 refine wp_mono (Q:=fun e a w=>e = .normal ∧ Q e a w) ?_ (fun _ _ _ h=>h.2)
 refine wp_region_any hm ?_
 replace hO:Ok aV w0 aU N iy σ a { w with drawn:=w.drawn + 1 }:=by
  obtain ⟨Fz,κ,hr,hk⟩:=hO
  exact ⟨Fz,κ,hr.grow (w':={ w with drawn:=w.drawn + 1 }) (ah1 _) (fun _ _=>rfl) ⟨rfl,rfl⟩,hk⟩
 cases os with
 | nil=>cases hE
 | cons o1 os =>
  obtain ⟨s,h1,h2⟩:=zbm hE
  split at h2
  ·rename_i hA
   cases h2
   unfold La at he
   simp only [Fh] at he
   split at he
   ·rename_i hcond
    obtain ⟨A,h5,h6⟩:=zmm he
    have hA':ku Γ gs ks lS σ _ (A.map (List.range (Dz (jq [] (ops.toList.map iA)) ops.size 0) ++ ·)):=h6 ▸ (show ku Γ gs ks lS σ ⟨pick ks s.tm,pick lS s.ob⟩ (o1 :: os) from ⟨⟨s,h1,rfl⟩,hA⟩)
    obtain ⟨sh,h7,h8⟩:=hA'.pre (fun e=>pW _ _ (e ▸ h5))
    have hm0:Array.replicate ops.size false = mask 0 ops.size:=by
     unfold mask
     refine Array.ext' ?_
     simp
    rw [hm0]
    refine G8 (i:=0) (h:=Dz (jq [] (ops.toList.map iA)) ops.size 0) heq j6 hC hg hcond.1 hcond.2 (fun a' w' h'=>?_) (Dz (jq [] (ops.toList.map iA)) ops.size 0) (by omega) (by rw [← List.range_eq_range'];exact h7) hO
    exact BL heq j6 hC hns hg (fun c a w h=>by cases h.1) (fun a' w' h=>⟨rfl,hQ a' w' h⟩) _ _ A (by simp [mask];omega) h5 h8 h'
   ·cases he
  ·cases h2
theorem Lf {i:Nat} {o:Oper} {g:G} (ho:ops[i]? = some o) (hp:Pg ops i = true) (hg:rW P X ops N.ok o = some g) (h:Ok aV w0 aU N iy σ a w) (hE:Oq Γ false σ g = some σ'):∃ v,YieldsIf P ops (Ext w) o v a ∧ Ok aV w0 aU N iy σ' (a.put o.dst v) w:=by
 unfold Pg at hp
 cases hpo:K9 ops i with
 | true=>obtain ⟨v,h1,h2⟩:=G7 ho hpo hg h hE;exact ⟨v,h1.yieldsIf,h2⟩
 | false =>
 rw [hpo,Bool.false_or,ho] at hp
 simp only at hp
 obtain ⟨Fz,κ,hr,hk⟩:=h
 obtain ⟨p,h1,rfl⟩:=zmm hE
 obtain ⟨i',hi,h2⟩:=zbm hg
 split at h2
 ·rename_i hd
  cases h2
  have hput:∀ {pv v},gW Fz κ w pv v → Ok aV w0 aU N iy (qA σ o.dst pv) (a.put o.dst v) w:=by
   intro pv v hv
   refine ⟨Fz,κ,?_,hk⟩
   cases hdst:o.dst with
   | none=>exact hr.Kt v
   | some d =>
    rw [hdst] at hd
    exact hr.put (by simpa using hd) hv
  obtain ⟨t,h3,h4⟩:=zbm h1
  cases t with
  | false =>
   rw [ahY (by decide)] at h4
   cases h4
   exact ⟨undef,.inr ⟨Dt hr h3,rfl⟩,hput rfl⟩
  | true =>
   rw [ahX rfl] at h4
   have hw:=Dt hr h3
   have h0:(∀ c,o.op ≠ .call c) → jv P X o = some i':=by
    intro hn
    unfold rV rU at hi
    split at hi
    ·rename_i hh
     split at hh
     ·rename_i c hc;exact absurd hc (hn c)
     ·cases hh
    ·split at hi
     ·split at hi
      ·cases hi
      ·cases hi;assumption
     ·cases hi
   have fin:∀ {v:Value},p.2 = σ → gW Fz κ w p.1 v → (∀ w',Ext w w' → (execOp a.eval o).run P w' = .ok (.value v) w') → ∃ v,YieldsIf P ops (Ext w) o v a ∧ Ok aV w0 aU N iy (qA p.2 o.dst p.1) (a.put o.dst v) w:=fun {v} e1 e2 e3=>⟨v,.inl ⟨hw,e3⟩,by rw [e1];exact hput e2⟩
   split at hp
   ·rename_i t x hx
    have hi2:=h0 (fun c hc=>by rw [hx] at hc;cases hc)
    unfold jv at hi2
    simp only [hx] at hi2
    obtain ⟨g,g1,hi2⟩:=zbm hi2
    obtain ⟨n,g2,hi2⟩:=zbm hi2
    obtain ⟨y,g3,rfl⟩:=zmm hi2
    obtain ⟨g4,v,g5,g6⟩:=K6 (P:=P) hr g1 g2 g3 h4
    refine fin g4 g6 fun w' hw'=>?_
    unfold execOp
    simp only [hx,Sem.run_bind,g5 w' hw',Result.andThen_ok,Sem.run_pure]
   ·rename_i x hx
    have hi2:=h0 (fun c hc=>by rw [hx] at hc;cases hc)
    unfold jv at hi2
    simp only [hx] at hi2
    obtain ⟨y,g3,rfl⟩:=zmm hi2
    obtain ⟨g4,v,g5,g6⟩:=K7 (P:=P) hr g3 h4 hx
    exact fin g4 g6 fun w' _=>g5 w'
   ·rename_i t x y u hx
    have hi2:=h0 (fun c hc=>by rw [hx] at hc;cases hc)
    unfold jv at hi2
    simp only [hx] at hi2
    obtain ⟨x',g1,hi2⟩:=zbm hi2
    obtain ⟨y',g2,hi2⟩:=zbm hi2
    have hb:i' = .ar .sub x' y':=by
     split at hi2 <;> first | (cases hi2;done) | (simp [Xe] at hi2;done) | (simp [Xe] at hi2;exact hi2.symm) | skip
     all_goals (split at hi2 <;> first | (cases hi2;done) | (simp at hi2;done))
    subst hb
    obtain ⟨g4,v,g5,g6⟩:=UN (P:=P) (op:=.sub) (t:=t) (x:=x) (y:=y) hr rfl g1 g2 h4
    refine fin g4 g6 fun w' _=>?_
    unfold execOp
    simp only [hx]
    rw [Sem.run_bind,g5 w']
    rfl
   ·rename_i t x z hx
    have hi2:=h0 (fun c hc=>by rw [hx] at hc;cases hc)
    unfold jv at hi2
    simp only [hx,OM] at hi2
    obtain ⟨e,g1,hi2⟩:=zbm hi2
    obtain ⟨sz,g2,hi2⟩:=zbm hi2
    obtain ⟨x',g3,hi2⟩:=zbm hi2
    obtain ⟨y',g4,rfl⟩:=zmm hi2
    obtain ⟨g5,v,g6,g7⟩:=UO (P:=P) hr g1 g2 g3 g4 h4
    refine fin g5 g7 fun w' _=>?_
    unfold execOp
    simp only [hx,Sem.run_bind,g6,Result.andThen_ok,Sem.run_pure]
   ·cases hp
 ·cases h2
theorem xD (hg:jG P X ops N.ok ops.toList = some gs) {Q:Exit → Act → World → Prop} {h:Nat} {w1:World}:∀ (n:Nat) (l:Array Bool) (a:Act) (w:World),l.size = ops.size → (∀ i,i < h → Dn l i) → wpAny P .any ops Q n l a w → UQ P ops Q (fun j=>decide (j < h) || Fj ops j) (Ext w1) n l a w
 | 0,_,_,_,_,_,hh=>hh
 | n + 1,l,a,w,hl,hd,hh=>by
  refine ⟨hh.1,fun i hi=>?_⟩
  obtain ⟨hi1,hi2,hi3⟩:=(fM hl).mp hi
  have rcu:∀ a' w',wpAny P .any ops Q n (l.setIfInBounds i true) a' w' → UQ P ops Q (fun j=>decide (j < h) || Fj ops j) (Ext w1) n (l.setIfInBounds i true) a' w':=fun a' w' hx=>xD hg n _ a' w' (by simp [hl]) (fun j hj=>(Dn.set (by omega)).mpr (.inr (hd j hj))) hx
  cases hal:Fj ops i with
  | false=>exact wpOp_mono (fun a' w' hx=>⟨fun hm=>by have hm':(decide (i < h) || Fj ops i) = true:=hm;rw [hal,Bool.or_false] at hm';exact absurd (hd i (aiB hm')) hi2,rcu a' w' hx⟩) (hh.2 i hi)
  | true =>
   unfold Fj at hal
   rw [ait hi1] at hal
   simp only at hal
   split at hal
   ·rename_i e he
    obtain ⟨e1,e2⟩:=iE hg
    have hgi:=e2 i (by simpa using hi1) (by rw [← e1];simpa using hi1)
    obtain ⟨i',g1,_⟩:=zbm hgi
    have hz:∃ z,zF P e = some z:=by
     have he':(ops.toList[i]'(by simpa using hi1)).op = .alloc e:=by simpa using he
     unfold rV rU jv at g1
     simp only [he'] at g1
     cases hz:zF P e with
     | none=>rw [hz] at g1;cases g1
     | some z=>exact ⟨z,rfl⟩
    obtain ⟨z,hz⟩:=hz
    exact wpOp_mono (fun a' w' hx=>⟨fun _=>hx.1,rcu a' w' hx.2⟩) (Fg (ait hi1) he hz (hh.2 i hi))
   ·cases hal
theorem DI {Q:Exit → Act → World → Prop} (Xh:∀ c a w,¬ Q (.panic c) a w) (hns:Region.noSelect ops = true) (hg:jG P X ops N.ok ops.toList = some gs) {h:Nat} (hh:h ≤ ops.size) (hB:Fp (ops.toList.map iA) (jq [] (ops.toList.map iA)) ops h = true) {YV:St}
  (hK:∀ a' w',Ok aV w0 aU N iy YV a' w' → wpAny P .any ops Q (ops.size - h) (mask h ops.size) a' w'):∀ (m i:Nat) {σ:St} {a:Act},m + i = h → vN Γ false ((List.range' i m).map fun i=>gs.getD i default) σ = some YV → Ok aV w0 aU N iy σ a w → UQ P ops Q (fun j=>decide (j < h) || Fj ops j) (Ext w) (ops.size - i) (mask i ops.size) a w
 | 0,i,σ,a,hm,hE,hO=>by
  have:i = h:=by omega
  subst this
  cases hE
  exact xD hg _ _ _ _ (by simp [mask];omega) (fun j hj=>(BN hh).mpr hj) (hK a w hO)
 | m + 1,i,σ,a,hm,hE,hO=>by
  obtain ⟨e1,e2⟩:=iE hg
  have hi:i < ops.size:=by omega
  have hgd:rW P X ops N.ok ops[i] = some (gs.getD i default):=by
   have hgi:=e2 i (by simpa using hi) (by rw [← e1];simpa using hi)
   rw [aix,aic (by rw [← e1];simpa using hi)]
   simpa using hgi
  have hB':=hB
  unfold Fp at hB
  rw [ah5,ah5] at hB
  have YW:∀ k (hk:k < ops.size),∀ e ∈ iA ops[k],e < k:=fun k hk e he=>by
   have h1:=aib.mp hB.1 k (aiA.mpr hk)
   rw [aix,ah3,ai7,ait hk] at h1
   simpa using aib.mp h1 e he
  have hsz:(mask i ops.size).size = ops.size:=by simp [mask];omega
  have hdn:∀ j,Dn (mask i ops.size) j ↔ j < i:=fun j=>BN (by omega)
  have Le:Down ops (mask i ops.size):=fun j hj hd e he=>(hdn e).mpr (by have:=(hdn j).mp hd;have:=YW j hj e he;omega)
  have hri:i ∈ Region.ready .any ops (mask i ops.size):=(fM hsz).mpr ⟨hi,fun hd=>by have:=(hdn i).mp hd;omega,fun e he=>(hdn e).mpr (YW i hi e he)⟩
  have hV:=aib.mp hB.2.1 i (aiA.mpr (by omega))
  rw [ah5] at hV
  rw [List.range'_succ,ah8] at hE
  obtain ⟨s,g1,g2⟩:=zbm hE
  obtain ⟨v,hy,BM⟩:=Lf (ait hi) hV.1 hgd hO g1
  rw [show ops.size - i = (ops.size - (i + 1)) + 1 from by omega]
  refine I5 (ait hi) (Region.noSelect_spec hns) Xh (fun l j hl hd hj hni hne=>?_) _ _ _ _ hsz Le (Region.free_spec (ait hi) hV.2) hri hy (Ext.refl w) ?_
  ·obtain ⟨hj1,hj2,hj3⟩:=(fM hl).mp hj
   have h1:=aib.mp hB.2.2 j (aiA.mpr hj1)
   rw [aiV] at h1
   rcases h1 with h1 | h1
   ·exact h1
   ·have h2:(List.getD (jq [] (ops.toList.map iA)) j []).take h = List.range h:=by simpa using h1
    have h3:i ∈ (jq [] (ops.toList.map iA)).getD j []:=List.mem_of_mem_take (by rw [h2];exact aiA.mpr (by omega))
    exact absurd (Ld hd (DC ops j i h3) (fun _=>hj3)) hni
  ·rw [DF hi]
   exact DI Xh hns hg hh hB' hK m (i + 1) (by omega) g2 BM
theorem Pk (hm:P.follows .mixedOrders = true) (heq:∀ t ∈ X.eqs,kL P t) (j6:gL P Γ) (hC:dG P Γ) {ks lS:List Nat} {os:List (List Nat)} {o:Out} {id:Nat} (hns:Region.noSelect ops = true) (hg:jG P X ops N.ok ops.toList = some gs) (he:Lc ops = some os) (hO:Ok aV w0 aU N iy σ a w) (hE:evO Γ gs ks lS σ os = some (o,σ')) (hQ:∀ a' w',Ok aV w0 aU N iy σ' a' w' → Q (BK o) a' w'):(Code.region id ops true).wp P Q a w:=by
 refine wp_mono (Q:=fun e a w=>e = .normal ∧ Q e a w) ?_ (fun _ _ _ h=>h.2)
 refine wp_region_any hm ?_
 replace hO:Ok aV w0 aU N iy σ a { w with drawn:=w.drawn + 1 }:=by
  obtain ⟨Fz,κ,hr,hk⟩:=hO
  exact ⟨Fz,κ,hr.grow (w':={ w with drawn:=w.drawn + 1 }) (ah1 _) (fun _ _=>rfl) ⟨rfl,rfl⟩,hk⟩
 cases os with
 | nil=>cases hE
 | cons o1 os =>
  obtain ⟨s,h1,h2⟩:=zbm hE
  split at h2
  ·rename_i hA
   cases h2
   unfold Lc at he
   simp only [Fh] at he
   split at he
   ·rename_i hcond
    obtain ⟨A,h5,h6⟩:=zmm he
    have hA':ku Γ gs ks lS σ _ (A.map (List.range (Lb ops ops.size 0) ++ ·)):=h6 ▸ (show ku Γ gs ks lS σ ⟨pick ks s.tm,pick lS s.ob⟩ (o1 :: os) from ⟨⟨s,h1,rfl⟩,hA⟩)
    obtain ⟨sh,h7,h8⟩:=hA'.pre (fun e=>pW _ _ (e ▸ h5))
    have hm0:Array.replicate ops.size false = mask 0 ops.size:=by
     unfold mask
     refine Array.ext' ?_
     simp
    rw [hm0]
    refine G5 _ _ _ _ (DI (i:=0) (h:=Lb ops ops.size 0) (fun c a w h=>by cases h.1) hns hg hcond.1 hcond.2 (fun a' w' h'=>?_) (Lb ops ops.size 0) (by omega) (by rw [← List.range_eq_range'];exact h7) hO)
    exact BL heq j6 hC hns hg (fun c a w h=>by cases h.1) (fun a' w' h=>⟨rfl,hQ a' w' h⟩) _ _ A (by simp [mask];omega) h5 h8 h'
   ·cases he
  ·cases h2
theorem DJ (hm:P.follows .mixedOrders = true) (heq:∀ t ∈ X.eqs,kL P t) (j6:gL P Γ) (hC:dG P Γ):∀ (c:Code) {h h':List Hi} {cc:CC} {σ σ':St} {o:Out} {a:Act} {w:World} {Q:Exit → Act → World → Prop},comp P X N.ok c h = some (cc,h') → Ok aV w0 aU N iy σ a w → ev Γ F cc σ = some (o,σ') →
  (∀ a' w',Ok aV w0 aU N iy σ' a' w' → Q (BK o) a' w') → c.wp P Q a w:=by
 intro c
 induction c with
 | skip =>
  intro h h' cc σ σ' o a w Q hc hO hE hQ
  cases hc
  cases hE
  exact wp_skip (hQ a w hO)
 | region id ops draw =>
  intro h h' cc σ σ' o a w Q hc hO hE hQ
  cases h with
  | nil=>cases hc
  | cons k h =>
  obtain ⟨cr,h1,h2⟩:=zmm hc
  cases h2
  obtain ⟨gs,h3,h4⟩:=zbm h1
  cases draw with
  | false =>
   cases h4
   obtain ⟨s,h5,h6⟩:=zmm hE
   cases h6
   exact wp_region_list (KY heq j6 hC h3 hO h5 fun a' w' h=>hQ a' w' (h.keep _))
  | true =>
   simp only [Fh] at h4
   split at h4
   ·split at h4
    ·rename_i hns
     obtain ⟨os,h5,h6⟩:=zmm h4
     cases h6
     exact Pk hm heq j6 hC hns h3 h5 hO hE hQ
    ·cases h4
   ·split at h4
    ·rename_i hns
     obtain ⟨os,h5,h6⟩:=zmm h4
     cases h6
     exact UW hm heq j6 hC hns h3 h5 hO hE hQ
    ·cases h4
   split at h4
   ·rename_i hb
    cases h4
    obtain ⟨s,h5,h6⟩:=zmm hE
    cases h6
    obtain ⟨g1,g2⟩:=I6 (Ph _ _) h3 hb
    exact UM hm g1 heq j6 hC (by rw [g2];exact h3) hO h5 fun a' w' h=>hQ a' w' (h.keep _)
   ·cases h4
 | seq x y ihx ihy =>
  intro h h' cc σ σ' o a w Q hc hO hE hQ
  obtain ⟨p,h1,h2⟩:=zbm hc
  obtain ⟨r,h3,h4⟩:=zmm h2
  cases h4
  obtain ⟨s,h5,h6⟩:=zbm hE
  refine wp_seq (ihx h1 hO h5 fun a' w' BM=>?_)
  cases hs:s.1 with
  | iK=>rw [hs] at h6;exact ihy h3 BM h6 hQ
  | ext id=>rw [hs] at h6;cases h6;exact hQ a' w' BM
  | ret=>rw [hs] at h6;cases h6;exact hQ a' w' BM
 | cond c x y ihx ihy =>
  intro h h' cc σ σ' o a w Q hc hO hE hQ
  obtain ⟨co,h0,hc⟩:=zbm hc
  obtain ⟨p,h1,h2⟩:=zbm hc
  obtain ⟨r,h3,h4⟩:=zmm h2
  cases h4
  obtain ⟨v,h5,h6⟩:=zbm hE
  obtain ⟨t,h7,h8⟩:=zbm h6
  have hv:a.eval c = .bool t:=by
   obtain ⟨Fz,κ,hr,_⟩:=hO
   exact Bf h7 (hr.eval h0 h5)
  refine wp_cond hv ?_
  cases t with
  | true=>exact ihx h1 hO h8 hQ
  | false=>exact ihy h3 hO h8 hQ
 | block id c ih =>
  intro h h' cc σ σ' o a w Q hc hO hE hQ
  obtain ⟨p,h1,h2⟩:=zmm hc
  cases h2
  obtain ⟨s,h3,h4⟩:=zmm hE
  refine wp_block (ih h1 hO h3 fun a' w' BM=>?_)
  cases hs:s.1 with
  | iK=>rw [hs] at h4;cases h4;exact hQ a' w' BM
  | ret=>rw [hs] at h4;cases h4;exact hQ a' w' BM
  | ext i =>
   rw [hs] at h4
   simp only [BK,Exit.inBlock]
   by_cases hi:i = id
   ·simp only [ahX hi] at h4
    cases h4;rw [ahX hi];exact hQ a' w' BM
   ·simp only [ahY hi] at h4
    cases h4;rw [ahY hi];exact hQ a' w' BM
 | loop c ih =>
  intro h h' cc σ σ' o a w Q hc hO hE hQ
  cases h with
  | nil=>cases hc
  | cons k h =>
   obtain ⟨p,h1,h2⟩:=zmm hc
   cases h2
   have key:∀ (n:Nat) (σ:St) (a:Act) (w:World),Ok aV w0 aU N iy σ a w → iter (ev Γ F p.1) (Ev.res k.ks k.AX k.rws) n σ = some (o,σ') → Code.rounds P c Q n a w:=by
    intro n
    induction n with
    | zero=>intro σ a w _ hE;cases hE
    | succ n ihn =>
     intro σ a w hO hE
     obtain ⟨s,h3,h4⟩:=zbm hE
     rw [rounds_succ]
     refine ih h1 (hO.res k.ks k.AX k.rws) h3 fun a' w' BM=>?_
     cases hs:s.1 with
     | iK=>rw [hs] at h4;exact ihn s.2 a' w' BM h4
     | ext id=>rw [hs] at h4;cases h4;exact hQ a' w' BM
     | ret=>rw [hs] at h4;cases h4;exact hQ a' w' BM
   exact wp_loop_rounds F (key F σ a w hO hE)
 | exit id =>
  intro h h' cc σ σ' o a w Q hc hO hE hQ
  cases hc
  cases hE
  exact wp_exit (hQ a w hO)
 | ret =>
  intro h h' cc σ σ' o a w Q hc hO hE hQ
  cases hc
  cases hE
  exact wp_ret (hQ a w hO)
 | scope c ih =>
  intro h h' cc σ σ' o a w Q hc hO hE hQ
  refine wp_scope_straight (ih hc hO hE fun a' w' h'=>?_)
  have:=hQ a' w' h'
  cases o <;> exact this
 | label l =>
  intro h h' cc σ σ' o a w Q hc hO hE hQ
  cases hc
  cases hE
  exact wp_label (hQ a w hO)
 | _=>intro h h' cc σ σ' o a w Q hc;cases hc
end
end
section
open Go
section
variable {P : Program} {Γ:Env} {aV Fz bg:Nat → Prop} {w0 w w':World} {aU bs:List Nat} {N:Fr} {F:Nat} {κ iy:Nat → Value} {σ fB σ':St} {a:Act} {X:Hx}
theorem DK {bo:List Nat}:∀ {dV:List AV} {vals:List Value} {bx bs:List Nat} {i:Nat} {pend:List PL} {jo:List Value} {mq:List CV} {κ:Nat → Value} {σ σ':St},bO aV w0 aU N (bx ++ bs) Fz κ σ a w → eZ Fz w dV vals bx → (∀ j v,vals[j]? = some v → a.tmps.getD (i + j) undef = v) → aM Fz κ w pend jo → enter bo i pend σ dV = some (mq,σ') →
  ∃ eF,bO aV w0 aU N bs Fz eF σ' a w ∧ dH Fz eF w mq vals ∧ aM Fz eF w pend jo
 | [],[],bx,bs,i,pend,jo,mq,κ,σ,σ',h,hx,ht,hp,hs=>by cases hs;cases hx;exact ⟨κ,h,trivial,hp⟩
 | [],_ :: _,_,_,_,_,_,_,_,_,_,_,hx,_,_,_=>hx.elim
 | _ :: _,[],_,_,_,_,_,_,_,_,_,_,hx,_,_,_=>hx.elim
 | x :: dV,v :: vals,bx,bs,i,pend,jo,mq,κ,σ,σ',h,hx,ht,hp,hs=>by
  obtain ⟨b1,b2,h1,h2,rfl⟩:=hx
  obtain ⟨p,h3,h4⟩:=zbm hs
  obtain ⟨r,h5,h6⟩:=zmm h4
  cases h6
  obtain ⟨zf,e1,e2,e3,_⟩:=KQ (Kp:=fun _=>True) (fun _ _=>trivial) (fun _ _ _=>trivial) trivial (bs:=b2 ++ bs) (by rw [← aiP];exact h) h1 hp h3
  have hv:a.tmps.getD i undef = v:=by have:=ht 0 v rfl;rwa [Nat.add_zero] at this
  have hrel:bO aV w0 aU N (b2 ++ bs) Fz zf ⟨Ev.put p.2.tm i (.c p.1),p.2.ob⟩ a w:=⟨e1.rel.put' (by rw [hv];exact e2),e1.lJ,e1.ap⟩
  obtain ⟨E5,g1,g2,g3⟩:=DK hrel h2 (fun j u hj=>by have:=ht (j + 1) u (by simpa using hj);rwa [show i + 1 + j = i + (j + 1) from by omega]) (show aM Fz zf w (Ev.cells p.1 ++ pend) (Ev.Dp p.1 v ++ jo) from e2.Dp.app e3) h5
  obtain ⟨g5,g6⟩:=g3.BD (by have:=e2.Dp.length;omega)
  exact ⟨E5,g1,⟨fJ.KR (fun xs hx=>by rw [hx] at e2;obtain ⟨cs,h,_⟩:=e2;exact ⟨cs,h⟩) g5,g2⟩,g6⟩
theorem wu (h:bO aV w0 aU N bs Fz κ σ a w) {x:PL} {y:TV} {v:Value} (hx:dW Fz κ w x v) (hs:outT σ x = some (y,σ')):∃ bg bx,bO aV w0 aU N (bx ++ bs) bg κ σ' a w ∧ (∀ b,Fz b → bg b) ∧ mE bg w y v bx:=by
 cases x with
 | f x=>cases hs;exact ⟨Fz,[],h,fun _ h=>h,hx,rfl⟩
 | bK=>cases hs;exact ⟨Fz,[],h,fun _ h=>h,by simp only [eO];exact ⟨none,0,hx,ah1 _,by simp,.inl trivial⟩,rfl⟩
 | iw=>cases hs;exact ⟨Fz,[],h,fun _ h=>h,hx,rfl⟩
 | eH=>cases hs;exact ⟨Fz,[],h,fun _ h=>h,hx,rfl⟩
 | fp cs=>cases hs;exact ⟨Fz,[],h,fun _ h=>h,dW.mono (κ:=κ) (eF:=fun _=>undef) (fun _ h=>h) (fun _ _=>rfl) (fun k hk=>by cases hk) hx,rfl⟩
 | fn f cs=>cases hs;exact ⟨Fz,[],h,fun _ h=>h,dW.mono (κ:=κ) (eF:=fun _=>undef) (fun _ h=>h) (fun _ _=>rfl) (fun k hk=>by cases hk) hx,rfl⟩
 | own key n =>
  obtain ⟨p,h1,h2⟩:=zmm hs
  cases h2
  obtain ⟨bg,g1,g2,g3⟩:=h.uU hx h1
  exact ⟨bg,[],g1,g2,g3,rfl⟩
 | mp key =>
  simp only [outT] at hs
  split at hs
  ·rename_i sh ents fK
   cases hs
   obtain ⟨b,h1,h2⟩:=h.rel.obj fK
   exact ⟨Fz,[b],h.take fK (by rw [h1];rfl),fun _ h=>h,b,by rw [hx.1,h1],h2,rfl⟩
  ·cases hs
 | ptr key off =>
  cases off with
  | succ n=>cases hs
  | zero =>
   simp only [outT] at hs
   split at hs
   ·rename_i xs fK
    obtain ⟨p,h1,h2⟩:=zmm hs
    cases h2
    obtain ⟨b,cs,e,g1,g2,g3⟩:=h.rel.obj fK
    obtain ⟨b',g4,g5⟩:=hx
    rw [g1] at g4
    cases g4
    obtain ⟨F1,bx,e1,e2,e3⟩:=Bv (h.take fK (by rw [g1];rfl)) g3 h1
    exact ⟨F1,b :: bx,e1.perm List.perm_middle,e2,b,cs,e,bx,g5,g2,e3,rfl⟩
   ·cases hs
 | _=>cases hs
theorem DL : ∀ {xs:List PL} {ys:List TV} {vs:List Value} {bs:List Nat} {Fz:Nat → Prop} {σ σ':St},bO aV w0 aU N bs Fz κ σ a w → aM Fz κ w xs vs → uV σ xs = some (ys,σ') → ∃ bg bx,bO aV w0 aU N (bx ++ bs) bg κ σ' a w ∧ (∀ b,Fz b → bg b) ∧ j5 bg w ys vs bx
 | [],ys,[],bs,Fz,σ,σ',h,_,hs=>by cases hs;exact ⟨Fz,[],h,fun _ h=>h,rfl⟩
 | x :: xs,ys,v :: vs,bs,Fz,σ,σ',h,hx,hs=>by
  obtain ⟨p,h1,h2⟩:=zbm hs
  obtain ⟨r,h3,h4⟩:=zmm h2
  cases h4
  obtain ⟨F1,b1,e1,e2,e3⟩:=wu h hx.1 h1
  obtain ⟨F2,b2,e4,e5,e6⟩:=DL e1 (aM.mono e2 (fun _ _=>rfl) xs (fun _ _=>rfl) vs hx.2) h3
  refine ⟨F2,b1 ++ b2,e4.perm ?_,fun b hb=>e5 b (e2 b hb),b1,b2,e3.mono e5 (fun _ _=>rfl) (fun _ _=>rfl),e6,rfl⟩
  rw [← aiP]
  exact List.perm_append_comm.append_right bs
 | [],_,_ :: _,_,_,_,_,_,h,_=>h.elim
 | _ :: _,_,[],_,_,_,_,_,h,_=>h.elim
theorem Pm (h:bO aV w0 aU N bs Fz κ σ a w) {x:CV} {y:AV} {v:Value} (hx:fJ Fz κ w x v) (hs:OH σ x = some (y,σ')):∃ bg bx,bO aV w0 aU N (bx ++ bs) bg κ σ' a w ∧ (∀ b,Fz b → bg b) ∧ ou bg w y v bx:=by
 cases x with
 | one x =>
  obtain ⟨p,h1,h2⟩:=zmm hs
  cases h2
  exact wu h hx h1
 | agg xs =>
  obtain ⟨p,h1,h2⟩:=zmm hs
  cases h2
  obtain ⟨cs,rfl,hx⟩:=hx
  obtain ⟨F1,b1,e1,e2,e3⟩:=DL h hx h1
  exact ⟨F1,b1,e1,e2,cs,rfl,e3⟩
theorem Pn (h:bO aV w0 aU N bs Fz κ σ a w) {sz:Nat} {x:PL} {y:TV} {v:Value} (hx:dW Fz κ w x v) (hs:A8 sz σ x = some (y,σ')):∃ bx,bO aV w0 aU N (bx ++ bs) Fz κ σ' a w ∧ mE Fz w y v bx:=by
 cases x with
 | own key n =>
  simp only [A8] at hs
  split at hs
  ·rename_i z rows fK
   split at hs
   ·rename_i hz
    subst hz
    cases hs
    obtain ⟨g1,g2⟩:=h.GH fK
    exact ⟨_,g1,by rw [hx.1];exact g2⟩
   ·cases hs
  ·cases hs
 | bK =>
  simp only [A8] at hs
  split at hs
  ·cases hs
  ·rename_i hz
   cases hs
   have hv:v = .slice none 0 0:=hx
   subst hv
   exact ⟨[],h,by omega,0,[],none,0,rfl,World.ownsRow_nil w _ _ _,rfl,rfl⟩
 | _=>cases hs
theorem Po (h:bO aV w0 aU N bs Fz κ σ a w) {fl:Option Nat} {x:CV} {y:AV} {v:Value} (hx:fJ Fz κ w x v) (hs:A9 fl σ x = some (y,σ')):∃ bg bx,bO aV w0 aU N (bx ++ bs) bg κ σ' a w ∧ (∀ b,Fz b → bg b) ∧ ou bg w y v bx:=by
 cases fl with
 | none=>exact Pm h hx (by cases x <;> exact hs)
 | some sz =>
  cases x with
  | one x =>
   obtain ⟨p,h1,h2⟩:=zmm hs
   cases h2
   obtain ⟨bx,e1,e2⟩:=Pn h hx h1
   exact ⟨Fz,bx,e1,fun _ h=>h,e2⟩
  | agg xs=>cases hs
theorem DN : ∀ {xs:List CV} {ys:List AV} {vs:List Value} {fl:List (Option Nat)} {bs:List Nat} {Fz:Nat → Prop} {σ σ':St},bO aV w0 aU N bs Fz κ σ a w → dH Fz κ w xs vs → lV fl σ xs = some (ys,σ') → ∃ bg bx,bO aV w0 aU N (bx ++ bs) bg κ σ' a w ∧ (∀ b,Fz b → bg b) ∧ eZ bg w ys vs bx
 | [],ys,[],fl,bs,Fz,σ,σ',h,_,hs=>by cases hs;exact ⟨Fz,[],h,fun _ h=>h,rfl⟩
 | x :: xs,ys,v :: vs,fl,bs,Fz,σ,σ',h,hx,hs=>by
  obtain ⟨p,h1,h2⟩:=zbm hs
  obtain ⟨r,h3,h4⟩:=zmm h2
  cases h4
  obtain ⟨F1,b1,e1,e2,e3⟩:=Po h hx.1 h1
  obtain ⟨F2,b2,e4,e5,e6⟩:=DN e1 (dH.mono e2 (fun _ _=>rfl) xs (fun _ _=>rfl) vs hx.2) h3
  refine ⟨F2,b1 ++ b2,e4.perm ?_,fun b hb=>e5 b (e2 b hb),b1,b2,e3.mono e5 (fun _ _=>rfl) (fun _ _=>rfl),e6,rfl⟩
  rw [← aiP]
  exact List.perm_append_comm.append_right bs
 | [],_,_ :: _,_,_,_,_,_,_,h,_=>h.elim
 | _ :: _,_,[],_,_,_,_,_,_,h,_=>h.elim
theorem DR {x:PL} {y z:TV} {v:Value} {ER:List Nat} {F0:Nat → Prop} {u0:World} (h:bO aV w0 aU N bs Fz κ σ a w) {Lg:Nat → Value} (hx:dW F0 Lg u0 x v) (J9:∀ k,k % 2 = 1 → κ k = Lg k) (hy:mE F0 u0 y v ER) (hf:∀ b,F0 b → Fz b) (hw:∀ b,F0 b → w.heap[b]? = u0.heap[b]?) (hs:jB σ x y = some (z,σ')) :
  ∃ bg bx,bO aV w0 aU N (bx ++ bs) bg κ σ' a w ∧ (∀ b,Fz b → bg b) ∧ mE bg w z v bx:=by
 have plain:ER = [] → some (y,σ) = some (z,σ') → ∃ bg bx,bO aV w0 aU N (bx ++ bs) bg κ σ' a w ∧ (∀ b,Fz b → bg b) ∧ mE bg w z v bx:=by
  intro hb hs
  cases hs
  subst hb
  exact ⟨Fz,[],h,fun _ h=>h,hy.mono hf hw (fun b hb=>by simp at hb)⟩
 cases y with
 | ptr cs =>
  cases x with
  | ptr key off =>
   cases off with
   | succ n=>cases hs
   | zero =>
    simp only [jB] at hs
    split at hs
    ·rename_i hk
     exact wu h (show dW Fz κ w (.ptr key 0) v by obtain ⟨b,h1,h2⟩:=hx;exact ⟨b,(J9 key hk).trans h1,h2⟩) hs
    ·cases hs
  | _=>cases hs
 | mp sh ents =>
  cases x with
  | mp key =>
   simp only [jB] at hs
   split at hs
   ·rename_i hk
    exact wu h (show dW Fz κ w (.mp key) v by obtain ⟨h1,h2⟩:=hx;exact ⟨h1.trans (J9 key hk).symm,h2⟩) hs
   ·cases hs
  | ptr key off=>cases off <;> cases hs
  | _=>cases hs
 | own sz rows =>
  have g:z = .any → σ' = σ → ∃ bg bx,bO aV w0 aU N (bx ++ bs) bg κ σ' a w ∧ (∀ b,Fz b → bg b) ∧ mE bg w z v bx:=by
   rintro rfl rfl
   exact ⟨Fz,[],h,fun _ h=>h,rfl⟩
  cases x with
  | ptr key off=>cases off <;> (cases hs;exact g rfl rfl)
  | own key n =>
   simp only [jB] at hs
   split at hs
   ·rename_i hk
    split at hs
    ·rename_i z' rows' fK
     cases hs
     obtain ⟨g1,g2⟩:=h.GH fK
     refine ⟨Fz,_,g1,fun _ h=>h,?_⟩
     rw [hx.1,← J9 key hk]
     exact g2
    ·cases hs
   ·cases hs;exact g rfl rfl
  | _=>cases hs;exact g rfl rfl
 | fp cs =>
  cases x with
  | ptr key off=>cases off <;> exact plain hy.2 hs
  | _=>exact plain hy.2 hs
 | fn f cs =>
  cases x with
  | ptr key off=>cases off <;> exact plain hy.2 hs
  | _=>exact plain hy.2 hs
 | any =>
  cases x with
  | ptr key off=>cases off <;> exact plain hy hs
  | _=>exact plain hy hs
 | f y =>
  cases x with
  | ptr key off=>cases off <;> exact plain hy.2 hs
  | _=>exact plain hy.2 hs
 | iw =>
  cases x with
  | ptr key off=>cases off <;> exact plain hy.2 hs
  | _=>exact plain hy.2 hs
 | eH =>
  cases x with
  | ptr key off=>cases off <;> exact plain hy.2 hs
  | _=>exact plain hy.2 hs
theorem zU {F0:Nat → Prop} {u0:World} {Lg:Nat → Value} (J9:∀ k,k % 2 = 1 → κ k = Lg k):∀ {xs:List PL} {ys zs:List TV} {vs:List Value} {bs ER:List Nat} {Fz:Nat → Prop} {σ σ':St},bO aV w0 aU N bs Fz κ σ a w → aM F0 Lg u0 xs vs → j5 F0 u0 ys vs ER → (∀ b,F0 b → Fz b) → (∀ b,F0 b → w.heap[b]? = u0.heap[b]?) → nK σ xs ys = some (zs,σ') →
  ∃ bg bx,bO aV w0 aU N (bx ++ bs) bg κ σ' a w ∧ (∀ b,Fz b → bg b) ∧ j5 bg w zs vs bx
 | [],[],zs,[],bs,ER,Fz,σ,σ',h,hx,hy,hf,hw,hs=>by cases hs;exact ⟨Fz,[],h,fun _ h=>h,rfl⟩
 | x :: xs,y :: ys,zs,v :: vs,bs,ER,Fz,σ,σ',h,hx,hy,hf,hw,hs=>by
  obtain ⟨y1,y2,h1,h2,_⟩:=hy
  obtain ⟨p,h3,h4⟩:=zbm hs
  obtain ⟨r,h5,h6⟩:=zmm h4
  cases h6
  obtain ⟨F1,b1,e1,e2,e3⟩:=DR h hx.1 J9 h1 hf hw h3
  obtain ⟨F2,b2,e4,e5,e6⟩:=zU J9 e1 hx.2 h2 (fun b hb=>e2 b (hf b hb)) hw h5
  refine ⟨F2,b1 ++ b2,e4.perm ?_,fun b hb=>e5 b (e2 b hb),b1,b2,e3.mono e5 (fun _ _=>rfl) (fun _ _=>rfl),e6,rfl⟩
  rw [← aiP]
  exact List.perm_append_comm.append_right bs
 | [],[],_,_ :: _,_,_,_,_,_,_,hx,_,_,_,_=>hx.elim
 | _ :: _,_ :: _,_,[],_,_,_,_,_,_,hx,_,_,_,_=>hx.elim
 | [],_ :: _,_,_,_,_,_,_,_,_,_,_,_,_,hs=>by cases hs
 | _ :: _,[],_,_,_,_,_,_,_,_,_,_,_,_,hs=>by cases hs
theorem Lh {F0:Nat → Prop} {u0:World} {Lg:Nat → Value} (J9:∀ k,k % 2 = 1 → κ k = Lg k) {x:CV} {y z:AV} {v:Value} {ER:List Nat} (h:bO aV w0 aU N bs Fz κ σ a w) (hx:fJ F0 Lg u0 x v) (hy:ou F0 u0 y v ER) (hf:∀ b,F0 b → Fz b) (hw:∀ b,F0 b → w.heap[b]? = u0.heap[b]?) (hs:wP σ x y = some (z,σ')) :
  ∃ bg bx,bO aV w0 aU N (bx ++ bs) bg κ σ' a w ∧ (∀ b,Fz b → bg b) ∧ ou bg w z v bx:=by
 cases x with
 | one x =>
  cases y with
  | one y =>
   obtain ⟨p,h1,h2⟩:=zmm hs
   cases h2
   exact DR h hx J9 hy hf hw h1
  | agg ys=>cases hs
 | agg xs =>
  cases y with
  | one y=>cases hs
  | agg ys =>
   obtain ⟨p,h1,h2⟩:=zmm hs
   cases h2
   obtain ⟨cs,rfl,hx⟩:=hx
   obtain ⟨cs',hcs,hy⟩:=hy
   cases hcs
   obtain ⟨F1,b1,e1,e2,e3⟩:=zU J9 h hx hy hf hw h1
   exact ⟨F1,b1,e1,e2,cs,rfl,e3⟩
theorem zV {F0:Nat → Prop} {u0:World} {Lg:Nat → Value} (J9:∀ k,k % 2 = 1 → κ k = Lg k):∀ {xs:List CV} {ys zs:List AV} {vs:List Value} {bs ER:List Nat} {Fz:Nat → Prop} {σ σ':St},bO aV w0 aU N bs Fz κ σ a w → dH F0 Lg u0 xs vs → eZ F0 u0 ys vs ER → (∀ b,F0 b → Fz b) → (∀ b,F0 b → w.heap[b]? = u0.heap[b]?) → jF σ xs ys = some (zs,σ') →
  ∃ bg bx,bO aV w0 aU N (bx ++ bs) bg κ σ' a w ∧ (∀ b,Fz b → bg b) ∧ eZ bg w zs vs bx
 | [],[],zs,[],bs,ER,Fz,σ,σ',h,hx,hy,hf,hw,hs=>by cases hs;exact ⟨Fz,[],h,fun _ h=>h,rfl⟩
 | x :: xs,y :: ys,zs,v :: vs,bs,ER,Fz,σ,σ',h,hx,hy,hf,hw,hs=>by
  obtain ⟨y1,y2,h1,h2,_⟩:=hy
  obtain ⟨p,h3,h4⟩:=zbm hs
  obtain ⟨r,h5,h6⟩:=zmm h4
  cases h6
  obtain ⟨F1,b1,e1,e2,e3⟩:=Lh J9 h hx.1 h1 hf hw h3
  obtain ⟨F2,b2,e4,e5,e6⟩:=zV J9 e1 hx.2 h2 (fun b hb=>e2 b (hf b hb)) hw h5
  refine ⟨F2,b1 ++ b2,e4.perm ?_,fun b hb=>e5 b (e2 b hb),b1,b2,e3.mono e5 (fun _ _=>rfl) (fun _ _=>rfl),e6,rfl⟩
  rw [← aiP]
  exact List.perm_append_comm.append_right bs
 | [],[],_,_ :: _,_,_,_,_,_,_,hx,_,_,_,_=>hx.elim
 | _ :: _,_ :: _,_,[],_,_,_,_,_,_,hx,_,_,_,_=>hx.elim
 | [],_ :: _,_,_,_,_,_,_,_,_,_,_,_,_,hs=>by cases hs
 | _ :: _,[],_,_,_,_,_,_,_,_,_,_,_,_,hs=>by cases hs
end
end
section
open Go
def mK (P:Program):List ResultVar → Option (List Rs)
 | []=>some []
 | .tmp t :: l=>(mK P l).map fun r=>.t t :: r
 | .cell a t :: l=>(uj P t).bind fun g=>(kC P t).bind fun n=>(mK P l).map fun r=>.cell a (if g then n else 1) g :: r
section
variable {P : Program} {Γ:Env} {aV Fz bg:Nat → Prop} {w0 w w':World} {aU bs:List Nat} {N:Fr} {F:Nat} {κ iy:Nat → Value} {σ fB σ':St} {a:Act} {X:Hx}
def zW (tmps:Array Value) (r:ResultVar):Sem Value:=match r with
 | .tmp t=>pure (tmps.getD t undef)
 | .cell a t=>do loadVar t (← asAddr (tmps.getD a undef))
theorem xE (h:Rel aV w0 aU N Fz κ σ a w):∀ {rv:List ResultVar} {rs:List Rs} {mq:List CV},mK P rv = some rs → slots σ rs = some mq → ∃ vs,(rv.mapM (zW a.tmps)).run P w = .ok vs w ∧ dH Fz κ w mq vs
 | [],rs,mq,hc,hs=>by cases hc;cases hs;exact ⟨[],by simp,trivial⟩
 | .tmp t :: l,rs,mq,hc,hs=>by
  obtain ⟨r,h1,rfl⟩:=zmm hc
  obtain ⟨x,h2,hs⟩:=zbm hs
  obtain ⟨m,h3,rfl⟩:=zmm hs
  obtain ⟨vs,e1,e2⟩:=xE h h1 h3
  have hv:=h.eval (x:=.tmp t) (y:=.t t) rfl h2
  refine ⟨a.tmps.getD t undef :: vs,?_,hv,e2⟩
  rw [List.mapM_cons]
  simp [zW,e1]
 | .cell ad t :: l,rs,mq,hc,hs=>by
  obtain ⟨g,hg,hc⟩:=zbm hc
  obtain ⟨n,hn,hc⟩:=zbm hc
  obtain ⟨r,h1,rfl⟩:=zmm hc
  obtain ⟨x,h2,hs⟩:=zbm hs
  obtain ⟨m,h3,rfl⟩:=zmm hs
  obtain ⟨vs,e1,e2⟩:=xE h h1 h3
  simp only [slot] at h2
  split at h2
  ·rename_i key off hk
   split at h2
   ·rename_i xs fK
    obtain ⟨sg,h5,h6⟩:=zbm h2
    have hv:gW Fz κ w (.c (.one (.ptr key off))) (a.tmps.getD ad undef):=h.val hk
    obtain ⟨b,g1,g2⟩:=hv
    obtain ⟨b',cs,e,g3,g4,g5⟩:=h.obj fK
    rw [g1] at g3
    cases g3
    obtain ⟨e6,e7,e8⟩:=g5.seg h5
    obtain ⟨v,e9,e10⟩:=mH (P:=P) (b:=b) (o:=off) hg hn e6 (fun j v hj=>by
     have:=kD (w:=w) (b:=b) (o:=0) (off:=off) (vs:=cs.toList) (n:=if g then n else 1) (fun j v hj=>by
      rw [aip]
      simp only [World.cell?,g4]
      simpa using hj) j v hj
     rwa [aip] at this) e7 h6
    refine ⟨v :: vs,?_,e10,e2⟩
    have ha:(asAddr (a.tmps.getD ad undef)).run P w = .ok ⟨b,off,none⟩ w:=by rw [g2];rfl
    have hro:(zW a.tmps (.cell ad t)).run P w = .ok v w:=by
     simp only [zW,Sem.run_bind,ha,Result.andThen_ok]
     exact e9
    rw [List.mapM_cons]
    simp only [Sem.run_bind,hro,e1,Result.andThen_ok,Sem.run_pure]
   ·cases h2
  ·cases h2
theorem Fq (h:Rel aV w0 aU N Fz κ σ a w) {fn:Func} {rs:List Rs} {mq:List CV} (hc:mK P fn.results.toList = some rs) (hs:slots σ rs = some mq):∃ vs,(results fn a.tmps).run P w = .ok (ret vs) w ∧ dH Fz κ w mq vs:=by
 obtain ⟨vs,h1,h2⟩:=xE h hc hs
 refine ⟨vs,?_,h2⟩
 have he:results fn a.tmps = (do let vs ← fn.results.mapM (zW a.tmps);pure (if h:vs.size = 1 then vs[0] else .tuple vs)):=by
  unfold results zW
  congr 1
 rw [he,Array.mapM_eq_mapM_toList]
 simp only [Sem.run_bind,Sem.run_map,h1,Result.andThen_ok,Sem.run_pure]
 match vs with
 | []=>rfl
 | [x]=>rfl
 | x :: y :: l=>simp [ret]
theorem Li {fn:Func} {cf:CF} {dV rs oP:List AV} {vals:List Value} {mq:List CV} {N:Fr} (hr:mK P fn.results.toList = some cf.res) (ha:eZ Fz w dV vals bs) (hap:∀ b ∈ bs,¬ Fz b ∧ b < w.heap.size) (hfz:∀ b,Fz b → b < w.heap.size) (g2:dH Fz iy w mq vals) :
  ∀ a' w',Ok Fz w bs N iy σ a' w' → ((jF σ mq dV).bind fun b=>(slots b.2 cf.res).bind fun l=>(lV cf.ro b.2 l).map fun r=>(r.1,b.1)) = some (rs,oP) →
    a'.defers = N.ds ∧ ∃ v,(results fn a'.tmps).run P w' = .ok v w' ∧ ∃ bg sw b1 b2,Ending.returned v = .returned (ret sw) ∧ Post Fz w vals bs rs oP bg w' sw b1 b2:=by
 rintro a' w' ⟨F1,κ,hr1,hk⟩ hE
 obtain ⟨b,h3,hE⟩:=zbm hE
 obtain ⟨l,h4,hE⟩:=zbm hE
 obtain ⟨r,h5,h6⟩:=zmm hE
 cases h6
 have hmv:∀ b,Fz b → w'.heap[b]? = w.heap[b]?:=fun b hb=>hr1.ext b (hfz b hb) (fun hm=>(hap b hm).1 hb)
 obtain ⟨F2,b1,e1,e2,e3⟩:=zV hk hr1.x g2 ha (fun b hb=>hr1.yU b hb) hmv h3
 rw [ai1] at e1
 obtain ⟨sw,e4,e5⟩:=Fq e1.rel hr h4
 obtain ⟨F3,b2,e6,e7,e8⟩:=DN e1 e5 h5
 have hpm:=e6.perm List.perm_append_comm
 refine ⟨hr1.lJ,ret sw,e4,F3,sw,b1,b2,rfl,fun b hb=>e7 b (e2 b (hr1.yU b hb)),fun b hb=>e6.rel.fz b hb,hr1.big,hr1.ext,hr1.kp,e3.mono e7 (fun _ _=>rfl) (fun _ _=>rfl),e8,hpm.lJ,fun b hb=>?_⟩
 have:=hpm.ap b hb
 exact ⟨this.1,this.2.1,this.2.2.1⟩
theorem eZ.len : ∀ {xs:List AV} {vs:List Value} {b:List Nat},eZ Fz w xs vs b → vs.length = xs.length
 | [],[],_,_=>rfl
 | [],_ :: _,_,h=>h.elim
 | _ :: _,[],_,h=>h.elim
 | x :: xs,v :: vs,_,⟨_,_,_,h2,_⟩=>by simp [eZ.len h2]
theorem entered {bo:List Nat} {n:Nat} {dV:List AV} {vals:List Value} {mq:List CV} (ha:eZ Fz w dV vals bs) (hnd:bs.Nodup) (hap:∀ b ∈ bs,¬ Fz b ∧ b < w.heap.size) (hfz:∀ b,Fz b → b < w.heap.size)
  (hsz:(vals.toArray ++ Array.replicate (n - vals.toArray.size) undef).size = n) (h1:enter bo 0 [] ⟨[],[]⟩ dV = some (mq,σ)) :
  ∃ iy,Ok Fz w bs (Fr.of n) iy σ { tmps:=vals.toArray ++ Array.replicate (n - vals.toArray.size) undef,defers:=[] } w ∧ dH Fz iy w mq vals:=by
 have YX:bO Fz w bs (Fr.of n) (bs ++ []) Fz (fun _=>undef) ⟨[],[]⟩ { tmps:=vals.toArray ++ Array.replicate (n - vals.toArray.size) undef,defers:=[] } w :=
  ⟨⟨fun p hp=>by simp at hp,hsz,rfl,fun d hd=>by
   rw [aiM,aja (by rw [hsz];simpa [Fr.of,Bb] using hd)];rfl,fun p hp=>by simp at hp,fun p hp=>by simp at hp,fun p hp=>by simp at hp,fun b hb=>⟨hfz b hb,.inl hb⟩,fun _ h=>h,ah1 _,fun _ _ _=>rfl,rfl,rfl⟩,by rw [ai1];exact hnd,fun b hb=>by
   rw [ai1] at hb
   exact ⟨(hap b hb).1,(hap b hb).2,.inl hb,fun p hp=>by simp at hp⟩⟩
 obtain ⟨iy,g1,g2,_⟩:=DK YX ha (fun j v hj=>by
  rw [aip,aiM,Array.getElem?_append_left (by
   have:=(aiO.mp hj).1
   simpa using this)]
  simp [hj]) (show aM Fz (fun _=>undef) w [] [] from trivial) h1
 exact ⟨iy,⟨Fz,iy,g1.rel,fun _ _=>rfl⟩,g2⟩
theorem zX (hm:P.follows .mixedOrders = true) (heq:∀ t ∈ X.eqs,kL P t) (j6:gL P Γ) (hC:dG P Γ) {f:FuncId} {fn:Func} {c:Code} (hf:P.funcs[f]? = some fn) (hb:fn.body = some c) {cf:CF} {hints rest:List Hi}
  (hc:comp P X (Bb fn.ntmps) c hints = some (cf.body,rest)) (hr:mK P fn.results.toList = some cf.res) (hnp:cf.np ≤ fn.ntmps) (F:Nat):Sat P f (IU Γ F cf):=by
 intro dV rs oP hE Fz w vals bs ha hnd hap hfz
 unfold IU at hE
 split at hE
 ·cases hE
 ·rename_i hlen
  have hlen':dV.length = cf.np:=aiJ.mp hlen
  have hvl:vals.length = dV.length:=ha.len
  obtain ⟨e,h1,hE⟩:=zbm hE
  obtain ⟨p,h2,hE⟩:=zbm hE
  refine calls_of_wp hf hb ?_
  have hsz:(vals.toArray ++ Array.replicate (fn.ntmps - vals.toArray.size) undef).size = fn.ntmps:=by simp;omega
  obtain ⟨iy,hok,g2⟩:=entered ha hnd hap hfz hsz h1
  have fin:=fun a' w'=>Li (σ:=p.2) (N:=Fr.of fn.ntmps) (rs:=rs) (oP:=oP) (cf:=cf) hr ha hap hfz g2 a' w'
  refine DJ hm heq j6 hC c hc hok h2 fun a' w' hO=>?_
  cases hp:p.1 with
  | iK=>rw [hp] at hE;exact fin a' w' hO hE
  | ret=>rw [hp] at hE;exact fin a' w' hO hE
  | ext id=>rw [hp] at hE;cases hE
end
end
section
open Go
structure Tok {α:Type} (k:α → Prop):Type where
def W {α:Type} (k:α → Prop) (_:Tok k) (x:Option α):Prop:=∃ a,x = some a ∧ k a
section
variable {α β:Type} {k:α → Prop} {u:Tok k}
theorem gu {a:α}:W k u (some a) ↔ k a:=by simp [W]
theorem uD : W k u none ↔ False:=by simp [W]
theorem Fu {x:Option β} {f:β → Option α}:W k u (x.bind f) ↔ W (fun a=>W k ⟨⟩ (f a)) ⟨⟩ x:=by
 cases x <;> simp [W]
theorem Lj {x:Option β} {f:β → α}:W k u (x.map f) ↔ W (fun a=>k (f a)) ⟨⟩ x:=by
 cases x <;> simp [W]
theorem YZ {c:Prop} [Decidable c] {a b:Option α}:W k u (if c then a else b) ↔ (c → W k u a) ∧ (¬ c → W k u b):=by
 by_cases h:c <;> simp [h]
theorem Fv {c:Prop} [Decidable c] {a:Option α}:W k u (if c then a else none) ↔ c ∧ W k u a:=by
 by_cases h:c <;> simp [h,uD]
theorem Fw {c:Prop} [Decidable c] {a:Option α}:W k u (if c then none else a) ↔ ¬ c ∧ W k u a:=by
 by_cases h:c <;> simp [h,uD]
theorem uE {j:α → Prop} {x:Option α} (h:W j ⟨⟩ x) (hi:∀ a,j a → k a):W k u x:=by
 obtain ⟨a,h1,h2⟩:=h;exact ⟨a,h1,hi a h2⟩
end
def V {α:Type} (k:α → Prop) (x:Option α):Prop:=∃ a,x = some a ∧ k a
section
variable {α β:Type} {k:α → Prop} {u:Tok k}
theorem dL {x:Option α}:W k u x ↔ V k x:=ah6
theorem aZ {a:α}:V k (some a) ↔ k a:=by simp [V]
theorem jc : V k none ↔ False:=by simp [V]
theorem aJ {x:Option β} {f:β → Option α}:V k (x.bind f) ↔ V (fun a=>V k (f a)) x:=by
 cases x <;> simp [V]
theorem bQ {x:Option β} {f:β → α}:V k (x.map f) ↔ V (fun a=>k (f a)) x:=by
 cases x <;> simp [V]
theorem bF {c:Prop} [Decidable c] {a:Option α}:V k (if c then a else none) ↔ c ∧ V k a:=by
 by_cases h:c <;> simp [h,jc]
theorem cZ {c:Prop} [Decidable c] {a:Option α}:V k (if c then none else a) ↔ ¬ c ∧ V k a:=by
 by_cases h:c <;> simp [h,jc]
theorem bT {j:β → Prop}:V k none ↔ V j none:=jc.trans jc.symm
theorem kS {j:β → Prop} {a:α} {b:β} (h:k a ↔ j b):V k (some a) ↔ V j (some b):=aZ.trans (h.trans aZ.symm)
theorem bZ {x:Option α} {j:α → Prop} (h:∀ a,j a ↔ k a):V j x ↔ V k x:=by
 have:j = k:=funext fun a=>propext (h a)
 rw [this]
end
structure Y0 (A B:Unit → Prop):Type where
def Br (b:Bool) (A B:Unit → Prop) (_:Y0 A B):Prop:=(b = true → A ()) ∧ (b = false → B ())
theorem Pp {A B:Unit → Prop} {u:Y0 A B}:Br true A B u ↔ A ():=by simp [Br]
theorem Ll {A B:Unit → Prop} {u:Y0 A B}:Br false A B u ↔ B ():=by simp [Br]
theorem UY {b:Bool} {A B:Unit → Prop} {u:Y0 A B}:Br (!b) A B u ↔ Br b B A ⟨⟩:=by cases b <;> simp [Br]
theorem dI {b:Bool} {A B:Unit → Prop} {u:Y0 A B} (h1:b = true → A ()) (h2:b = false → B ()):Br b A B u:=⟨h1,h2⟩
theorem I8 {α:Type} {x:Option α} {a:α} (h:W (fun b=>b = a) ⟨⟩ x):x = some a:=by
 obtain ⟨b,h1,rfl⟩:=h;exact h1
theorem BO {body:St → Option (Out × St)} {rs:St → St} {k:Out × St → Prop} {u:Tok k} (I:Nat → St → Prop)
  (hstep:∀ m σ,I m σ → W (fun p=>match p.1 with
   | .iK=>∃ j,j < m ∧ I j p.2
   | o=>k (o,p.2)) ⟨⟩ (body (rs σ))):∀ (F m:Nat) (σ:St),m < F → I m σ → W k u (iter body rs F σ)
 | 0,m,σ,h,_=>by omega
 | F + 1,m,σ,h,hI=>by
  obtain ⟨p,h1,h2⟩:=hstep m σ hI
  unfold iter
  rw [h1,Option.bind_some]
  obtain ⟨o,s⟩:=p
  cases o with
  | iK =>
   obtain ⟨j,hj,hI'⟩:=h2
   exact BO I hstep F j s (by omega) hI'
  | ext i=>exact gu.mpr h2
  | ret=>exact gu.mpr h2
theorem Lm {body:St → Option (Out × St)} {rs:St → St} {k:Out × St → Prop} {u:Tok k} {F:Nat} (N:Nat) (S:Nat → St) (P:Nat → Prop) (hF:N < F) (h0:P 0)
  (step:∀ i,i < N → P i → W (fun p=>match p.1 with
   | .iK=>p.2 = S (i + 1) ∧ P (i + 1)
   | o=>k (o,p.2)) ⟨⟩ (body (rs (S i))))
  (last:P N → W (fun p=>match p.1 with
   | .iK=>False
   | o=>k (o,p.2)) ⟨⟩ (body (rs (S N)))):W k u (iter body rs F (S 0)):=by
 refine BO (fun m σ=>∃ i,i ≤ N ∧ m = N - i ∧ σ = S i ∧ P i) ?_ F N (S 0) hF ⟨0,aiy _,rfl,rfl,h0⟩
 rintro m σ ⟨i,hi,rfl,rfl,hP⟩
 by_cases hlt:i < N
 ·refine uE (step i hlt hP) fun p hp=>?_
  obtain ⟨o,s⟩:=p
  cases o with
  | iK=>exact ⟨N - (i + 1),by omega,i + 1,by omega,rfl,hp.1,hp.2⟩
  | ext j=>exact hp
  | ret=>exact hp
 ·have:i = N:=by omega
  subst this
  refine uE (last hP) fun p hp=>?_
  obtain ⟨o,s⟩:=p
  cases o with
  | iK=>exact hp.elim
  | ext j=>exact hp
  | ret=>exact hp
def look : List (FuncId × CF) → FuncId → Option CF
 | [],_=>none
 | (k,c) :: l,f=>if k = f then some c else look l f
noncomputable def Gm (oz:List (FuncId × CF)) (ext:Env) (F:Nat):Nat → Env
 | 0=>fun _ _=>none
 | n + 1=>fun f dV=>match look oz f with
  | some cf=>IU (Gm oz ext F n) F cf dV
  | none=>ext f dV
structure iX (P:Program) (f:FuncId) (cf:CF):Prop where
 ok:∃ fn c X hints rest,P.funcs[f]? = some fn ∧ (fn.name == "runtime.NumGoroutine") = false ∧ fn.body = some c ∧ (∀ t ∈ X.eqs,kL P t) ∧ comp P X (Bb fn.ntmps) c hints = some (cf.body,rest) ∧ mK P fn.results.toList = some cf.res ∧ cf.np ≤ fn.ntmps
theorem xG : ∀ {l:List (FuncId × CF)} {f:FuncId} {c:CF},look l f = some c → (f,c) ∈ l
 | [],_,_,h=>by cases h
 | (k,d) :: l,f,c,h=>by
  unfold look at h
  split at h
  ·rename_i e;subst e;cases h;simp
  ·exact aiQ _ (xG h)
theorem zY {P:Program} {oz:List (FuncId × CF)} {ext:Env} {F:Nat} (hm:P.follows .mixedOrders = true) (ht:∀ p ∈ oz,iX P p.1 p.2) (he:gL P ext) (hec:dG P ext):∀ n,gL P (Gm oz ext F n) ∧ dG P (Gm oz ext F n)
 | 0=>⟨fun f dV rs oP h=>by simp [Gm] at h,fun f dV r h=>by simp [Gm] at h⟩
 | n + 1=>by
  obtain ⟨h1,h2⟩:=zY hm ht he hec n
  constructor
  ·intro f
   cases hl:look oz f with
   | none =>
    have:Gm oz ext F (n + 1) f = ext f:=by funext dV;simp only [Gm,hl]
    rw [this];exact he f
   | some cf =>
    have:Gm oz ext F (n + 1) f = IU (Gm oz ext F n) F cf:=by funext dV;simp only [Gm,hl]
    rw [this]
    obtain ⟨fn,c,X,hints,rest,e1,_,e2,e3,e4,e5,e6⟩:=(ht _ (xG hl)).ok
    exact zX hm e3 h1 h2 e1 e2 e4 e5 e6 F
  ·intro f dV r h
   cases hl:look oz f with
   | none=>exact hec f dV r (by simpa only [Gm,hl] using h)
   | some cf =>
    obtain ⟨fn,c,X,hints,rest,e1,e0,e2,_⟩:=(ht _ (xG hl)).ok
    exact ⟨fn,e1,e0,by rw [e2];rfl⟩
theorem cK {oz:List (FuncId × CF)} {ext:Env} {F n:Nat} {f:FuncId} {cf:CF} {dV:List AV} {r:List AV × List AV} (hl:look oz f = some cf) (h:W (fun z=>z = r) ⟨⟩ (IU (Gm oz ext F n) F cf dV)):Gm oz ext F (n + 1) f dV = some r:=by
 simp only [Gm,hl]
 exact I8 h
theorem gN {oz:List (FuncId × CF)} {ext:Env} {F n:Nat} {f:FuncId} (hl:look oz f = none):Gm oz ext F (n + 1) f = ext f:=by
 funext dV;simp only [Gm,hl]
end
section
open Go Go.RowKit
def Ti : SV → TV
 | .int k n=>.f (.int k n)
 | .bool b=>.f (.bool b)
 | .str s=>.f (.str s)
def BP (l:List SV):List AV:=l.map fun x=>.one (Ti x)
section
variable {P : Program} {Fz:Nat → Prop} {w:World}
theorem Hf {x:SV} {v:Value} {bs:List Nat}:mE Fz w (Ti x) v bs ↔ v = encS x ∧ bs = []:=by
 cases x <;> simp only [Ti,mE,eO,encS]
theorem sH : ∀ {l:List SV} {vs:List Value} {bs:List Nat},eZ Fz w (BP l) vs bs → vs = l.map encS ∧ bs = []
 | [],[],_,h=>⟨rfl,h⟩
 | [],_ :: _,_,h=>h.elim
 | _ :: _,[],_,h=>h.elim
 | x :: l,v :: vs,_,⟨b1,b2,h1,h2,e⟩=>by
  obtain ⟨e1,e2⟩:=Hf.mp h1
  obtain ⟨e3,e4⟩:=sH (l:=l) h2
  subst e1;subst e2;subst e3;subst e4
  exact ⟨rfl,by rw [e];rfl⟩
theorem pz : ∀ {l:List SV},eZ Fz w (BP l) (l.map encS) []
 | []=>rfl
 | x :: l=>⟨[],[],Hf.mpr ⟨rfl,rfl⟩,pz (l:=l),rfl⟩
theorem Sat.uf {f:FuncId} {g:List AV → Option (List AV × List AV)} (h:∀ dV r,g dV = some r → ∃ ZZ9 rs:List SV,dV = BP ZZ9 ∧ r = (BP rs,BP ZZ9) ∧
  ∀ w:World,Calls P f (ZZ9.map encS).toArray w fun e w'=>e = .returned (ret (rs.map encS)) ∧ Below w.heap.size w w'):Sat P f g:=by
 intro dV rs oP hg Fz w vals bs ha hnd hap hfz
 obtain ⟨ZZ9,rs',rfl,e,hc⟩:=h dV _ hg
 cases e
 obtain ⟨rfl,rfl⟩:=sH ha
 refine (hc w).mono fun e w' ⟨h1,hb'⟩=>?_
 exact ⟨Fz,rs'.map encS,[],[],h1,fun _ h=>h,fun b hb=>⟨aiz (hfz b hb) hb'.size,.inl hb⟩,hb'.size,fun b hb _=>hb'.block b hb,⟨hb'.os,hb'.output⟩,pz,pz,by simp,fun b hb=>by simp at hb⟩
def jd : List (FuncId × (List AV → Option (List AV × List AV))) → Env
 | []=>fun _ _=>none
 | (k,g) :: l=>fun f dV=>if k = f then g dV else jd l f dV
theorem sI : ∀ {l:List (FuncId × (List AV → Option (List AV × List AV)))},(∀ p ∈ l,Sat P p.1 p.2) → gL P (jd l)
 | [],_=>fun f dV rs oP h=>by cases h
 | (k,g) :: l,h=>fun f dV rs oP he=>by
  unfold jd at he
  split at he
  ·rename_i e;subst e;exact h (k,g) (by simp) dV rs oP he
  ·exact sI (fun p hp=>h p (aiQ _ hp)) f dV rs oP he
theorem nO : ∀ {l:List (FuncId × (List AV → Option (List AV × List AV)))},(∀ p ∈ l,∃ fn,P.funcs[p.1]? = some fn ∧ (fn.name == "runtime.NumGoroutine") = false ∧ fn.body.isSome = true) → dG P (jd l)
 | [],_=>fun f dV r h=>by cases h
 | (k,g) :: l,h=>fun f dV r he=>by
  unfold jd at he
  split at he
  ·rename_i e;subst e;exact h (k,g) (by simp)
  ·exact nO (fun p hp=>h p (aiQ _ hp)) f dV r he
end
end
section
open Go
def Tn (n:Nat) (ks:List Nat):Nat → Bool:=fun d=>decide (d < n) && !ks.contains d
noncomputable def Mg (Γ:Env) (F:Nat) (ca cb:CC) (s:Nat) (D:St → Option St) (cf:CF) (dV:List AV):Option (List AV × List AV) :=
 if dV.length ≠ cf.np then none else (enter cf.bo 0 [] ⟨[],[]⟩ dV).bind fun e=>(ev Γ F ca e.2).bind fun p=>match p.1 with
  | .iK=>(ev Γ F cb ⟨put p.2.tm s (.c (.one .any)),p.2.ob⟩).bind fun q=>match q.1 with
   | .ext _=>none
   | _=>(D q.2).bind fun t=>(jF t e.1 dV).bind fun b=>(slots b.2 cf.res).bind fun l=>(lV cf.ro b.2 l).map fun r=>(r.1,b.1)
  | _=>none
section
variable {P : Program} {Γ:Env} {aV Fz bg:Nat → Prop} {w0 w w':World} {aU bs:List Nat} {N:Fr} {F:Nat} {κ iy:Nat → Value} {σ fB σ':St} {a:Act} {X:Hx}
theorem Ok.reN (h:Ok aV w0 aU N iy σ a w) (N':Fr) (hn:N'.n = N.n) (hfs:∀ d,N'.ok d = false → a.tmps.getD d undef = N'.vs d):Ok aV w0 aU N' iy σ { a with defers:=N'.ds } w:=by
 obtain ⟨Fz,κ,h,hk⟩:=h
 exact ⟨Fz,κ,⟨h.tm,h.sz.trans hn.symm,rfl,hfs,h.ob,h.uh,h.pos,h.fz,h.yU,h.big,h.ext,h.kp⟩,hk⟩
theorem FL (hm:P.follows .mixedOrders = true) (heq:∀ t ∈ X.eqs,kL P t) (j6:gL P Γ) (hC:dG P Γ) {f g:FuncId} {fn gn:Func} {a1 a2 r:Code} {id s c1 c2 t1 t2:Nat} {p1 p2:String} {Fx Fy:Array Edge} (hf:P.funcs[f]? = some fn)
  (hb:fn.body = some (.seq a1 (.seq a2 (.seq (.region id #[{ dst:=some s,op:=.makeFunc (.func g) #[] #[.tmp c1,.tmp c2],type:=t1,pos:=p1,after:=Fx,guard:=none },{ dst:=none,op:=.defer { callee:=.value (.tmp s),args:=#[],argTypes:=#[] },type:=t2,pos:=p2,after:=Fy,guard:=none }] false) r))))
  (hg:P.funcs[g]? = some gn) (hgn:(gn.name == "runtime.NumGoroutine") = false) (hgb:gn.body.isSome = true) {cf:CF} {ca cb:CC} {ha hb' ra rb:List Hi}
  (hca:comp P X (Bb fn.ntmps) (.seq a1 a2) ha = some (ca,ra)) (hcb:comp P X (Tn fn.ntmps [c1,c2]) r hb' = some (cb,rb)) (hr:mK P fn.results.toList = some cf.res) (hnp:cf.np ≤ fn.ntmps) (hs:s < fn.ntmps) (hs1:c1 ≠ s) (hs2:c2 ≠ s) {D:St → Option St}
  (hD:∀ (aV:Nat → Prop) (w0:World) (aU:List Nat) (N:Fr) (iy:Nat → Value) (σ σ':St) (a:Act) (w:World),Ok aV w0 aU N iy σ a w → D σ = some σ' → CallsD P g #[a.tmps.getD c1 undef,a.tmps.getD c2 undef] .returning w fun e u w'=>u = .returning ∧ (∃ v,e = .returned v) ∧ Ok aV w0 aU N iy σ' a w')
  (F:Nat):Sat P f (Mg Γ F ca cb s D cf):=by
 intro dV rs oP hE Fz w vals bs Xg hnd hap hfz
 unfold Mg at hE
 split at hE
 ·cases hE
 rename_i hlen
 have hlen':dV.length = cf.np:=aiJ.mp hlen
 have hvl:vals.length = dV.length:=Xg.len
 obtain ⟨e,h1,hE⟩:=zbm hE
 obtain ⟨p,h2,hE⟩:=zbm hE
 refine calls_of_wp_defers hf hb ?_
 have hsz:(vals.toArray ++ Array.replicate (fn.ntmps - vals.toArray.size) undef).size = fn.ntmps:=by simp;omega
 obtain ⟨iy,hok,g2⟩:=entered (bo:=cf.bo) Xg hnd hap hfz hsz h1
 cases hp:p.1 with
 | ext i=>rw [hp] at hE;cases hE
 | ret=>rw [hp] at hE;cases hE
 | iK =>
 rw [hp] at hE
 obtain ⟨q,h3,hEq⟩:=zbm hE
 obtain ⟨x1,hx1,hx2⟩:=zbm hca
 obtain ⟨x2,hx3,hx4⟩:=zmm hx2
 cases hx4
 obtain ⟨y1,hy1,hy2⟩:=zbm h2
 have hyn:y1.1 = .iK ∧ ev Γ F x2.1 y1.2 = some p:=by
  cases hy:y1.1 with
  | iK=>rw [hy] at hy2;exact ⟨rfl,hy2⟩
  | ext i=>rw [hy] at hy2;cases hy2;cases hp
  | ret=>rw [hy] at hy2;cases hy2;cases hp
 obtain ⟨hy3,hy4⟩:=hyn
 refine wp_seq (DJ hm heq j6 hC a1 hx1 hok hy1 fun b1 u1 k1=>?_)
 rw [hy3]
 refine wp_seq (DJ hm heq j6 hC a2 hx3 k1 hy4 fun b2 u2 k2=>?_)
 rw [hp]
 refine wp_seq ?_
 have hmk:∀ v1 v2:Value,(Instr.makeFunc (.func g) #[] #[v1,v2]).run P u2 = .ok (.func (.func g) #[] #[v1,v2]) u2:=fun _ _=>rfl
 obtain ⟨v1,hv1⟩:∃ v,v = b2.tmps.getD c1 undef:=⟨_,rfl⟩
 obtain ⟨v2,hv2⟩:∃ v,v = b2.tmps.getD c2 undef:=⟨_,rfl⟩
 obtain ⟨b3,hb3⟩:∃ b,b = b2.put (some s) (.func (.func g) #[] #[v1,v2]):=⟨_,rfl⟩
 have hdef:b2.defers = []:=by obtain ⟨_,_,hr2,_⟩:=k2;exact hr2.lJ
 have hsz2:b2.tmps.size = fn.ntmps:=by obtain ⟨_,_,hr2,_⟩:=k2;exact hr2.sz
 have hk3:Ok Fz w bs (Fr.of fn.ntmps) iy ⟨put p.2.tm s (.c (.one .any)),p.2.ob⟩ b3 u2:=by
  obtain ⟨F2,E5,hr2,hk2⟩:=k2
  rw [hb3]
  exact ⟨F2,E5,hr2.put (by simpa [Fr.of,Bb] using hs) (pv:=.c (.one .any)) trivial,hk2⟩
 have hts:∀ d,d ≠ s → b3.tmps.getD d undef = b2.tmps.getD d undef:=fun d hd=>by
  rw [hb3]
  simp only [Act.put,aiM,ai6]
  rw [ahY (fun e=>hd e.symm)]
 obtain ⟨N1,hN1⟩:∃ N:Fr,N = ⟨fn.ntmps,[{ target:=.fn (.func g) #[v1,v2],args:=#[] }],Tn fn.ntmps [c1,c2],fun d h=>by simp [Tn] at h;omega,fun d=>b3.tmps.getD d undef⟩:=⟨_,rfl⟩
 have hk4:=hk3.reN N1 (by rw [hN1];rfl) (fun d _=>by rw [hN1])
 refine wp_region_lit (l:=[_,_]) ?_
 unfold wpList
 rw [ahX (show Region.wanted _ _ = true from rfl)]
 left
 have r1:(execOp b2.eval { dst:=some s,op:=.makeFunc (.func g) #[] #[.tmp c1,.tmp c2],type:=t1,pos:=p1,after:=Fx,guard:=none }).run P u2 = .ok (.value (.func (.func g) #[] #[v1,v2])) u2:=by
  unfold execOp
  simp [Act.eval,hmk,← hv1,← hv2]
 unfold Oper.wp
 rw [r1]
 show wpList P _ _ _ (b2.put (some s) _) u2
 rw [← hb3]
 unfold wpList
 rw [ahX (show Region.wanted _ _ = true from rfl)]
 left
 have r2:(execOp b3.eval { dst:=none,op:=.defer { callee:=.value (.tmp s),args:=#[],argTypes:=#[] },type:=t2,pos:=p2,after:=Fy,guard:=none }).run P u2 = .ok (.defer { target:=.fn (.func g) #[v1,v2],args:=#[] }) u2:=by
  have hvs:b3.eval (.tmp s) = .func (.func g) #[] #[v1,v2]:=by
   rw [hb3]
   simp only [Act.eval,Act.put,aiM,ai6]
   rw [ahX trivial,ahX (by rw [hsz2];exact hs)]
   rfl
  unfold execOp resolve
  simp only [hvs]
  simp [Deferred.ofValue]
 unfold Oper.wp
 rw [r2]
 show wpList P _ _ _ { b3 with defers:={ target:=.fn (.func g) #[v1,v2],args:=#[] } :: b3.defers } u2
 unfold wpList
 show r.wp P _ _ _
 have hd3:b3.defers = []:=by rw [hb3];exact hdef
 rw [hd3]
 rw [hN1] at hk4
 refine DJ hm heq j6 hC r hcb hk4 h3 fun b4 u4 k4=>?_
 have hkeep:∀ d,(d = c1 ∨ d = c2) → b4.tmps.getD d undef = b3.tmps.getD d undef:=fun d hd=>by
  obtain ⟨_,_,hr4,_⟩:=k4
  exact hr4.fs d (by simp [Tn];rcases hd with rfl | rfl <;> simp)
 have hds:b4.defers = [{ target:=.fn (.func g) #[v1,v2],args:=#[] }]:=by obtain ⟨_,_,hr4,_⟩:=k4;exact hr4.lJ
 have fin:(∃ t,D q.2 = some t ∧ ((jF t e.1 dV).bind fun b=>(slots b.2 cf.res).bind fun l=>(lV cf.ro b.2 l).map fun r=>(r.1,b.1)) = some (rs,oP)) → Leaves P fn b4.tmps (fun e w'=>∃ bg sw b1 b2,e = .returned (ret sw) ∧ Post Fz w vals bs rs oP bg w' sw b1 b2) b4.defers .returning u4:=by
  rintro ⟨t,d1,d2⟩
  rw [hds]
  refine leaves_cons (f:=g) (args:=#[v1,v2]) (by simp) ?_ ?_
  ·show (callFunc g (#[] ++ #[v1,v2])).run P u4 = _
   rw [oo hg hgn hgb]
   simp
  ·have hcd:=hD Fz w bs _ iy q.2 t b4 u4 k4 d1
   rw [hkeep c1 (.inl rfl),hkeep c2 (.inr rfl),hts c1 hs1,hts c2 hs2,← hv1,← hv2] at hcd
   refine hcd.mono ?_
   rintro e' u' w' ⟨rfl,⟨v,rfl⟩,k5⟩
   show Leaves P fn b4.tmps _ [] (settle .returning) w'
   obtain ⟨_,v',g3,g4⟩:=Li hr Xg hap hfz g2 b4 w' k5 d2
   exact ⟨v',g3,g4⟩
 cases hq:q.1 with
 | ext i=>rw [hq] at hEq;cases hEq
 | iK =>
  rw [hq] at hEq
  obtain ⟨t,d1,d2⟩:=zbm hEq
  exact fin ⟨t,d1,d2⟩
 | ret =>
  rw [hq] at hEq
  obtain ⟨t,d1,d2⟩:=zbm hEq
  exact fin ⟨t,d1,d2⟩
noncomputable def Dcl (Γ:Env) (F:Nat) (cc:CC) (c1 c2:Nat) (σ:St):Option St:=match get σ.tm c1,get σ.tm c2 with
 | some x,some y=>(ev Γ F cc ⟨[(0,x),(1,y)],σ.ob⟩).bind fun p=>match p.1 with
  | .ext _=>none
  | _=>(get p.2.tm 0).map fun z=>⟨[(c1,z)],p.2.ob⟩
 | _,_=>none
theorem VN (hm:P.follows .mixedOrders = true) (heq:∀ t ∈ X.eqs,kL P t) (j6:gL P Γ) (hC:dG P Γ) {g:FuncId} {gn:Func} {c:Code} {cc:CC} {h1 h2:List Hi} {c1 c2:Nat} (hg:P.funcs[g]? = some gn) (hb:gn.body = some c) (hc:comp P X (Tn gn.ntmps [0]) c h1 = some (cc,h2)) (hr:gn.results = #[]) (hn:2 ≤ gn.ntmps) (F:Nat)
  (aV:Nat → Prop) (w0:World) (aU:List Nat) (N:Fr) (iy:Nat → Value) (σ σ':St) (a:Act) (w:World) (hO:Ok aV w0 aU N iy σ a w) (hd:Dcl Γ F cc c1 c2 σ = some σ') :
  CallsD P g #[a.tmps.getD c1 undef,a.tmps.getD c2 undef] .returning w fun e u w'=>u = .returning ∧ (∃ v,e = .returned v) ∧ Ok aV w0 aU N iy σ' a w':=by
 unfold Dcl at hd
 split at hd
 ·rename_i x y hx hy
  obtain ⟨p,h3,hd⟩:=zbm hd
  obtain ⟨b0,hb0⟩:∃ b:Act,b = { tmps:=#[a.tmps.getD c1 undef,a.tmps.getD c2 undef] ++ Array.replicate (gn.ntmps - 2) undef,defers:=[] }:=⟨_,rfl⟩
  have e0:b0.tmps.getD 0 undef = a.tmps.getD c1 undef:=by rw [hb0];simp [aiM,Array.getElem?_append]
  have e1:b0.tmps.getD 1 undef = a.tmps.getD c2 undef:=by rw [hb0];simp [aiM,Array.getElem?_append]
  obtain ⟨N',hN'⟩:∃ N:Fr,N = ⟨gn.ntmps,[],Tn gn.ntmps [0],fun d h=>by simp [Tn] at h;omega,fun d=>b0.tmps.getD d undef⟩:=⟨_,rfl⟩
  have BM:Ok aV w0 aU N' iy ⟨[(0,x),(1,y)],σ.ob⟩ b0 w:=by
   obtain ⟨Fz,κ,hr,hk⟩:=hO
   refine ⟨Fz,κ,⟨fun p hp=>?_,by rw [hb0,hN'];simp;omega,by rw [hb0,hN'],fun d _=>by rw [hN'],hr.ob,hr.uh,hr.pos,hr.fz,hr.yU,hr.big,hr.ext,hr.kp⟩,hk⟩
   simp only [aif,ajF,or_false] at hp
   rcases hp with rfl | rfl
   ·rw [e0];exact hr.val hx
   ·rw [e1];exact hr.val hy
  have main:∀ b u,Ok aV w0 aU N' iy p.2 b u → (∃ z,get p.2.tm 0 = some z ∧ σ' = ⟨[(c1,z)],p.2.ob⟩) → b.defers = [] ∧ ∃ v,(results gn b.tmps).run P u = .ok v u ∧ (∃ v',Ending.returned v = .returned v') ∧ Ok aV w0 aU N iy σ' a u:=by
   rintro b u ⟨Fz,κ,hr2,hk2⟩ ⟨z,hz,rfl⟩
   refine ⟨by have:=hr2.lJ;rw [this,hN'],.tuple #[],?_,⟨_,rfl⟩,?_⟩
   ·unfold results
    rw [hr]
    simp
   ·obtain ⟨_,_,hr,_⟩:=hO
    refine ⟨Fz,κ,⟨fun p hp=>?_,hr.sz,hr.lJ,hr.fs,hr2.ob,hr2.uh,hr2.pos,hr2.fz,hr2.yU,hr2.big,hr2.ext,hr2.kp⟩,hk2⟩
    simp only [aif,ajF,or_false] at hp
    subst hp
    have h5:b.tmps.getD 0 undef = N'.vs 0:=hr2.fs 0 (by rw [hN'];simp [Tn])
    have h6:N'.vs 0 = a.tmps.getD c1 undef:=by rw [hN'];exact e0
    show gW Fz κ u z (a.tmps.getD c1 undef)
    rw [← h6,← h5]
    exact hr2.val hz
  refine callsD_of_wp hg hb ?_
  have hst:({ tmps:=#[a.tmps.getD c1 undef,a.tmps.getD c2 undef] ++ Array.replicate (gn.ntmps - (#[a.tmps.getD c1 undef,a.tmps.getD c2 undef]:Array Value).size) undef,defers:=[] }:Act) = b0:=by rw [hb0];rfl
  rw [hst]
  rw [hN'] at BM
  refine DJ hm heq j6 hC c hc BM h3 fun b u hk=>?_
  rw [← hN'] at hk
  cases hp:p.1 with
  | ext i=>rw [hp] at hd;cases hd
  | iK =>
   rw [hp] at hd
   obtain ⟨z,hz,rfl⟩:=zmm hd
   exact main b u hk ⟨z,hz,rfl⟩
  | ret =>
   rw [hp] at hd
   obtain ⟨z,hz,rfl⟩:=zmm hd
   exact main b u hk ⟨z,hz,rfl⟩
 ·cases hd
end
end
end Go.Proofs.YtfokaoeinpnagaaGreat.Ev

/- A part of the proof of StoreUsed: cut, joined and given short names by a program of this session (wip/tools/pack.py); Lean checks it. No condition. -/
import Derived.Test.YtdkkgecdhapfhaaPSUedh
import Derived.Defers
import Derived.Test.YtdkkgecdhapfhaaPSUedd
import Derived.Laws.StructEq
import Derived.Test.YtdkkgecdhapfhaaProg
import Derived.WalkKit
import Derived.Below
import Derived.Deep.Draws
import Derived.Deep.AppendLies
import Derived.Maps.AppendAt
import Derived.OwnWalk
import Derived.Laws.BytesArg
import Derived.Laws.MakeOwn
import Derived.Laws.OwnMore
import Derived.Deep.OwnRows
import Derived.Tactics
import Derived.Lib.ConvBytes
import Derived.Laws.Slices
import Derived.KernelRfl
import Derived.RowKit3
import Derived.Deep.LoopGhost
import Derived.Deep.QuietTactic
import Derived.BigQuiet
import Derived.WideLaws
import Derived.Deep.DeepCutAuto
import Derived.Deep.CutBlock
import Derived.Deep.RegionHeld3
import Derived.Laws.Rows
import Derived.Lib.AppendStr
import Derived.ArgAppend
import Derived.Laws.IdiomCopy
import Derived.RowKit
import Derived.OrdersHeld
import Derived.Laws.BitsLemmas
import Derived.ChangeKeysEq
import Derived.Lib.Strings
import Derived.Laws.World
import Derived.Laws.Entries
set_option linter.unusedSectionVars false
set_option linter.unusedSimpArgs false
set_option linter.unusedVariables false
namespace Go.Proofs.Ytdkkgecdhapfhaa.Ev
open Go
def Qm (n : Nat) (ks : List Nat) : Nat → Bool := fun d => decide (d < n) && !ks.contains d
noncomputable def Kl (Γ : Env) (F : Nat) (ca cb : CC) (s : Nat) (D : St → Option St) (cf : CF) (gH : List AV) : Option (List AV × List AV) :=
  if gH.length ≠ cf.np then none else (enter cf.bo 0 [] ⟨[], []⟩ gH).bind fun e => (ev Γ F ca e.2).bind fun p => match p.1 with
    | .jr => (ev Γ F cb ⟨put p.2.tm s (.c (.one .any)), p.2.ob⟩).bind fun q => match q.1 with
      | .ext _ => none
      | _ => (D q.2).bind fun t => (kJ t e.1 gH).bind fun b => (slots b.2 cf.res).bind fun l => (mX cf.ro b.2 l).map fun r => (r.1, b.1)
    | _ => none
section
variable {P : Program} {Γ : Env} {bI Fz bK : Nat → Prop} {w0 w w' : World} {bH bs : List Nat} {N : Fr} {F : Nat} {κ jw : Nat → Value} {σ fI σ' : St} {a : Act} {X : Hx}
theorem Ok.reN (h : Ok bI w0 bH N jw σ a w) (N' : Fr) (hn : N'.n = N.n) (hfs : ∀ d, N'.ok d = false → a.tmps.getD d undef = N'.vs d) : Ok bI w0 bH N' jw σ { a with defers := N'.ds } w := by
  obtain ⟨Fz, κ, h, hk⟩ := h
  exact ⟨Fz, κ, ⟨h.tm, h.sz.trans hn.symm, rfl, hfs, h.ob, h.uO, h.pos, h.fz, h.yu, h.big, h.ext, h.kp⟩, hk⟩
theorem EG (hm : P.follows .mixedOrders = true) (heq : ∀ t ∈ X.eqs, lF P t) (l9 : iN P Γ) (hC : eO P Γ) {f g : FuncId} {fn gn : Func} {a1 a2 r : Code} {id s c1 c2 t1 t2 : Nat} {p1 p2 : String} {EA EB : Array Edge} (hf : P.funcs[f]? = some fn)
    (hb : fn.body = some (.seq a1 (.seq a2 (.seq (.region id #[{ dst := some s, op := .makeFunc (.func g) #[] #[.tmp c1, .tmp c2], type := t1, pos := p1, after := EA, guard := none }, { dst := none, op := .defer { callee := .value (.tmp s), args := #[], argTypes := #[] }, type := t2, pos := p2, after := EB, guard := none }] false) r))))
    (hg : P.funcs[g]? = some gn) (hgn : (gn.name == "runtime.NumGoroutine") = false) (hgb : gn.body.isSome = true) {cf : CF} {ca cb : CC} {ha hb' ra rb : List Hi}
    (hca : comp P X (QW fn.ntmps) (.seq a1 a2) ha = some (ca, ra)) (hcb : comp P X (Qm fn.ntmps [c1, c2]) r hb' = some (cb, rb)) (hr : mD P fn.results.toList = some cf.res) (hnp : cf.np ≤ fn.ntmps) (hs : s < fn.ntmps) (hs1 : c1 ≠ s) (hs2 : c2 ≠ s) {D : St → Option St}
    (hD : ∀ (bI : Nat → Prop) (w0 : World) (bH : List Nat) (N : Fr) (jw : Nat → Value) (σ σ' : St) (a : Act) (w : World), Ok bI w0 bH N jw σ a w → D σ = some σ' → CallsD P g #[a.tmps.getD c1 undef, a.tmps.getD c2 undef] .returning w fun e u w' => u = .returning ∧ (∃ v, e = .returned v) ∧ Ok bI w0 bH N jw σ' a w')
    (F : Nat) : Sat P f (Kl Γ F ca cb s D cf) := by
  intro gH rs ru hE Fz w vals bs Uk hnd hap hfz
  unfold Kl at hE
  split at hE
  · cases hE
  rename_i hlen
  have hlen' : gH.length = cf.np := Decidable.not_not.mp hlen
  have hvl : vals.length = gH.length := Uk.len
  obtain ⟨e, h1, hE⟩ := zbm hE
  obtain ⟨p, h2, hE⟩ := zbm hE
  refine calls_of_wp_defers hf hb ?_
  have hsz : (vals.toArray ++ Array.replicate (fn.ntmps - vals.toArray.size) undef).size = fn.ntmps := by simp; omega
  obtain ⟨jw, hok, g2⟩ := entered (bo := cf.bo) Uk hnd hap hfz hsz h1
  cases hp : p.1 with
  | ext i => rw [hp] at hE; cases hE
  | ret => rw [hp] at hE; cases hE
  | jr =>
  rw [hp] at hE
  obtain ⟨q, h3, hEq⟩ := zbm hE
  obtain ⟨x1, hx1, hx2⟩ := zbm hca
  obtain ⟨x2, hx3, hx4⟩ := zmm hx2
  cases hx4
  obtain ⟨y1, hy1, hy2⟩ := zbm h2
  have hyn : y1.1 = .jr ∧ ev Γ F x2.1 y1.2 = some p := by
    cases hy : y1.1 with
    | jr => rw [hy] at hy2; exact ⟨rfl, hy2⟩
    | ext i => rw [hy] at hy2; cases hy2; cases hp
    | ret => rw [hy] at hy2; cases hy2; cases hp
  obtain ⟨hy3, hy4⟩ := hyn
  refine wp_seq (Cv hm heq l9 hC a1 hx1 hok hy1 fun b1 u1 k1 => ?_)
  rw [hy3]
  refine wp_seq (Cv hm heq l9 hC a2 hx3 k1 hy4 fun b2 u2 k2 => ?_)
  rw [hp]
  refine wp_seq ?_
  have hmk : ∀ v1 v2 : Value, (Instr.makeFunc (.func g) #[] #[v1, v2]).run P u2 = .ok (.func (.func g) #[] #[v1, v2]) u2 := fun _ _ => rfl
  obtain ⟨v1, hv1⟩ : ∃ v, v = b2.tmps.getD c1 undef := ⟨_, rfl⟩
  obtain ⟨v2, hv2⟩ : ∃ v, v = b2.tmps.getD c2 undef := ⟨_, rfl⟩
  obtain ⟨b3, hb3⟩ : ∃ b, b = b2.put (some s) (.func (.func g) #[] #[v1, v2]) := ⟨_, rfl⟩
  have hdef : b2.defers = [] := by obtain ⟨_, _, hr2, _⟩ := k2; exact hr2.mK
  have hsz2 : b2.tmps.size = fn.ntmps := by obtain ⟨_, _, hr2, _⟩ := k2; exact hr2.sz
  have hk3 : Ok Fz w bs (Fr.of fn.ntmps) jw ⟨put p.2.tm s (.c (.one .any)), p.2.ob⟩ b3 u2 := by
    obtain ⟨F2, Ej, hr2, hk2⟩ := k2
    rw [hb3]
    exact ⟨F2, Ej, hr2.put (by simpa [Fr.of, QW] using hs) (pv := .c (.one .any)) trivial, hk2⟩
  have hts : ∀ d, d ≠ s → b3.tmps.getD d undef = b2.tmps.getD d undef := fun d hd => by
    rw [hb3]
    simp only [Act.put, Array.getD_eq_getD_getElem?, Array.getElem?_setIfInBounds]
    rw [if_neg (fun e => hd e.symm)]
  obtain ⟨N1, hN1⟩ : ∃ N : Fr, N = ⟨fn.ntmps, [{ target := .fn (.func g) #[v1, v2], args := #[] }], Qm fn.ntmps [c1, c2], fun d h => by simp [Qm] at h; omega, fun d => b3.tmps.getD d undef⟩ := ⟨_, rfl⟩
  have hk4 := hk3.reN N1 (by rw [hN1]; rfl) (fun d _ => by rw [hN1])
  refine wp_region_lit (l := [_, _]) ?_
  unfold wpList
  rw [if_pos (show Region.wanted _ _ = true from rfl)]
  left
  have r1 : (execOp b2.eval { dst := some s, op := .makeFunc (.func g) #[] #[.tmp c1, .tmp c2], type := t1, pos := p1, after := EA, guard := none }).run P u2 = .ok (.value (.func (.func g) #[] #[v1, v2])) u2 := by
    unfold execOp
    simp [Act.eval, hmk, ← hv1, ← hv2]
  unfold Oper.wp
  rw [r1]
  show wpList P _ _ _ (b2.put (some s) _) u2
  rw [← hb3]
  unfold wpList
  rw [if_pos (show Region.wanted _ _ = true from rfl)]
  left
  have r2 : (execOp b3.eval { dst := none, op := .defer { callee := .value (.tmp s), args := #[], argTypes := #[] }, type := t2, pos := p2, after := EB, guard := none }).run P u2 = .ok (.defer { target := .fn (.func g) #[v1, v2], args := #[] }) u2 := by
    have hvs : b3.eval (.tmp s) = .func (.func g) #[] #[v1, v2] := by
      rw [hb3]
      simp only [Act.eval, Act.put, Array.getD_eq_getD_getElem?, Array.getElem?_setIfInBounds]
      rw [if_pos trivial, if_pos (by rw [hsz2]; exact hs)]
      rfl
    unfold execOp resolve
    simp only [hvs]
    simp [Deferred.ofValue]
  unfold Oper.wp
  rw [r2]
  show wpList P _ _ _ { b3 with defers := { target := .fn (.func g) #[v1, v2], args := #[] } :: b3.defers } u2
  unfold wpList
  show r.wp P _ _ _
  have hd3 : b3.defers = [] := by rw [hb3]; exact hdef
  rw [hd3]
  rw [hN1] at hk4
  refine Cv hm heq l9 hC r hcb hk4 h3 fun b4 u4 k4 => ?_
  have hkeep : ∀ d, (d = c1 ∨ d = c2) → b4.tmps.getD d undef = b3.tmps.getD d undef := fun d hd => by
    obtain ⟨_, _, hr4, _⟩ := k4
    exact hr4.fs d (by simp [Qm]; rcases hd with rfl | rfl <;> simp)
  have hds : b4.defers = [{ target := .fn (.func g) #[v1, v2], args := #[] }] := by obtain ⟨_, _, hr4, _⟩ := k4; exact hr4.mK
  have fin : (∃ t, D q.2 = some t ∧ ((kJ t e.1 gH).bind fun b => (slots b.2 cf.res).bind fun l => (mX cf.ro b.2 l).map fun r => (r.1, b.1)) = some (rs, ru)) → Leaves P fn b4.tmps (fun e w' => ∃ bK uh b1 b2, e = .returned (ret uh) ∧ Post Fz w vals bs rs ru bK w' uh b1 b2) b4.defers .returning u4 := by
    rintro ⟨t, d1, d2⟩
    rw [hds]
    refine leaves_cons (f := g) (args := #[v1, v2]) (by simp) ?_ ?_
    · show (callFunc g (#[] ++ #[v1, v2])).run P u4 = _
      rw [nS hg hgn hgb]
      simp
    · have hcd := hD Fz w bs _ jw q.2 t b4 u4 k4 d1
      rw [hkeep c1 (.inl rfl), hkeep c2 (.inr rfl), hts c1 hs1, hts c2 hs2, ← hv1, ← hv2] at hcd
      refine hcd.mono ?_
      rintro e' u' w' ⟨rfl, ⟨v, rfl⟩, k5⟩
      show Leaves P fn b4.tmps _ [] (settle .returning) w'
      obtain ⟨_, v', g3, g4⟩ := JU hr Uk hap hfz g2 b4 w' k5 d2
      exact ⟨v', g3, g4⟩
  cases hq : q.1 with
  | ext i => rw [hq] at hEq; cases hEq
  | jr =>
    rw [hq] at hEq
    obtain ⟨t, d1, d2⟩ := zbm hEq
    exact fin ⟨t, d1, d2⟩
  | ret =>
    rw [hq] at hEq
    obtain ⟨t, d1, d2⟩ := zbm hEq
    exact fin ⟨t, d1, d2⟩
noncomputable def Xu (Γ : Env) (F : Nat) (cc : CC) (c1 c2 : Nat) (σ : St) : Option St := match get σ.tm c1, get σ.tm c2 with
  | some x, some y => (ev Γ F cc ⟨[(0, x), (1, y)], σ.ob⟩).bind fun p => match p.1 with
    | .ext _ => none
    | _ => (get p.2.tm 0).map fun z => ⟨[(c1, z)], p.2.ob⟩
  | _, _ => none
theorem SS (hm : P.follows .mixedOrders = true) (heq : ∀ t ∈ X.eqs, lF P t) (l9 : iN P Γ) (hC : eO P Γ) {g : FuncId} {gn : Func} {c : Code} {cc : CC} {h1 h2 : List Hi} {c1 c2 : Nat} (hg : P.funcs[g]? = some gn) (hb : gn.body = some c) (hc : comp P X (Qm gn.ntmps [0]) c h1 = some (cc, h2)) (hr : gn.results = #[]) (hn : 2 ≤ gn.ntmps) (F : Nat)
    (bI : Nat → Prop) (w0 : World) (bH : List Nat) (N : Fr) (jw : Nat → Value) (σ σ' : St) (a : Act) (w : World) (hO : Ok bI w0 bH N jw σ a w) (hd : Xu Γ F cc c1 c2 σ = some σ') :
    CallsD P g #[a.tmps.getD c1 undef, a.tmps.getD c2 undef] .returning w fun e u w' => u = .returning ∧ (∃ v, e = .returned v) ∧ Ok bI w0 bH N jw σ' a w' := by
  unfold Xu at hd
  split at hd
  · rename_i x y hx hy
    obtain ⟨p, h3, hd⟩ := zbm hd
    obtain ⟨b0, hb0⟩ : ∃ b : Act, b = { tmps := #[a.tmps.getD c1 undef, a.tmps.getD c2 undef] ++ Array.replicate (gn.ntmps - 2) undef, defers := [] } := ⟨_, rfl⟩
    have e0 : b0.tmps.getD 0 undef = a.tmps.getD c1 undef := by rw [hb0]; simp [Array.getD_eq_getD_getElem?, Array.getElem?_append]
    have e1 : b0.tmps.getD 1 undef = a.tmps.getD c2 undef := by rw [hb0]; simp [Array.getD_eq_getD_getElem?, Array.getElem?_append]
    obtain ⟨N', hN'⟩ : ∃ N : Fr, N = ⟨gn.ntmps, [], Qm gn.ntmps [0], fun d h => by simp [Qm] at h; omega, fun d => b0.tmps.getD d undef⟩ := ⟨_, rfl⟩
    have Cu : Ok bI w0 bH N' jw ⟨[(0, x), (1, y)], σ.ob⟩ b0 w := by
      obtain ⟨Fz, κ, hr, hk⟩ := hO
      refine ⟨Fz, κ, ⟨fun p hp => ?_, by rw [hb0, hN']; simp; omega, by rw [hb0, hN'], fun d _ => by rw [hN'], hr.ob, hr.uO, hr.pos, hr.fz, hr.yu, hr.big, hr.ext, hr.kp⟩, hk⟩
      simp only [List.mem_cons, List.not_mem_nil, or_false] at hp
      rcases hp with rfl | rfl
      · rw [e0]; exact hr.val hx
      · rw [e1]; exact hr.val hy
    have main : ∀ b u, Ok bI w0 bH N' jw p.2 b u → (∃ z, get p.2.tm 0 = some z ∧ σ' = ⟨[(c1, z)], p.2.ob⟩) → b.defers = [] ∧ ∃ v, (results gn b.tmps).run P u = .ok v u ∧ (∃ v', Ending.returned v = .returned v') ∧ Ok bI w0 bH N jw σ' a u := by
      rintro b u ⟨Fz, κ, hr2, hk2⟩ ⟨z, hz, rfl⟩
      refine ⟨by have := hr2.mK; rw [this, hN'], .tuple #[], ?_, ⟨_, rfl⟩, ?_⟩
      · unfold results
        rw [hr]
        simp
      · obtain ⟨_, _, hr, _⟩ := hO
        refine ⟨Fz, κ, ⟨fun p hp => ?_, hr.sz, hr.mK, hr.fs, hr2.ob, hr2.uO, hr2.pos, hr2.fz, hr2.yu, hr2.big, hr2.ext, hr2.kp⟩, hk2⟩
        simp only [List.mem_cons, List.not_mem_nil, or_false] at hp
        subst hp
        have h5 : b.tmps.getD 0 undef = N'.vs 0 := hr2.fs 0 (by rw [hN']; simp [Qm])
        have h6 : N'.vs 0 = a.tmps.getD c1 undef := by rw [hN']; exact e0
        show jv Fz κ u z (a.tmps.getD c1 undef)
        rw [← h6, ← h5]
        exact hr2.val hz
    refine callsD_of_wp hg hb ?_
    have hst : ({ tmps := #[a.tmps.getD c1 undef, a.tmps.getD c2 undef] ++ Array.replicate (gn.ntmps - (#[a.tmps.getD c1 undef, a.tmps.getD c2 undef] : Array Value).size) undef, defers := [] } : Act) = b0 := by rw [hb0]; rfl
    rw [hst]
    rw [hN'] at Cu
    refine Cv hm heq l9 hC c hc Cu h3 fun b u hk => ?_
    rw [← hN'] at hk
    cases hp : p.1 with
    | ext i => rw [hp] at hd; cases hd
    | jr =>
      rw [hp] at hd
      obtain ⟨z, hz, rfl⟩ := zmm hd
      exact main b u hk ⟨z, hz, rfl⟩
    | ret =>
      rw [hp] at hd
      obtain ⟨z, hz, rfl⟩ := zmm hd
      exact main b u hk ⟨z, hz, rfl⟩
  · cases hd
end
end Go.Proofs.Ytdkkgecdhapfhaa.Ev
set_option maxRecDepth 4000
namespace Go.Proofs.Ytdkkgecdhapfhaa.Ev
open Go
section
variable {Γ : Env} {F s c1 c2 : Nat} {ca cb cc : CC} {D : St → Option St} {cf : CF} {gH : List AV} {σ : St}
@[go_sem ↓] theorem adr {k : List AV × List AV → Prop} {u : Tok k} : W k u (Kl Γ F ca cb s D cf gH) ↔ gH.length = cf.np ∧ W (fun e => W (fun p => p.1 = .jr ∧ W (fun t => W (fun q => (∀ id, q.1 ≠ .ext id) ∧ W (fun t => W (fun b => W (fun l => W (fun r => k (r.1, b.1)) ⟨⟩ (mX cf.ro b.2 l)) ⟨⟩ (slots b.2 cf.res)) ⟨⟩ (kJ t e.1 gH)) ⟨⟩ (D q.2)) ⟨⟩ (ev Γ F cb t)) ⟨⟩ (some ⟨put p.2.tm s (.c (.one .any)), p.2.ob⟩)) ⟨⟩ (ev Γ F ca e.2)) ⟨⟩ (enter cf.bo 0 [] ⟨[], []⟩ gH) := by
  simp only [Kl, dR, dF, bB, bJ, ne_eq, Decidable.not_not]
  refine and_congr Iff.rfl (dH fun e => dH fun p => ?_)
  obtain ⟨o, σ'⟩ := p
  cases o with
  | jr =>
    simp only [true_and, bB]
    refine dH fun q => ?_
    obtain ⟨o, σ'⟩ := q
    cases o with
    | ext i => simp [jW]
    | jr => simp only [reduceCtorEq, not_false_eq_true, implies_true, true_and, bB, bY]
    | ret => simp only [reduceCtorEq, not_false_eq_true, implies_true, true_and, bB, bY]
  | ext i => simp [jW]
  | ret => simp [jW]
def ds0 (ob : List (Nat × Ob)) : Option PV → Option PV → Option St
  | some x, some y => some ⟨[(0, x), (1, y)], ob⟩
  | _, _ => none
@[go_sem] theorem Xv {ob : List (Nat × Ob)} {x y : PV} : ds0 ob (some x) (some y) = some ⟨[(0, x), (1, y)], ob⟩ := rfl
@[go_sem ↓] theorem aeQ {k : St → Prop} {u : Tok k} : W k u (Xu Γ F cc c1 c2 σ) ↔ W (fun t => W (fun p => (∀ id, p.1 ≠ .ext id) ∧ W (fun z => k ⟨[(c1, z)], p.2.ob⟩) ⟨⟩ (get p.2.tm 0)) ⟨⟩ (ev Γ F cc t)) ⟨⟩ (ds0 σ.ob (get σ.tm c1) (get σ.tm c2)) := by
  unfold Xu ds0
  cases h1 : get σ.tm c1 with
  | none => simp only [dR, jW]
  | some x =>
    cases h2 : get σ.tm c2 with
    | none => simp only [dR, jW, bJ]
    | some y =>
      simp only [dR, bJ, bB]
      refine dH fun p => ?_
      obtain ⟨o, σ'⟩ := p
      cases o with
      | ext i => simp [jW]
      | jr => simp only [ne_eq, reduceCtorEq, not_false_eq_true, implies_true, true_and, bY]
      | ret => simp only [ne_eq, reduceCtorEq, not_false_eq_true, implies_true, true_and, bY]
end
end Go.Proofs.Ytdkkgecdhapfhaa.Ev
namespace Go.Proofs.Ytdkkgecdhapfhaa.Ka
open Go Ev
variable {ext : Env} {F n : Nat} {θ : Th}
def pA : CC := (.seq (.reg [⟨(some 4), none, (.box 25 (.t 0))⟩, ⟨(some 6), none, (.box 35 (.t 2))⟩, ⟨(some 8), none, (.alloc 38 [(.f (.int .i64 0))])⟩] [1, 3, 4, 6, 8]) (.tT [⟨⟨(some 14), none, (.load 5 true (.t 6))⟩, [200000]⟩, ⟨⟨(some 15), none, (.mv (.t 1))⟩, [200000]⟩, ⟨⟨(some 16), none, (.fa 4 (.t 6))⟩, [200000]⟩, ⟨⟨(some 17), none, (.load 1 false (.t 16))⟩, [200000]⟩, ⟨⟨(some 18), none, (.call false 62 [(.t 15), (.t 17)])⟩, [200000]⟩, ⟨⟨(some 19), none, (.mv (.t 3))⟩, [200000]⟩, ⟨⟨(some 20), none, (.build [(.f (.str ⟨#[]⟩)), (.f (.int .i64 0)), (.f (.int .i64 0)), .fH, (.f (.int .i64 0)), (.f (.int .i64 0)), (.f (.int .i64 0))] [⟨0, ⟨5, (.t 14)⟩⟩, ⟨5, ⟨1, (.t 18)⟩⟩, ⟨6, ⟨1, (.t 19)⟩⟩])⟩, [200000]⟩, ⟨⟨(some 9), none, (.alloc 46 [(.f (.str ⟨#[]⟩)), (.f (.int .i64 0)), (.f (.int .i64 0)), .fH, (.f (.int .i64 0)), (.f (.int .i64 0)), (.f (.int .i64 0))])⟩, []⟩] [] [] [⟨none, none, (.store 7 (.t 9) (.t 20))⟩] [1, 4, 6, 8, 9]))
def pB : CC := (.seq (.seq (.reg [⟨(some 22), none, (.load 1 false (.t 4))⟩, ⟨(some 23), none, (.mv (.t 1))⟩, ⟨(some 24), none, (.load 7 true (.t 9))⟩, ⟨(some 25), none, (.call false 64 [(.t 22), (.t 23), (.t 24)])⟩, ⟨none, none, (.store 1 (.t 8) (.t 25))⟩] [4, 6, 8, 9]) (.seq (.reg [⟨(some 26), none, (.load 1 false (.t 8))⟩, ⟨(some 27), none, (.cmp .ne (.t 26) (.k (.one (.f (.int .i64 0)))))⟩] [4, 6, 8, 9, 27]) (.cond (.t 27) (.seq (.reg [⟨(some 28), none, (.load 1 false (.t 8))⟩, ⟨none, none, (.store 1 (.t 8) (.t 28))⟩] [4, 8]) .ret) .skip))) (.seq (.tT [⟨⟨(some 29), none, (.load 1 false (.t 4))⟩, []⟩, ⟨⟨(some 30), none, (.kX (.t 29))⟩, []⟩, ⟨⟨(some 31), none, (.fa 1 (.t 30))⟩, []⟩, ⟨⟨(some 32), none, (.load 1 false (.t 31))⟩, []⟩, ⟨⟨(some 33), none, (.fa 0 (.t 6))⟩, []⟩, ⟨⟨(some 34), none, (.load 3 true (.t 33))⟩, []⟩, ⟨⟨(some 35), none, (.load 7 true (.t 9))⟩, []⟩, ⟨⟨(some 36), none, (.call false 65 [(.t 35)])⟩, []⟩] [] [] [⟨none, none, (.zS (.agg [.str, (.int .i64), (.int .i64)]) (.t 32) (.t 34) (.t 36))⟩] [4, 6, 8]) (.seq (.tT [⟨⟨(some 38), none, (.load 1 false (.t 4))⟩, []⟩, ⟨⟨(some 39), none, (.kX (.t 38))⟩, []⟩, ⟨⟨(some 40), none, (.fa 2 (.t 39))⟩, []⟩, ⟨⟨(some 41), none, (.load 1 false (.t 40))⟩, []⟩, ⟨⟨(some 42), none, (.fa 0 (.t 6))⟩, []⟩, ⟨⟨(some 43), none, (.load 3 true (.t 42))⟩, []⟩, ⟨⟨(some 44), none, (.call false 67 [(.t 41), (.t 43)])⟩, []⟩, ⟨⟨(some 45), none, (.load 1 false (.t 4))⟩, []⟩, ⟨⟨(some 46), none, (.kX (.t 45))⟩, []⟩, ⟨⟨(some 47), none, (.fa 0 (.t 46))⟩, []⟩, ⟨⟨(some 48), none, (.load 1 false (.t 47))⟩, []⟩, ⟨⟨(some 49), none, (.call false 66 [(.t 44), (.t 48)])⟩, []⟩, ⟨⟨(some 37), none, (.mv (.t 49))⟩, []⟩, ⟨⟨(some 50), none, (.ext (.t 37) 0)⟩, []⟩, ⟨⟨(some 51), none, (.ext (.t 37) 1)⟩, []⟩, ⟨⟨(some 10), none, (.mv (.t 50))⟩, []⟩] [] [] [⟨(some 11), none, (.mv (.t 51))⟩] [4, 8, 10, 11]) (.seq (.seq (.reg [⟨(some 52), none, (.mv (.t 11))⟩, ⟨(some 53), none, (.kG (.t 52))⟩, ⟨(some 54), none, (.mv (.k (.one (.f (.int .i64 0)))))⟩] [4, 8, 10, 52, 53, 54]) (.block 0 (.loop [4, 8, 10, 52, 53, 54] [20201, 20205, 20208, 100000, 180000, 530002, 530004, 530006, 530008, 530010, 530012, 530014, 530016, 530202, 530204, 530206, 530208, 530210, 530212, 530214, 530216, 530402, 530404, 530406, 530408, 530410, 530412, 530414, 530416, 530602, 530604, 530606, 530608, 530610, 530612, 530614, 530616, 530802, 530804, 530806, 530808, 530810, 530812, 530814, 530816, 531002, 531004, 531006, 531008, 531010, 531012, 531014, 531016, 1000200, 1002200] [] (.seq (.reg [⟨(some 55), none, (.cmp .lt (.t 54) (.t 53))⟩] [4, 8, 10, 52, 53, 54, 55]) (.seq (.cond (.t 55) .skip (.exit 0)) (.seq (.block 1 (.seq (.reg [⟨(some 56), none, (.ia 3 (.t 52) (.t 54))⟩, ⟨(some 57), none, (.load 3 true (.t 56))⟩, ⟨(some 13), none, (.alloc 32 [(.f (.str ⟨#[]⟩)), (.f (.int .i64 0)), (.f (.int .i64 0))])⟩, ⟨none, none, (.store 3 (.t 13) (.t 57))⟩] [4, 8, 10, 13, 52, 53, 54]) (.tT [⟨⟨(some 58), none, (.load 1 false (.t 4))⟩, []⟩, ⟨⟨(some 59), none, (.kX (.t 58))⟩, []⟩, ⟨⟨(some 60), none, (.fa 1 (.t 59))⟩, []⟩, ⟨⟨(some 61), none, (.load 1 false (.t 60))⟩, []⟩, ⟨⟨(some 62), none, (.load 3 true (.t 13))⟩, []⟩] [] [] [⟨none, none, (.del (.agg [.str, (.int .i64), (.int .i64)]) (.t 61) (.t 62))⟩] [4, 8, 10, 52, 53, 54]))) (.reg [⟨(some 63), none, (.ar .add (.t 54) (.k (.one (.f (.int .i64 1)))))⟩, ⟨(some 54), none, (.mv (.t 63))⟩] [4, 8, 10, 52, 53, 54]))))))) (.seq (.reg [⟨(some 64), none, (.load 1 false (.t 4))⟩, ⟨(some 65), none, (.mv (.t 10))⟩, ⟨(some 66), none, (.kX (.t 64))⟩, ⟨(some 67), none, (.fa 2 (.t 66))⟩, ⟨none, none, (.store 1 (.t 67) (.t 65))⟩] [4, 8]) (.seq (.reg [⟨none, none, (.store 1 (.t 8) (.k (.one (.f (.int .i64 0)))))⟩] [4, 8]) .ret))))))
def Km : CF := ⟨4, [(.cell 8 1 false)], [], [], .skip⟩
def Xw : CF := ⟨2, [], [], [], (.seq (.reg [⟨(some 2), none, (.load 1 false (.t 0))⟩, ⟨(some 3), none, (.cmp .eq (.t 2) (.k (.one (.f (.int .i64 0)))))⟩] [0, 1, 3]) (.cond (.t 3) (.reg [⟨(some 4), none, (.load 1 false (.t 1))⟩, ⟨(some 5), none, (.kX (.t 4))⟩, ⟨(some 6), none, (.fa 3 (.t 5))⟩, ⟨(some 7), none, (.load 1 false (.t 6))⟩, ⟨(some 8), none, (.ar .add (.t 7) (.k (.one (.f (.int .i64 1)))))⟩, ⟨(some 9), none, (.kX (.t 4))⟩, ⟨(some 10), none, (.fa 3 (.t 9))⟩, ⟨none, none, (.store 1 (.t 10) (.t 8))⟩] [0]) .skip))⟩
noncomputable abbrev uR (ext : Env) (F n : Nat) : List AV → Option (List AV × List AV) := Kl (G ext F n) F pA pB 21 (Xu (G ext F n) F Xw.body 8 4) Km
theorem Kn (now : Int) (x : Se) (r : Int) : uR ext F (n + 9) [.one .jq, vi now, x.v, vi r] = some ([vi 1], [.one .jq, vi now, x.v, vi r]) := by
  refine JX ?_
  have hu := fun n => CP (ext := ext) (F := F) (n := n) now x.ttl
  have hm := fun n => Ki (ext := ext) (F := F) (n := n) now (x.it (cZ now x.ttl) r)
  simp only [uR, pA, pB, Km, Xw, hu, hm, Int.reduceEq, go_sem, Nat.reduceAdd, Nat.reduceMul, Nat.reduceEqDiff, Nat.reduceBEq, Nat.reduceMod, Nat.reduceDiv, ↓reduceIte, reduceCtorEq]
theorem Ko (T : θ.Ok ext) (C : qQ ext) (s : Sv) (now : Int) (x : Se) (r : Int) (hF : 200000000000001 ≤ F) (h1 : 0 ≤ s.room ∧ s.room ≤ 1000000) (h2 : 0 ≤ s.ch ∧ s.ch ≤ 1000000000000) (h3 : s.o.length ≤ 100000) (h4 : x.q.size ≤ 1000000) (h5 : x.d.length ≤ 1000000) (h6 : ∀ y ∈ x.d, y.size ≤ 1000000) : uR ext F (n + 9) [s.v, vi now, x.v, vi r] = some ([vi (jM θ s now x r).2], [(jM θ s now x r).1.v, vi now, x.v, vi r]) := by
  refine JX ?_
  have hu := fun n => CP (ext := ext) (F := F) (n := n) now x.ttl
  have hm := fun n => SQ (F := F) (n := n) T s now (x.it (cZ now x.ttl) r) hF h4 h5 h6
  by_cases h0 : qh θ s now (x.it (cZ now x.ttl) r) = 0
  · have hw : IntKind.i64.wrap (s.ch + 1) = s.ch + 1 := CK (by omega) (by omega)
    have hcl := fun n => CZ (ext := ext) (F := F) (n := n) C (x.it (cZ now x.ttl) r) h5
    have hq := @Az s.o x.k
    have ht := fun n => CU (ext := ext) (F := F) (n := n) C s.o x.k (by omega) hF
    have hc := fun n => SI (ext := ext) (F := F) (n := n) C (uo s.o x.k ++ [x.k]) s.room (by simp; omega) (by omega) hF
    have hup := Kg s.m (x.it (cZ now x.ttl) r)
    simp only [kq, rI] at hup
    rw [h0] at hm
    have he : jM θ s now x r = (⟨s.room, ((uo s.o x.k ++ [x.k]).take ((uo s.o x.k ++ [x.k]).length - s.room.toNat)).foldl rid (upd s.m (x.it (cZ now x.ttl) r)), (uo s.o x.k ++ [x.k]).drop ((uo s.o x.k ++ [x.k]).length - s.room.toNat), s.ch + 1⟩, 0) := by
      unfold jM
      simp only [ne_eq, h0, not_true_eq_false, if_false]
    rw [he]
    generalize hqt : uo s.o x.k ++ [x.k] = t at ht hc ⊢
    generalize t.drop (t.length - s.room.toNat) = td at hc ⊢
    generalize htt : t.take (t.length - s.room.toNat) = tt at hc ⊢
    have htl : tt.length ≤ 1000000 := by rw [← htt, List.length_take, ← hqt, List.length_append, List.length_singleton]; omega
    generalize hM : upd s.m (x.it (cZ now x.ttl) r) = M at hup ⊢
    simp only [uR, pA, pB, Km, Xw, hu, hm, Int.reduceEq, hcl, ht, hc, hup, hw, go_sem, Nat.reduceAdd, Nat.reduceMul, Nat.reduceEqDiff, Nat.reduceBEq, Nat.reduceMod, Nat.reduceDiv, ↓reduceIte, reduceCtorEq]
    refine wT tt.length (fun i => ⟨[(4, PV.c (CV.one (PL.ptr 100000 0))), (8, PV.c (CV.one (PL.ptr 180000 0))), (10, PV.c (CV.one (PL.f (FV.sl (List.map rQ td))))), (52, PV.c (CV.one (PL.f (FV.sl (List.map rQ tt))))), (53, PV.c (CV.one (PL.f (FV.int IntKind.i64 ↑(List.map rQ tt).length)))), (54, PV.c (CV.one (PL.f (FV.int IntKind.i64 i))))], [(20201, Ob.mR [PL.f (FV.int IntKind.i64 s.room), PL.mp 530004, PL.f (FV.sl (List.map rQ s.o)), PL.f (FV.int IntKind.i64 s.ch)]), (100000, Ob.mR [PL.ptr 20201 0]), (180000, Ob.mR [PL.f (FV.int IntKind.i64 0)]), (530004, Ob.map shQ (((tt.take i).foldl rid M).map ent))]⟩) (fun _ => True) (by omega) rfl trivial (fun i hi _ => ?_) (fun _ => ?_)
    · obtain ⟨k, hx, hlt, hit, h00⟩ := at_ hi
      have hn' := nx hi (by omega)
      have hdl := CX ((tt.take i).foldl rid M) k
      have hfo : (tt.take (i + 1)).foldl rid M = rid ((tt.take i).foldl rid M) k := by rw [List.take_add_one, hx, List.foldl_append]; rfl
      simp only [List.length_map, List.getElem?_map, hlt, hx, hit, h00, hn', rQ, hdl, go_sem, Nat.reduceAdd, Nat.reduceMul, Nat.reduceEqDiff, Nat.reduceBEq, Nat.reduceMod, Nat.reduceDiv, ↓reduceIte, reduceCtorEq]
      rw [hfo]
    · have hd := @end_ _ tt
      simp only [List.length_map, hd, hw, List.take_length, Int.reduceEq, go_sem, Nat.reduceAdd, Nat.reduceMul, Nat.reduceEqDiff, Nat.reduceBEq, Nat.reduceMod, Nat.reduceDiv, ↓reduceIte, reduceCtorEq]
      done
  · have he : jM θ s now x r = (s, qh θ s now (x.it (cZ now x.ttl) r)) := by
      unfold jM
      simp only [ne_eq, h0, not_false_eq_true, if_true]
    rw [he]
    simp only [uR, pA, pB, Km, Xw, hu, hm, Int.reduceEq, h0, go_sem, Nat.reduceAdd, Nat.reduceMul, Nat.reduceEqDiff, Nat.reduceBEq, Nat.reduceMod, Nat.reduceDiv, ↓reduceIte, reduceCtorEq]
end Go.Proofs.Ytdkkgecdhapfhaa.Ka
namespace Go.Proofs.Ytdkkgecdhapfhaa.Ev
open Go
def EH (P : Program) : List Field → Nat → Bool
  | [], _ => true
  | f :: fs, i => (f.name != "_") && (f.offset == i) && (DZ P f.type).isSome && EH P fs (i + 1)
def okT (P : Program) (t : TypeId) : Bool := !P.eqGuardType P.depth t && match P.underlying t with
  | some (.struct fs) => !P.stoodInHeld t && EH P fs.toList 0
  | some (.int _) => true
  | some .string => true
  | some .bool => true
  | _ => false
section
variable {P : Program} {t : TypeId} {w : World}
theorem uq {k : SK} (h : DZ P t = some k) : (∃ i, P.underlying t = some (.int i) ∧ k = .int i) ∨ (P.underlying t = some .bool ∧ k = .bool) ∨ (P.underlying t = some .string ∧ k = .str) := by
  unfold DZ at h
  split at h <;> simp_all
theorem Qo {d : Nat} {k : SK} (h : DZ P t = some k) {a b : SV} (ha : a.sk = k) (hb : b.sk = k) : (Op.equalIn (d + 1) t (encS a) (encS b)).run P w = .ok (decide (a = b)) w := by
  rcases uq h with ⟨i, hu, rfl⟩ | ⟨hu, rfl⟩ | ⟨hu, rfl⟩
  · cases a <;> cases b <;> simp_all [SV.sk, encS, Op.equalIn, run_underlying hu]
    rw [Bool.eq_iff_iff]; simp
  · cases a <;> cases b <;> simp_all [SV.sk, encS, Op.equalIn, run_underlying hu]
    rw [Bool.eq_iff_iff]; simp
  · cases a <;> cases b <;> simp_all [SV.sk, encS, Op.equalIn, run_underlying hu]
    exact Mq.tV _ _
theorem AJ {k : SK} (h : DZ P t = some k) {xs : Array Value} {o : Nat} {v : Value} (hx : xs[o]? = some v) : (part t xs o).run P w = .ok v w := by
  rcases uq h with ⟨i, hu, rfl⟩ | ⟨hu, rfl⟩ | ⟨hu, rfl⟩ <;> simp [part, isAgg, run_underlying hu, hx]
theorem zn {d : Nat} {xs ys : Array Value} : ∀ {fs : List Field} {i : Nat} {ks : List SK} {ZZ9 bs : List SV}, EH P fs i = true → G9 P fs = some ks → ZZ9.map SV.sk = ks → bs.map SV.sk = ks → (∀ j : Nat, xs[i + j]? = ZZ9[j]?.map encS) → (∀ j : Nat, ys[i + j]? = bs[j]?.map encS) →
    (Op.eqFields (d + 1) xs ys fs).run P w = .ok (decide (ZZ9 = bs)) w
  | [], i, ks, ZZ9, bs, _, hk, ha, hb, _, _ => by
    cases hk
    simp only [List.map_eq_nil_iff] at ha hb
    subst ha; subst hb
    simp [Op.eqFields]
  | f :: fs, i, ks, ZZ9, bs, hf, hk, ha, hb, hx, hy => by
    obtain ⟨k, h1, h2⟩ := zbm hk
    obtain ⟨l, h3, rfl⟩ := zmm h2
    unfold EH at hf
    simp only [Bool.and_eq_true, bne_iff_ne, ne_eq, beq_iff_eq] at hf
    obtain ⟨⟨⟨f1, f2⟩, f3⟩, f4⟩ := hf
    cases ZZ9 with
    | nil => simp at ha
    | cons a ZZ9 =>
    cases bs with
    | nil => simp at hb
    | cons b bs =>
    simp only [List.map_cons, List.cons.injEq] at ha hb
    have ex : xs[f.offset]? = some (encS a) := by rw [f2]; simpa using hx 0
    have ey : ys[f.offset]? = some (encS b) := by rw [f2]; simpa using hy 0
    have ih := zn (d := d) f4 h3 ha.2 hb.2 (fun j => by have := hx (j + 1); rw [show i + 1 + j = i + (j + 1) from by omega]; simpa using this) (fun j => by have := hy (j + 1); rw [show i + 1 + j = i + (j + 1) from by omega]; simpa using this)
    unfold Op.eqFields
    rw [if_pos f1]
    simp only [Sem.run_bind, AJ h1 ex, AJ h1 ey, Result.andThen_ok, Qo h1 ha.1 hb.1, List.cons.injEq]
    by_cases hab : a = b
    · subst hab; simp [ih]
    · simp [hab]
theorem Na {e : Bool} {n : Nat} {k : SK} (h : DZ P t = some k) {a : SV} (ha : a.sk = k) : (Instr.checkKey e (n + 1) t (encS a)).run P w = .ok () w := by
  rcases uq h with ⟨i, hu, rfl⟩ | ⟨hu, rfl⟩ | ⟨hu, rfl⟩ <;> cases a <;> simp_all [SV.sk, encS, Instr.checkKey, run_underlying hu]
theorem Da {e : Bool} {n : Nat} {cs : Array Value} : ∀ {fs : List Field} {i : Nat} {ks : List SK} {ZZ9 : List SV}, EH P fs i = true → G9 P fs = some ks → ZZ9.map SV.sk = ks → (∀ j : Nat, cs[i + j]? = ZZ9[j]?.map encS) →
    (forIn fs PUnit.unit (fun (f : Field) (_ : PUnit) => (do
      if f.name ≠ "_" then Instr.checkKey e (n + 1) f.type (← part f.type cs f.offset)
      pure (ForInStep.yield PUnit.unit) : Sem (ForInStep PUnit)))).run P w = .ok PUnit.unit w
  | [], i, ks, ZZ9, _, _, _, _ => by simp
  | f :: fs, i, ks, ZZ9, hf, hk, ha, hx => by
    obtain ⟨k, h1, h2⟩ := zbm hk
    obtain ⟨l, h3, rfl⟩ := zmm h2
    unfold EH at hf
    simp only [Bool.and_eq_true, bne_iff_ne, ne_eq, beq_iff_eq] at hf
    obtain ⟨⟨⟨f1, f2⟩, f3⟩, f4⟩ := hf
    cases ZZ9 with
    | nil => simp at ha
    | cons a ZZ9 =>
    simp only [List.map_cons, List.cons.injEq] at ha
    have ex : cs[f.offset]? = some (encS a) := by rw [f2]; simpa using hx 0
    have ih := Da (e := e) (n := n) f4 h3 ha.2 (fun j => by have := hx (j + 1); rw [show i + 1 + j = i + (j + 1) from by omega]; simpa using this)
    rw [List.forIn_cons]
    simp only [if_pos f1, Sem.run_bind, AJ h1 ex, Result.andThen_ok, Na h1 ha.1, Sem.run_pure]
    exact ih
theorem Nb {e : Bool} {n : Nat} {fs : Array Field} {ks : List SK} {ZZ9 : List SV} (hu : P.underlying t = some (.struct fs)) (hf : EH P fs.toList 0 = true) (hk : G9 P fs.toList = some ks) (ha : ZZ9.map SV.sk = ks) : (Instr.checkKey e (n + 2) t (.agg (ZZ9.map encS).toArray)).run P w = .ok () w := by
  have := Da (w := w) (e := e) (n := n) hf hk ha (cs := (ZZ9.map encS).toArray) (fun j => by simp)
  unfold Instr.checkKey
  simp only [Sem.run_bind, run_underlying hu, Result.andThen_ok]
  rw [← Array.forIn_toList]
  simp only [ne_eq, ite_not] at this ⊢
  simp at this ⊢
  rw [this]
  rfl
theorem Nc {n : Nat} {ZZ9 : List SV} (hs : ∀ (n : Nat) (a : SV), Instr.sameBits n (encS a) (encS a) = true) : Instr.sameBits (n + 1) (.agg (ZZ9.map encS).toArray) (.agg (ZZ9.map encS).toArray) = true := by
  unfold Instr.sameBits
  simp only [beq_self_eq_true, Bool.true_and, List.all_eq_true]
  intro p hp
  have : ∀ (l : List Value) (p : Value × Value), p ∈ l.zip l → p.1 = p.2 ∧ p.1 ∈ l := by
    intro l
    induction l with
    | nil => intro p hp; simp at hp
    | cons x l ih =>
      intro p hp
      rcases List.mem_cons.mp hp with rfl | hp
      · exact ⟨rfl, by simp⟩
      · exact ⟨(ih p hp).1, List.mem_cons_of_mem _ (ih p hp).2⟩
  obtain ⟨h1, h2⟩ := this _ _ hp
  obtain ⟨x, y⟩ := p
  simp only at h1 h2
  subst h1
  simp only [List.mem_map] at h2
  obtain ⟨s, _, rfl⟩ := h2
  exact hs _ s
theorem F4 {n : Nat} (a : SV) : Instr.sameBits n (encS a) (encS a) = true := by
  cases a <;> simp [encS, Instr.sameBits]
  rw [Mq.tV]; simp
theorem Db {ks : List SK} {a : KV} (h : a.ks = .agg ks) : ∃ ZZ9, a = .agg ZZ9 ∧ ZZ9.map SV.sk = ks := by
  cases a with
  | one x => cases h
  | agg ZZ9 => exact ⟨ZZ9, rfl, by simpa [KV.ks] using h⟩
theorem zo {k : SK} {a : KV} (h : a.ks = .one k) : ∃ x, a = .one x ∧ x.sk = k := by
  cases a with
  | one x => exact ⟨x, rfl, by simpa [KV.ks] using h⟩
  | agg ZZ9 => cases h
theorem Nf {n : Nat} {d : TypeDesc} (hu : P.underlying t = some d) (hd : ∀ ms, d ≠ .interface ms) : (Op.eqGuardIn (n + 1) t .nilIface .nilIface).run P w = .ok false w := by
  unfold Op.eqGuardIn
  simp only [Sem.run_bind, run_underlying hu, Result.andThen_ok]
  cases d <;> first | rfl | exact absurd rfl (hd _)
theorem AL {d : TypeDesc} (hu : P.underlying t = some d) (hd : ∀ ms, d ≠ .interface ms) (w : World) : (Op.eqGuardIn Op.maxDepth t .nilIface .nilIface).run P w = .ok false w := by
  unfold Op.maxDepth
  exact Nf hu hd
set_option maxHeartbeats 2000000 in
theorem SX (h : okT P t = true) : lF P t := by
  unfold okT at h
  rw [Bool.and_eq_true] at h
  obtain ⟨hg, h⟩ := h
  have hg' : P.eqGuardType P.depth t = false := by simpa using hg
  have gd : (∀ w, (Op.eqGuardIn Op.maxDepth t .nilIface .nilIface).run P w = .ok false w) → ∀ op x y, ∀ (a b : Value) (w : World), (eqGuard op t x y a b).run P w = .ok () w := by
    intro hn op x y a b w
    have key : (Sem.run P (match a, b with
      | .nilIface, .nilIface => do
        if (x matches .const _) || (y matches .const _) then return
        if ← Op.eqGuardIn Op.maxDepth t a b then unsupported (.noEntry "binop/eql: two nil values of an interface type with methods, neither of them the literal nil")
      | .agg _, .agg _ => do
        if !(← program).eqGuardType (← program).depth t then return
        if ← Op.eqGuardIn Op.maxDepth t a b then unsupported (.noEntry "binop/eql: two nil values of an interface type with methods, in a part of a struct or an array")
      | _, _ => pure ()) w) = .ok () w := by
      cases a <;> cases b <;> first | rfl | (simp only [Sem.run_bind, run_program, Result.andThen_ok, hg']; rfl) | skip
      cases x <;> cases y <;> first | rfl | simp [hn]
    unfold eqGuard
    split
    · exact key
    · exact key
    · rfl
  cases hu : P.underlying t with
  | none => rw [hu] at h; cases h
  | some d =>
    rw [hu] at h
    have sc : ∀ k, DZ P t = some k → wB P t = some (.one k) → (∀ w, (Op.eqGuardIn Op.maxDepth t .nilIface .nilIface).run P w = .ok false w) → (∀ a : SV, a.sk = k → MapKept.IsKey d (encS a)) → (∀ a b : SV, a.sk = k → b.sk = k → Instr.sameNow d (encS a) (encS b) = some (decide (a = b))) → lF P t := by
      intro k hk hks hn h1 h2
      have hcase : ∀ {sh}, wB P t = some sh → sh = .one k := fun e => by rw [hks] at e; cases e; rfl
      refine ⟨fun sh e => ?_, fun sh e a b w ha hb => ?_, gd hn⟩
      · obtain rfl := hcase e
        refine Mq.Key.L8 hu (fun a ha => ?_) (fun a b ha hb => ?_) (fun a ha => ?_)
        · obtain ⟨x, rfl, hx⟩ := zo ha; exact h1 x hx
        · obtain ⟨x, rfl, hx⟩ := zo ha
          obtain ⟨y, rfl, hy⟩ := zo hb
          simp only [mZ, KV.one.injEq]
          exact h2 x y hx hy
        · obtain ⟨x, rfl, hx⟩ := zo ha; exact F4 x
      · obtain rfl := hcase e
        obtain ⟨x, rfl, hx⟩ := zo ha
        obtain ⟨y, rfl, hy⟩ := zo hb
        simp only [mZ, KV.one.injEq]
        unfold Op.equal Op.maxDepth
        exact Qo hk hx hy
    cases d with
    | int i =>
      refine sc (.int i) (by simp [DZ, hu]) (by simp [wB, DZ, hu]) (AL hu (fun _ h => by cases h)) (fun a ha => ?_) (fun a b ha hb => ?_)
      · cases a <;> simp_all [SV.sk, encS, MapKept.IsKey]
      · cases a <;> cases b <;> simp_all [SV.sk, encS, Instr.sameNow]
        rw [Bool.eq_iff_iff]; simp
    | bool =>
      refine sc .bool (by simp [DZ, hu]) (by simp [wB, DZ, hu]) (AL hu (fun _ h => by cases h)) (fun a ha => ?_) (fun a b ha hb => ?_)
      · cases a <;> simp_all [SV.sk, encS, MapKept.IsKey]
      · cases a <;> cases b <;> simp_all [SV.sk, encS, Instr.sameNow]
        rw [Bool.eq_iff_iff]; simp
    | string =>
      refine sc .str (by simp [DZ, hu]) (by simp [wB, DZ, hu]) (AL hu (fun _ h => by cases h)) (fun a ha => ?_) (fun a b ha hb => ?_)
      · cases a <;> simp_all [SV.sk, encS, MapKept.IsKey]
      · cases a <;> cases b <;> simp_all [SV.sk, encS, Instr.sameNow]
        exact Mq.tV _ _
    | struct fs =>
      simp only [Bool.and_eq_true, Bool.not_eq_true'] at h
      have hcase : ∀ {sh}, wB P t = some sh → ∃ ks, G9 P fs.toList = some ks ∧ sh = .agg ks := fun e => by
        unfold wB at e
        rw [hu] at e
        obtain ⟨ks, h1, h2⟩ := zmm e
        exact ⟨ks, h1, h2.symm⟩
      have idx : ∀ (ZZ9 : List SV) (j : Nat), ((ZZ9.map encS).toArray)[0 + j]? = ZZ9[j]?.map encS := fun ZZ9 j => by simp
      have heq : ∀ sh, wB P t = some sh → ∀ (a b : KV) (w : World), a.ks = sh → b.ks = sh → (Op.equal t (mZ a) (mZ b)).run P w = .ok (decide (a = b)) w := by
        intro sh e a b w ha hb
        obtain ⟨ks, hks, rfl⟩ := hcase e
        obtain ⟨ZZ9, rfl, ha1⟩ := Db ha
        obtain ⟨bs, rfl, hb1⟩ := Db hb
        have hf : P.fieldsOf t = fs := by simp [Program.fieldsOf, hu]
        unfold Op.equal Op.maxDepth
        simp only [mZ, KV.agg.injEq]
        rw [run_equalIn_struct (P := P) w _ t _ _ (by rw [hf]; exact hu) h.1, hf]
        exact zn h.2 hks ha1 hb1 (idx ZZ9) (idx bs)
      refine ⟨fun sh e => ?_, heq, gd (AL hu (fun _ h => by cases h))⟩
      · obtain ⟨ks, hks, rfl⟩ := hcase e
        refine Mq.Key.Je hu (fun e' a w ha => ?_) (fun a b w ha hb => heq _ e a b w ha hb) (fun a ha => ?_) (fun a ha => ?_)
        · obtain ⟨ZZ9, rfl, ha1⟩ := Db ha
          exact Nb (n := 9998) hu h.2 hks ha1
        · obtain ⟨ZZ9, rfl, ha1⟩ := Db ha
          exact Nc (n := 9999) (fun n a => F4 a)
        · obtain ⟨ZZ9, rfl, ha1⟩ := Db ha
          exact ⟨_, rfl⟩
    | _ => simp at h
end
end Go.Proofs.Ytdkkgecdhapfhaa.Ev
set_option maxRecDepth 100000
namespace Go.Proofs.Ytdkkgecdhapfhaa.Ka
open Go Go.RowKit Go.Proofs Ev
theorem eqs : ∀ t ∈ [3, 32], lF Try.prog t := by
  intro t ht
  simp only [List.mem_cons, List.not_mem_nil, or_false] at ht
  rcases ht with rfl | rfl <;> exact SX (by kernel_rfl)
theorem mixed : Try.prog.follows .mixedOrders = true := by kernel_rfl
theorem Ng : iN Try.prog fun _ _ => none := fun f gH rs ru h => by cases h
theorem Hy : eO Try.prog fun _ _ => none := fun f gH r h => by cases h
def SY : CF := ⟨1, [(.t 2)], [], [], (.seq (.reg [⟨(some 2), none, (.mv (.k (.one .fH)))⟩] [0]) (.seq (.seq (.reg [⟨(some 3), none, (.mv (.t 0))⟩, ⟨(some 4), none, (.zT false (.t 3))⟩] [0, 4]) (.cond (.t 4) (.seq (.reg [⟨(some 2), none, (.mv (.k (.one .fH)))⟩] [2]) .ret) .skip)) (.seq (.reg [⟨(some 5), none, (.DY 9 1 0 [] [])⟩, ⟨(some 6), none, (.mv (.t 0))⟩, ⟨(some 7), none, (.app 9 1 16 (.t 5) (.t 6))⟩, ⟨(some 2), none, (.mv (.t 7))⟩] [2]) .ret)))⟩
def S9 : CF := ⟨1, [(.t 2)], [some 3], [], (.seq (.reg [⟨(some 2), none, (.mv (.k (.one .fH)))⟩] [0]) (.seq (.seq (.reg [⟨(some 3), none, (.mv (.t 0))⟩, ⟨(some 4), none, (.zT false (.t 3))⟩] [0, 4]) (.cond (.t 4) (.seq (.reg [⟨(some 2), none, (.mv (.k (.one .fH)))⟩] [2]) .ret) .skip)) (.seq (.reg [⟨(some 5), none, (.DY 32 3 0 [] [])⟩, ⟨(some 6), none, (.mv (.t 0))⟩, ⟨(some 7), none, (.app 32 3 32 (.t 5) (.t 6))⟩, ⟨(some 2), none, (.mv (.t 7))⟩] [2]) .ret)))⟩
theorem Nh {f : FuncId} {cf : CF} {Γ : Env} (h : mO Try.prog f cf) (h1 : iN Try.prog Γ) (h2 : eO Try.prog Γ) (F : Nat) : Sat Try.prog f (IZ Γ F cf) := by
  obtain ⟨fn, c, X, hints, rest, e1, _, e2, e3, e4, e5, e6⟩ := h.ok
  exact zm mixed e3 h1 h2 e1 e2 e4 e5 e6 F
theorem Ni : mO Try.prog 88 SY := ⟨Try.f88, _, ⟨[3, 32], [], [], [33, 89]⟩, [⟨[0], [], []⟩, ⟨[0, 4], [], []⟩, ⟨[2], [], []⟩, ⟨[2], [], []⟩], [], by kernel_rfl, by kernel_rfl, rfl, eqs, by kernel_rfl, by kernel_rfl, by decide⟩
theorem Nj : mO Try.prog 70 S9 := ⟨Try.f70, _, ⟨[3, 32], [], [], [33, 89]⟩, [⟨[0], [], []⟩, ⟨[0, 4], [], []⟩, ⟨[2], [], []⟩, ⟨[2], [], []⟩], [], by kernel_rfl, by kernel_rfl, rfl, eqs, by kernel_rfl, by kernel_rfl, by decide⟩
theorem Nk (r : List FV) (l : List (List FV)) (h : l.length < 1000000) (hl : (r :: l).all (fun r => r.length == 1) = true) : IZ (fun _ _ => none) 10 SY [vl (r :: l)] = some ([vl (r :: l)], [vl (r :: l)]) := by
  refine JX ?_
  rw [List.all_cons, Bool.and_eq_true] at hl
  simp only [SY, hl.1, hl.2, List.all_cons, go_sem, Nat.reduceAdd, Nat.reduceMul, Nat.reduceEqDiff, Nat.reduceBEq, Nat.reduceMod, Nat.reduceDiv, ↓reduceIte, reduceCtorEq]
  omega
theorem Nl (r : List FV) (l : List (List FV)) (h : l.length < 1000000) (hl : (r :: l).all (fun r => r.length == 3) = true) : IZ (fun _ _ => none) 10 S9 [vl (r :: l)] = some ([.one (.own 3 (r :: l))], [vl (r :: l)]) := by
  refine JX ?_
  rw [List.all_cons, Bool.and_eq_true] at hl
  simp only [S9, hl.1, hl.2, List.all_cons, go_sem, Nat.reduceAdd, Nat.reduceMul, Nat.reduceEqDiff, Nat.reduceBEq, Nat.reduceMod, Nat.reduceDiv, ↓reduceIte, reduceCtorEq]
  omega
theorem vO {t e : TypeId} (hu : Try.prog.underlying t = some (.slice e)) (p : Option Addr) (c : Nat) (w : World) : (binOp .eql t (.slice p 0 c) (.slice none 0 0)).run Try.prog w = .ok (.bool p.isNone) w := by
  have := run_equal_slice_nil w t e p 0 c hu
  simp only [binOp, Sem.run_bind, this, Result.andThen_ok, Sem.run_pure]
theorem Dc {t ty e : TypeId} {i : TypeInfo} (hu : Try.prog.underlying t = some (.slice e)) (hi : Try.prog.info? e = some i) (a b : Addr) (c : Nat) (w : World) : (Builtin.append_ #[t, t] ty #[.slice (some b) 0 0, .slice (some a) 0 c]).run Try.prog w = .ok (.slice (some b) 0 0) w := by
  have h1 : ∀ w, (Builtin.lenOf (.slice (some a) 0 c)).run Try.prog w = .ok 0 w := fun _ => rfl
  have h2 := fun w => run_firstCells_some (P := Try.prog) w i.size 0 a 0 c [] (by simp) (by simp)
  simp [Builtin.append_, run_underlying hu, sizeOf, typeInfo, hi, storeCells, h1, h2]
theorem Kq (c : Nat) (w : World) : Calls Try.prog 88 #[.slice none 0 c] w fun e w' => e = .returned (.slice none 0 0) ∧ w' = w := by
  have heq := vO (t := 33) (e := 9) (by kernel_rfl) none c
  go_enter Try.func88, Try.ntmps88
  go_wp2
  go_ret
  exact ⟨rfl, rfl⟩
theorem Kr (a : Addr) (c : Nat) (w : World) : Calls Try.prog 88 #[.slice (some a) 0 c] w fun e w' => e = .returned (.slice (some ⟨w.heap.size, 0, none⟩) 0 0) ∧ w' = w.alloc (.cells #[] 9) := by
  have heq := vO (t := 33) (e := 9) (by kernel_rfl) (some a) c
  obtain ⟨i, hi⟩ := Option.isSome_iff_exists.mp (show (Try.prog.info? 9).isSome = true by kernel_rfl)
  have hap := fun b w => Dc (t := 33) (ty := 33) (e := 9) (by kernel_rfl) hi a b c w
  go_enter Try.func88, Try.ntmps88
  go_wp2
  go_ret
  exact ⟨rfl, rfl⟩
theorem Kt (c : Nat) (w : World) : Calls Try.prog 70 #[.slice none 0 c] w fun e w' => e = .returned (.slice none 0 0) ∧ w' = w := by
  have heq := vO (t := 57) (e := 32) (by kernel_rfl) none c
  go_enter Try.func70, Try.ntmps70
  go_wp2
  go_ret
  exact ⟨rfl, rfl⟩
theorem Ku (a : Addr) (c : Nat) (w : World) : Calls Try.prog 70 #[.slice (some a) 0 c] w fun e w' => e = .returned (.slice (some ⟨w.heap.size, 0, none⟩) 0 0) ∧ w' = w.alloc (.cells #[] 32) := by
  have heq := vO (t := 57) (e := 32) (by kernel_rfl) (some a) c
  obtain ⟨i, hi⟩ := Option.isSome_iff_exists.mp (show (Try.prog.info? 32).isSome = true by kernel_rfl)
  have hap := fun b w => Dc (t := 57) (ty := 57) (e := 32) (by kernel_rfl) hi a b c w
  go_enter Try.func70, Try.ntmps70
  go_wp2
  go_ret
  exact ⟨rfl, rfl⟩
def Nn (sz : Nat) (own : Bool) (gH : List AV) : Option (List AV × List AV) := match gH with
  | [.one (.f (.sl rows))] => if rows.length ≤ 1000000 ∧ rows.all (fun r => r.length == sz) = true then some ([.one (if own then .own sz rows else .f (.sl rows))], gH) else none
  | _ => none
theorem EI (w : World) (o : Obj) : w.heap.size ≤ (w.alloc o).heap.size ∧ (∀ b, b < w.heap.size → (w.alloc o).heap[b]? = w.heap[b]?) ∧ (w.alloc o).heap[w.heap.size]? = some o ∧ (w.alloc o).heap.size = w.heap.size + 1 := by
  obtain ⟨h1, h2, h3⟩ := ng w o
  exact ⟨by omega, h2, h1, h3⟩
theorem F5 {f : FuncId} {cf : CF} {sz e : Nat} {own : Bool} (h0 : 0 < sz) (he : mO Try.prog f cf) (hrun : ∀ (r : List FV) (l : List (List FV)), l.length < 1000000 → (r :: l).all (fun r => r.length == sz) = true → IZ (fun _ _ => none) 10 cf [vl (r :: l)] = some ([.one (if own then .own sz (r :: l) else .f (.sl (r :: l)))], [vl (r :: l)]))
    (hn : ∀ (c : Nat) (w : World), Calls Try.prog f #[.slice none 0 c] w fun e w' => e = .returned (.slice none 0 0) ∧ w' = w)
    (hs : ∀ (a : Addr) (c : Nat) (w : World), Calls Try.prog f #[.slice (some a) 0 c] w fun e' w' => e' = .returned (.slice (some ⟨w.heap.size, 0, none⟩) 0 0) ∧ w' = w.alloc (.cells #[] e)) : Sat Try.prog f (Nn sz own) := by
  intro gH rs ru hg
  unfold Nn at hg
  split at hg
  · rename_i rows
    split at hg
    · rename_i hc
      cases hg
      cases rows with
      | cons r l =>
        exact Nh he Ng Hy 10 _ _ _ (hrun r l (by have := hc.1; simp at this; omega) hc.2)
      | nil =>
        intro Fz w vals bs ha hnd hap hfz
        match vals, ha with
        | [v], ⟨b1, b2, h1, h2, e0⟩ =>
        obtain ⟨hv, rfl⟩ := h1
        obtain rfl : b2 = [] := h2
        subst e0
        simp only [fA] at hv
        obtain ⟨A, c, rfl, hle, hbig, _⟩ := hv
        have hrep : ∀ (w' : World) (v : Value), (∃ A, v = .slice A 0 0) → fA Fz w' (.sl []) v := fun w' v ⟨A, hA⟩ => by
          simp only [fA]; exact ⟨A, 0, by rw [hA]; rfl, Nat.le_refl _, by simp, .inl trivial⟩
        have hbk : ∀ (w' : World), fM Fz w' [vl []] [.slice A ([] : List (List FV)).length c] [] := fun w' =>
          ⟨[], [], ⟨by simp only [fA]; exact ⟨A, c, rfl, hle, hbig, .inl trivial⟩, rfl⟩, rfl, rfl⟩
        cases A with
        | none =>
          refine (hn c w).mono fun e' w' ⟨e1, e2⟩ => ?_
          subst e2
          refine ⟨Fz, [.slice none 0 0], [], [], e1, fun _ h => h, fun b hb => ⟨hfz b hb, .inl hb⟩, Nat.le_refl _, fun _ _ _ => rfl, ⟨rfl, rfl⟩, hbk w', ?_, by simp, fun b hb => by simp at hb⟩
          cases own with
          | true => exact ⟨[], [], ⟨h0, 0, [], none, 0, rfl, World.ownsRow_nil w' _ _ _, rfl, rfl⟩, rfl, rfl⟩
          | false => exact ⟨[], [], ⟨hrep w' _ ⟨none, rfl⟩, rfl⟩, rfl, rfl⟩
        | some a =>
          refine (hs a c w).mono fun e' w' ⟨e1, e2⟩ => ?_
          subst e2
          obtain ⟨k1, k2, k3, k4⟩ := EI w (.cells #[] e)
          cases own with
          | true =>
            refine ⟨Fz, [.slice (some ⟨w.heap.size, 0, none⟩) 0 0], [], [w.heap.size], e1, fun _ h => h, fun b hb => ⟨Nat.lt_of_lt_of_le (hfz b hb) k1, .inl hb⟩, k1, fun b hb _ => k2 b hb, ⟨rfl, rfl⟩, hbk _, ?_, by simp, fun b hb => ?_⟩
            · refine ⟨[w.heap.size], [], ⟨h0, e, [], _, 0, rfl, ⟨by simp, .inr ⟨w.heap.size, 0, #[], rfl, Nat.zero_le _, k3, Nat.le_refl _, by simp [maxLen], by simp, by simp⟩⟩, rfl, rfl⟩, rfl, rfl⟩
            · simp at hb
              subst hb
              exact ⟨fun hf => by have := hfz _ hf; omega, by omega, .inr (Nat.le_refl _)⟩
          | false =>
            exact ⟨Fz, [.slice (some ⟨w.heap.size, 0, none⟩) 0 0], [], [], e1, fun _ h => h, fun b hb => ⟨Nat.lt_of_lt_of_le (hfz b hb) k1, .inl hb⟩, k1, fun b hb _ => k2 b hb, ⟨rfl, rfl⟩, hbk _, ⟨[], [], ⟨hrep _ _ ⟨_, rfl⟩, rfl⟩, rfl, rfl⟩, by simp, fun b hb => by simp at hb⟩
    · cases hg
  · cases hg
theorem Np : Sat Try.prog 88 (Nn 1 false) := F5 (by decide) Ni Nk Kq Kr
theorem Nq : Sat Try.prog 70 (Nn 3 true) := F5 (by decide) Nj Nl Kt Ku
end Go.Proofs.Ytdkkgecdhapfhaa.Ka
set_option maxRecDepth 100000
namespace Go.Proofs.Ytdkkgecdhapfhaa.Ka
open Go Go.Proofs Ev
theorem e3 : mO Try.prog 3 c3 := ⟨Try.f3, _, ⟨[3, 32], [], [], [33, 89]⟩, [⟨[0, 1], [], []⟩, ⟨[0, 1, 24], [], []⟩, ⟨[4], [], []⟩, ⟨[0, 1, 5], [], []⟩, ⟨[1, 5, 6], [], []⟩, ⟨[1, 5, 6, 35], [], []⟩, ⟨[4], [], []⟩, ⟨[1, 5, 6, 7], [], []⟩, ⟨[1, 5, 6, 7], [40202, 140000, 560200, 560204, 560206, 600400, 1180400, 1640400, 1642800, 2920400], []⟩, ⟨[1, 5, 6, 7, 39], [], []⟩, ⟨[1, 5, 6, 7, 8], [], []⟩, ⟨[1, 5, 6, 7, 8, 47], [], []⟩, ⟨[1, 5, 6, 7, 8, 47, 48], [], []⟩, ⟨[1, 5, 6, 7, 8, 9, 10], [], []⟩, ⟨[1, 5, 6, 7, 8, 10], [], []⟩, ⟨[1, 5, 6, 7, 71], [], []⟩, ⟨[4], [], []⟩, ⟨[1, 5, 6, 7, 8, 47, 72], [], []⟩, ⟨[1, 5, 6, 7, 8, 11, 12, 13], [], []⟩, ⟨[1, 5, 6, 7, 8, 12, 13], [], []⟩, ⟨[1, 5, 6, 7, 12, 13, 14, 15], [], []⟩, ⟨[1, 5, 6, 7, 105], [], []⟩, ⟨[4], [], []⟩, ⟨[1, 5, 6, 7, 8, 47, 106], [], []⟩, ⟨[1, 5, 6, 7, 8, 16, 17], [], []⟩, ⟨[1, 5, 6, 7, 16, 17, 18, 19], [], []⟩, ⟨[1, 5, 6, 7, 137], [], []⟩, ⟨[4], [], []⟩, ⟨[1, 5, 6, 7, 8, 138], [], []⟩, ⟨[1, 5, 6, 7, 8, 20, 21], [], []⟩, ⟨[1, 5, 6, 7, 8, 21], [], []⟩, ⟨[1, 5, 6, 7, 155], [], []⟩, ⟨[4], [], []⟩, ⟨[1, 5, 6, 7, 168], [40202, 140000, 560200, 560204, 560206, 600400, 1180400, 1640400, 1642800, 2920400], []⟩, ⟨[4], [], []⟩, ⟨[1, 5, 6, 7], [], []⟩, ⟨[4], [], []⟩], [], by kernel_rfl, by kernel_rfl, rfl, eqs, by kernel_rfl, by kernel_rfl, by decide⟩
theorem e4 : mO Try.prog 4 c4 := ⟨Try.f4, _, ⟨[3, 32], [], [], [33, 89]⟩, [⟨[0, 1], [], []⟩, ⟨[0, 1, 23], [], []⟩, ⟨[4], [], []⟩, ⟨[0, 1, 5], [], []⟩, ⟨[0, 1, 5, 28], [], []⟩, ⟨[4], [], []⟩, ⟨[0, 1, 5, 6], [], []⟩, ⟨[0, 1, 5, 6, 7], [], []⟩, ⟨[0, 1, 5, 6, 7], [40202, 140000, 540200, 540204, 540206], [(6, 5)]⟩, ⟨[0, 1, 5, 6, 7, 32], [], []⟩, ⟨[0, 1, 5, 6, 7, 8], [], []⟩, ⟨[0, 1, 5, 6, 7, 8, 41], [], []⟩, ⟨[0, 1, 5, 6, 7, 8, 9, 10], [], []⟩, ⟨[0, 1, 5, 6, 7, 79], [40202, 140000, 540200, 540204, 540206, 1000800], []⟩, ⟨[4], [], []⟩, ⟨[0, 1, 5, 6, 7, 8, 88], [], []⟩, ⟨[0, 1, 5, 6, 7, 8], [], []⟩, ⟨[0, 1, 5, 6, 7, 8, 11, 12], [], []⟩, ⟨[0, 1, 5, 6, 7, 120], [], []⟩, ⟨[4], [], []⟩, ⟨[0, 1, 5, 6, 7, 131], [], []⟩, ⟨[4], [], []⟩, ⟨[0, 1, 5, 6, 7], [], []⟩, ⟨[4], [], []⟩], [], by kernel_rfl, by kernel_rfl, rfl, eqs, by kernel_rfl, by kernel_rfl, by decide⟩
theorem e5 : mO Try.prog 5 c5 := ⟨Try.f5, _, ⟨[3, 32], [], [], [33, 89]⟩, [⟨[2, 3], [], []⟩, ⟨[2, 3, 20], [], []⟩, ⟨[4], [], []⟩, ⟨[2, 3, 5], [], []⟩, ⟨[2, 3, 5, 24], [], []⟩, ⟨[4], [], []⟩, ⟨[2, 3, 5, 33], [], []⟩, ⟨[4], [], []⟩, ⟨[2, 3, 5], [], []⟩, ⟨[2, 3, 5, 6, 7], [], []⟩, ⟨[2, 3, 5, 6, 7, 8], [], []⟩, ⟨[2, 3, 5, 6, 7, 8, 9, 10], [], []⟩, ⟨[2, 3, 5, 6, 7, 8, 9, 10, 80], [], []⟩, ⟨[4], [], []⟩, ⟨[5, 6, 7, 9, 10, 120], [], []⟩, ⟨[4], [], []⟩, ⟨[4], [], []⟩], [], by kernel_rfl, by kernel_rfl, rfl, eqs, by kernel_rfl, by kernel_rfl, by decide⟩
theorem e6 : mO Try.prog 6 c6 := ⟨Try.f6, _, ⟨[3, 32], [], [], [33, 89]⟩, [⟨[1], [], []⟩, ⟨[1, 11], [], []⟩, ⟨[2], [], []⟩, ⟨[1, 3], [], []⟩, ⟨[1, 3, 4, 5], [], []⟩, ⟨[1, 3, 4, 5, 6, 7], [], []⟩, ⟨[2], [], []⟩], [], by kernel_rfl, by kernel_rfl, rfl, eqs, by kernel_rfl, by kernel_rfl, by decide⟩
theorem e7 : mO Try.prog 7 c7 := ⟨Try.f7, _, ⟨[3, 32], [], [], [33, 89]⟩, [⟨[0, 1, 2], [], []⟩, ⟨[0, 1, 2, 33], [], []⟩, ⟨[6], [], []⟩, ⟨[0, 1, 2, 7], [], []⟩, ⟨[0, 1, 2, 7, 37], [], []⟩, ⟨[6], [], []⟩, ⟨[0, 1, 2, 7, 8], [], []⟩, ⟨[0, 1, 2, 7, 8], [20202, 720200, 720204, 720206], []⟩, ⟨[0, 1, 2, 7, 8, 41], [], []⟩, ⟨[0, 1, 2, 7, 8], [], []⟩, ⟨[0, 1, 2, 7, 8], [], []⟩, ⟨[1, 2, 7, 9], [], []⟩, ⟨[1, 2, 7, 9, 10], [], []⟩, ⟨[1, 2, 7, 9, 10], [720200, 720204, 720206, 1260200], []⟩, ⟨[1, 2, 7, 9, 10, 66], [], []⟩, ⟨[1, 2, 7, 9, 10, 11, 12], [], []⟩, ⟨[1, 2, 7, 9, 10, 11, 12, 13, 14], [], []⟩, ⟨[1, 2, 7, 9, 10, 111], [], []⟩, ⟨[6], [], []⟩, ⟨[1, 2, 7, 9, 10], [], []⟩, ⟨[6], [], []⟩], [], by kernel_rfl, by kernel_rfl, rfl, eqs, by kernel_rfl, by kernel_rfl, by decide⟩
theorem e8 : mO Try.prog 8 c8 := ⟨Try.f8, _, ⟨[3, 32], [], [], [33, 89]⟩, [⟨[0, 1], [], []⟩, ⟨[0, 1, 28], [], []⟩, ⟨[4], [], []⟩, ⟨[0, 1, 5], [], []⟩, ⟨[0, 1, 5, 33], [], []⟩, ⟨[4], [], []⟩, ⟨[0, 1, 5, 6], [], []⟩, ⟨[0, 1, 5, 6], [640200, 640204, 640206], []⟩, ⟨[0, 1, 5, 6, 36], [], []⟩, ⟨[0, 1, 5, 6, 43], [], []⟩, ⟨[4], [], []⟩, ⟨[0, 1, 5, 6], [], []⟩, ⟨[0, 1, 5, 8], [], []⟩, ⟨[0, 1, 5, 8, 9], [], []⟩, ⟨[0, 1, 5, 8, 9], [640200, 640204, 640206, 1000800], []⟩, ⟨[0, 1, 5, 8, 9, 55], [], []⟩, ⟨[0, 1, 5, 8, 9, 68], [], []⟩, ⟨[4], [], []⟩, ⟨[0, 1, 5, 8, 9, 11], [], []⟩, ⟨[0, 1, 5, 8, 9, 85], [], []⟩, ⟨[4], [], []⟩, ⟨[0, 1, 5, 8, 9], [], []⟩, ⟨[1, 5], [], []⟩, ⟨[13], [], []⟩, ⟨[4], [], []⟩], [], by kernel_rfl, by kernel_rfl, rfl, eqs, by kernel_rfl, by kernel_rfl, by decide⟩
theorem e14 : mO Try.prog 14 c14 := ⟨Try.f14, _, ⟨[3, 32], [], [], [33, 89]⟩, [⟨[0, 1], [], []⟩, ⟨[0, 1, 5], [], []⟩, ⟨[0, 1, 5], [20202], []⟩, ⟨[0, 1, 5, 9], [], []⟩, ⟨[0, 1, 5, 18], [], []⟩, ⟨[4], [], []⟩, ⟨[0, 1, 5], [], []⟩, ⟨[4], [], []⟩], [], by kernel_rfl, by kernel_rfl, rfl, eqs, by kernel_rfl, by kernel_rfl, by decide⟩
theorem e15 : mO Try.prog 15 c15 := ⟨Try.f15, _, ⟨[3, 32], [], [], [33, 89]⟩, [⟨[], [], []⟩, ⟨[1], [], []⟩, ⟨[1, 27], [], []⟩, ⟨[0], [], []⟩, ⟨[1, 2], [], []⟩, ⟨[1, 2, 3], [], []⟩, ⟨[1, 2, 3], [], []⟩, ⟨[1, 2, 3, 4], [], []⟩, ⟨[1, 2, 3, 4], [], []⟩, ⟨[1, 2, 3, 4, 5], [], []⟩, ⟨[1, 2, 3, 4, 5, 6], [], []⟩, ⟨[1, 2, 3, 4, 5, 6, 7], [], []⟩, ⟨[1, 2, 3, 4, 5, 6, 7, 8, 9], [], []⟩, ⟨[1, 2, 3, 5, 6, 7, 8, 9, 10], [], []⟩, ⟨[1, 2, 5, 6, 7, 8, 9, 10, 12], [], []⟩, ⟨[1, 2, 5, 6, 7, 8, 9, 10, 12, 14], [], []⟩, ⟨[1, 2, 5, 6, 7, 8, 9, 10, 12, 14, 15], [], []⟩, ⟨[1, 2, 5, 6, 7, 8, 9, 10, 12, 14, 15], [], []⟩, ⟨[1, 2, 5, 6, 7, 8, 9, 10, 12, 14, 16], [], []⟩, ⟨[0], [], []⟩], [], by kernel_rfl, by kernel_rfl, rfl, eqs, by kernel_rfl, by kernel_rfl, by decide⟩
theorem e16 : mO Try.prog 16 c16 := ⟨Try.f16, _, ⟨[3, 32], [], [], [33, 89]⟩, [⟨[0], [], []⟩, ⟨[0, 8], [], []⟩, ⟨[2], [], []⟩, ⟨[2], [], []⟩], [], by kernel_rfl, by kernel_rfl, rfl, eqs, by kernel_rfl, by kernel_rfl, by decide⟩
theorem e17 : mO Try.prog 17 c17 := ⟨Try.f17, _, ⟨[3, 32], [], [], [33, 89]⟩, [⟨[0, 2], [], []⟩, ⟨[0, 2, 8], [], []⟩, ⟨[2], [], []⟩, ⟨[2], [], []⟩], [], by kernel_rfl, by kernel_rfl, rfl, eqs, by kernel_rfl, by kernel_rfl, by decide⟩
theorem e20 : mO Try.prog 20 c20 := ⟨Try.f20, _, ⟨[3, 32], [], [], [33, 89]⟩, [⟨[1, 3, 5, 6, 7], [], []⟩, ⟨[3, 5, 6, 7, 9, 10], [], []⟩, ⟨[3, 5, 6, 7, 9, 10, 19], [], []⟩, ⟨[3, 6, 7, 9, 10, 11], [], []⟩, ⟨[3, 6, 7, 9, 10, 11], [], []⟩, ⟨[3, 6, 7, 9, 10], [], []⟩, ⟨[6, 7, 8], [], []⟩], [], by kernel_rfl, by kernel_rfl, rfl, eqs, by kernel_rfl, by kernel_rfl, by decide⟩
theorem e21 : mO Try.prog 21 c21 := ⟨Try.f21, _, ⟨[3, 32], [], [], [33, 89]⟩, [⟨[0, 1, 5, 6], [], []⟩, ⟨[0, 5, 6, 8, 9], [], []⟩, ⟨[0, 5, 6, 8, 9, 17], [], []⟩, ⟨[6, 8, 9], [], []⟩, ⟨[6, 7], [], []⟩], [], by kernel_rfl, by kernel_rfl, rfl, eqs, by kernel_rfl, by kernel_rfl, by decide⟩
theorem e22 : mO Try.prog 22 D6 := ⟨Try.f22, _, ⟨[3, 32], [], [], [33, 89]⟩, [⟨[2, 3], [], []⟩, ⟨[4], [], []⟩], [], by kernel_rfl, by kernel_rfl, rfl, eqs, by kernel_rfl, by kernel_rfl, by decide⟩
theorem e25 : mO Try.prog 25 LP := ⟨Try.f25, _, ⟨[3, 32], [], [], [33, 89]⟩, [⟨[0, 1, 5, 6], [], []⟩, ⟨[0, 1, 5, 6, 11], [], []⟩, ⟨[6, 7], [], []⟩, ⟨[1, 6, 8, 9], [], []⟩, ⟨[6, 8, 30], [], []⟩, ⟨[6, 7], [], []⟩, ⟨[6, 7], [], []⟩], [], by kernel_rfl, by kernel_rfl, rfl, eqs, by kernel_rfl, by kernel_rfl, by decide⟩
theorem e27 : mO Try.prog 27 Xf := ⟨Try.f27, _, ⟨[3, 32], [], [], [33, 89]⟩, [⟨[0, 3], [], []⟩, ⟨[0, 3, 8], [], []⟩, ⟨[4], [], []⟩, ⟨[0, 3, 6], [], []⟩, ⟨[0, 3, 19], [], []⟩, ⟨[4], [], []⟩, ⟨[0, 3], [], []⟩, ⟨[0], [], []⟩, ⟨[], [], []⟩, ⟨[4], [], []⟩], [], by kernel_rfl, by kernel_rfl, rfl, eqs, by kernel_rfl, by kernel_rfl, by decide⟩
theorem e29 : mO Try.prog 29 Ht := ⟨Try.f29, _, ⟨[3, 32], [], [], [33, 89]⟩, [⟨[0], [], []⟩, ⟨[0, 4], [], []⟩, ⟨[2], [], []⟩, ⟨[2], [], []⟩], [], by kernel_rfl, by kernel_rfl, rfl, eqs, by kernel_rfl, by kernel_rfl, by decide⟩
theorem e31 : mO Try.prog 31 c31 := ⟨Try.f31, _, ⟨[3, 32], [], [], [33, 89]⟩, [⟨[0], [], []⟩, ⟨[0, 4], [], []⟩, ⟨[2], [], []⟩, ⟨[2], [], []⟩], [], by kernel_rfl, by kernel_rfl, rfl, eqs, by kernel_rfl, by kernel_rfl, by decide⟩
theorem e33 : mO Try.prog 33 MZ := ⟨Try.f33, _, ⟨[3, 32], [], [], [33, 89]⟩, [⟨[0, 3, 4], [], []⟩, ⟨[0, 3, 4, 5], [], []⟩, ⟨[0, 3, 4, 5, 6], [], []⟩, ⟨[0, 3, 4, 5, 6], [30201, 80000, 100000, 120000], []⟩, ⟨[0, 3, 4, 5, 6, 10], [], []⟩, ⟨[0, 3, 4, 5, 6, 19], [], []⟩, ⟨[0, 3, 4, 5, 6], [], []⟩, ⟨[0, 3, 4, 5, 6], [], []⟩, ⟨[4], [], []⟩], [], by kernel_rfl, by kernel_rfl, rfl, eqs, by kernel_rfl, by kernel_rfl, by decide⟩
theorem e34 : mO Try.prog 34 c34 := ⟨Try.f34, _, ⟨[3, 32], [], [], [33, 89]⟩, [⟨[0], [], []⟩, ⟨[0, 3], [], []⟩, ⟨[0, 3], [20202], []⟩, ⟨[0, 3, 8], [], []⟩, ⟨[0, 3, 4], [], []⟩, ⟨[0, 3, 4], [20202], []⟩, ⟨[0, 3, 4, 13], [], []⟩, ⟨[0, 3, 4, 24], [], []⟩, ⟨[2], [], []⟩, ⟨[0, 3, 4], [], []⟩, ⟨[0, 3], [], []⟩, ⟨[2], [], []⟩], [], by kernel_rfl, by kernel_rfl, rfl, eqs, by kernel_rfl, by kernel_rfl, by decide⟩
theorem e36 : mO Try.prog 36 c36 := ⟨Try.f36, _, ⟨[3, 32], [], [], [33, 89]⟩, [⟨[0, 2], [], []⟩, ⟨[2], [], []⟩], [], by kernel_rfl, by kernel_rfl, rfl, eqs, by kernel_rfl, by kernel_rfl, by decide⟩
theorem e62 : mO Try.prog 62 c62 := ⟨Try.f62, _, ⟨[3, 32], [], [], [33, 89]⟩, [⟨[0, 1], [], []⟩, ⟨[0, 1, 11], [], []⟩, ⟨[4], [], []⟩, ⟨[4], [], []⟩], [], by kernel_rfl, by kernel_rfl, rfl, eqs, by kernel_rfl, by kernel_rfl, by decide⟩
theorem e64 : mO Try.prog 64 c64 := ⟨Try.f64, _, ⟨[3, 32], [], [], [33, 89]⟩, [⟨[0, 1, 5], [], []⟩, ⟨[0, 1, 5, 31], [], []⟩, ⟨[6], [], []⟩, ⟨[0, 1, 5, 36], [], []⟩, ⟨[6], [], []⟩, ⟨[1, 5, 7, 8], [], []⟩, ⟨[60], [], []⟩, ⟨[6], [], []⟩, ⟨[6], [], []⟩], [], by kernel_rfl, by kernel_rfl, rfl, eqs, by kernel_rfl, by kernel_rfl, by decide⟩
theorem e65 : mO Try.prog 65 c65 := ⟨Try.f65, _, ⟨[3, 32], [], [], [33, 89]⟩, [⟨[1, 2], [], []⟩, ⟨[1, 2], [], []⟩, ⟨[2], [], []⟩], [], by kernel_rfl, by kernel_rfl, rfl, eqs, by kernel_rfl, by kernel_rfl, by decide⟩
theorem e66 : mO Try.prog 66 c66 := ⟨Try.f66, _, ⟨[3, 32], [], [], [33, 89]⟩, [⟨[0, 1], [], []⟩, ⟨[0, 6], [], []⟩, ⟨[4, 5], [], []⟩], [], by kernel_rfl, by kernel_rfl, rfl, eqs, by kernel_rfl, by kernel_rfl, by decide⟩
theorem e67 : mO Try.prog 67 c67 := ⟨Try.f67, _, ⟨[3, 32], [7], [], [33, 89]⟩, [⟨[0, 3], [], []⟩, ⟨[4], [], []⟩], [], by kernel_rfl, by kernel_rfl, rfl, eqs, by kernel_rfl, by kernel_rfl, by decide⟩
theorem e68 : mO Try.prog 68 c68 := ⟨Try.f68, _, ⟨[3, 32], [], [], [33, 89]⟩, [⟨[0, 1], [], []⟩, ⟨[4], [], []⟩], [], by kernel_rfl, by kernel_rfl, rfl, eqs, by kernel_rfl, by kernel_rfl, by decide⟩
theorem e69 : mO Try.prog 69 c69 := ⟨Try.f69, _, ⟨[3, 32], [], [], [33, 89]⟩, [⟨[0, 3], [], []⟩, ⟨[4], [], []⟩], [], by kernel_rfl, by kernel_rfl, rfl, eqs, by kernel_rfl, by kernel_rfl, by decide⟩
theorem e73 : mO Try.prog 73 c73 := ⟨Try.f73, _, ⟨[3, 32], [], [], [33, 89]⟩, [⟨[1], [], []⟩, ⟨[1, 3], [], []⟩, ⟨[1, 3, 37], [], []⟩, ⟨[2], [], []⟩, ⟨[1, 3, 39, 40, 41], [], []⟩, ⟨[1, 3, 39, 40, 41], [20802, 40000, 80000], []⟩, ⟨[1, 3, 39, 40, 41, 42], [], []⟩, ⟨[1, 3, 4, 5, 39, 40, 41], [], []⟩, ⟨[1, 3, 39, 40, 41, 66], [], []⟩, ⟨[2], [], []⟩, ⟨[1, 3, 39, 40, 41], [], []⟩, ⟨[2], [], []⟩], [], by kernel_rfl, by kernel_rfl, rfl, eqs, by kernel_rfl, by kernel_rfl, by decide⟩
theorem e86 : mO Try.prog 86 c86 := ⟨Try.f86, _, ⟨[3, 32], [], [], [33, 89]⟩, [⟨[0, 1], [], []⟩, ⟨[4], [], []⟩], [], by kernel_rfl, by kernel_rfl, rfl, eqs, by kernel_rfl, by kernel_rfl, by decide⟩
theorem e87 : mO Try.prog 87 c87 := ⟨Try.f87, _, ⟨[3, 32], [], [], [33, 89]⟩, [⟨[0, 1, 2], [], []⟩, ⟨[6], [], []⟩], [], by kernel_rfl, by kernel_rfl, rfl, eqs, by kernel_rfl, by kernel_rfl, by decide⟩
theorem e89 : mO Try.prog 89 c89 := ⟨Try.f89, _, ⟨[3, 32], [41], [38], [33, 89]⟩, [⟨[0, 1], [], []⟩, ⟨[0, 1, 5], [], []⟩, ⟨[0, 1, 5, 12], [], []⟩, ⟨[4], [], []⟩, ⟨[0, 1, 5, 6], [], []⟩, ⟨[0, 1, 5, 6], [20202], []⟩, ⟨[0, 1, 5, 6, 19], [], []⟩, ⟨[0, 1, 5, 6, 7], [], []⟩, ⟨[0, 1, 5, 6, 7, 29], [], []⟩, ⟨[0, 1, 5, 6], [], []⟩, ⟨[0, 1, 5, 6], [], []⟩, ⟨[0, 1, 5, 6], [], []⟩, ⟨[0, 5], [], []⟩, ⟨[4], [], []⟩], [], by kernel_rfl, by kernel_rfl, rfl, eqs, by kernel_rfl, by kernel_rfl, by decide⟩
theorem e90 : mO Try.prog 90 c90 := ⟨Try.f90, _, ⟨[3, 32], [], [], [33, 89]⟩, [⟨[1, 2], [], []⟩, ⟨[3], [], []⟩], [], by kernel_rfl, by kernel_rfl, rfl, eqs, by kernel_rfl, by kernel_rfl, by decide⟩
theorem e93 : mO Try.prog 93 c93 := ⟨Try.f93, _, ⟨[3, 32], [], [], [33, 89]⟩, [⟨[0, 1], [], []⟩, ⟨[4], [], []⟩], [], by kernel_rfl, by kernel_rfl, rfl, eqs, by kernel_rfl, by kernel_rfl, by decide⟩
theorem e96 : mO Try.prog 96 c96 := ⟨Try.f96, _, ⟨[3, 32], [], [], [33, 89]⟩, [⟨[0, 1], [], []⟩, ⟨[4], [], []⟩], [], by kernel_rfl, by kernel_rfl, rfl, eqs, by kernel_rfl, by kernel_rfl, by decide⟩
theorem ads : mO Try.prog 107 c107 := ⟨Try.f107, _, ⟨[3, 32], [], [], [33, 89]⟩, [⟨[0, 1], [], []⟩, ⟨[4], [], []⟩], [], by kernel_rfl, by kernel_rfl, rfl, eqs, by kernel_rfl, by kernel_rfl, by decide⟩
theorem e108 : mO Try.prog 108 M0 := ⟨Try.f108, _, ⟨[3, 32], [], [], [33, 89]⟩, [⟨[0, 1], [], []⟩, ⟨[0, 1, 7, 8], [], []⟩, ⟨[0, 1, 7, 8], [20202], []⟩, ⟨[0, 1, 7, 8, 9], [], []⟩, ⟨[0, 1, 5, 7, 8], [], []⟩, ⟨[0, 1, 5, 7, 8, 16], [], []⟩, ⟨[4], [], []⟩, ⟨[0, 1, 7, 8], [], []⟩, ⟨[4], [], []⟩], [], by kernel_rfl, by kernel_rfl, rfl, eqs, by kernel_rfl, by kernel_rfl, by decide⟩
theorem adt : mO Try.prog 114 M4 := ⟨Try.f114, _, ⟨[3, 32], [], [], [33, 89]⟩, [⟨[0, 1], [], []⟩, ⟨[0, 1, 7, 8], [], []⟩, ⟨[0, 1, 7, 8], [20202], []⟩, ⟨[0, 1, 7, 8, 9], [], []⟩, ⟨[0, 1, 5, 7, 8], [], []⟩, ⟨[0, 1, 5, 7, 8, 16], [], []⟩, ⟨[4], [], []⟩, ⟨[0, 1, 7, 8], [], []⟩, ⟨[4], [], []⟩], [], by kernel_rfl, by kernel_rfl, rfl, eqs, by kernel_rfl, by kernel_rfl, by decide⟩
theorem ents : ∀ p ∈ wR, mO Try.prog p.1 p.2 := List.forall_mem_cons.2 ⟨e3, List.forall_mem_cons.2 ⟨e4, List.forall_mem_cons.2 ⟨e5, List.forall_mem_cons.2 ⟨e6, List.forall_mem_cons.2 ⟨e7, List.forall_mem_cons.2 ⟨e8, List.forall_mem_cons.2 ⟨e14, List.forall_mem_cons.2 ⟨e15, List.forall_mem_cons.2 ⟨e16, List.forall_mem_cons.2 ⟨e17, List.forall_mem_cons.2 ⟨e20, List.forall_mem_cons.2 ⟨e21, List.forall_mem_cons.2 ⟨e22, List.forall_mem_cons.2 ⟨e25, List.forall_mem_cons.2 ⟨e27, List.forall_mem_cons.2 ⟨e29, List.forall_mem_cons.2 ⟨e31, List.forall_mem_cons.2 ⟨e33, List.forall_mem_cons.2 ⟨e34, List.forall_mem_cons.2 ⟨e36, List.forall_mem_cons.2 ⟨e62, List.forall_mem_cons.2 ⟨e64, List.forall_mem_cons.2 ⟨e65, List.forall_mem_cons.2 ⟨e66, List.forall_mem_cons.2 ⟨e67, List.forall_mem_cons.2 ⟨e68, List.forall_mem_cons.2 ⟨e69, List.forall_mem_cons.2 ⟨e73, List.forall_mem_cons.2 ⟨e86, List.forall_mem_cons.2 ⟨e87, List.forall_mem_cons.2 ⟨e89, List.forall_mem_cons.2 ⟨e90, List.forall_mem_cons.2 ⟨e93, List.forall_mem_cons.2 ⟨e96, List.forall_mem_cons.2 ⟨ads, List.forall_mem_cons.2 ⟨e108, List.forall_mem_cons.2 ⟨adt, fun _ h => nomatch h⟩⟩⟩⟩⟩⟩⟩⟩⟩⟩⟩⟩⟩⟩⟩⟩⟩⟩⟩⟩⟩⟩⟩⟩⟩⟩⟩⟩⟩⟩⟩⟩⟩⟩⟩⟩⟩
end Go.Proofs.Ytdkkgecdhapfhaa.Ka
set_option maxRecDepth 100000
namespace Go.Proofs.Ytdkkgecdhapfhaa.Ka
open Go Go.Proofs Ev
theorem Nr {ext : Env} (h1 : iN Try.prog ext) (h2 : eO Try.prog ext) (F n : Nat) : Sat Try.prog 19 (uR ext F n) := by
  obtain ⟨g1, g2⟩ := JY (wR := wR) (F := F) mixed ents h1 h2 n
  have hf : Try.prog.funcs[19]? = some Try.f19 := by kernel_rfl
  have hg : Try.prog.funcs[63]? = some Try.f63 := by kernel_rfl
  have hD := SS (X := ⟨[3, 32], [], [], [33, 89]⟩) (c1 := 8) (c2 := 4) (h1 := [⟨[0, 1, 3], [], []⟩, ⟨[0], [], []⟩]) (h2 := []) (cc := Xw.body) mixed eqs g1 g2 hg rfl (by kernel_rfl) rfl (by decide) F
  exact EG (X := ⟨[3, 32], [], [], [33, 89]⟩) (ha := [⟨[1, 3, 4, 6, 8], [], []⟩, ⟨[1, 4, 6, 8, 9], [], []⟩]) (hb' := [⟨[4, 6, 8, 9], [], []⟩, ⟨[4, 6, 8, 9, 27], [], []⟩, ⟨[4, 8], [], []⟩, ⟨[4, 6, 8], [], []⟩, ⟨[4, 8, 10, 11], [], []⟩, ⟨[4, 8, 10, 52, 53, 54], [], []⟩, ⟨[4, 8, 10, 52, 53, 54], [20201, 20205, 20208, 100000, 180000, 530002, 530004, 530006, 530008, 530010, 530012, 530014, 530016, 530202, 530204, 530206, 530208, 530210, 530212, 530214, 530216, 530402, 530404, 530406, 530408, 530410, 530412, 530414, 530416, 530602, 530604, 530606, 530608, 530610, 530612, 530614, 530616, 530802, 530804, 530806, 530808, 530810, 530812, 530814, 530816, 531002, 531004, 531006, 531008, 531010, 531012, 531014, 531016, 1000200, 1002200], []⟩, ⟨[4, 8, 10, 52, 53, 54, 55], [], []⟩, ⟨[4, 8, 10, 13, 52, 53, 54], [], []⟩, ⟨[4, 8, 10, 52, 53, 54], [], []⟩, ⟨[4, 8, 10, 52, 53, 54], [], []⟩, ⟨[4, 8], [], []⟩, ⟨[4, 8], [], []⟩]) (ra := []) (rb := []) (ca := pA) (cb := pB) (cf := Km) mixed eqs g1 g2 hf rfl hg (by kernel_rfl) (by kernel_rfl) (by kernel_rfl) (by kernel_rfl) (by kernel_rfl) (by decide) (by decide) (by decide) (by decide) hD F
end Go.Proofs.Ytdkkgecdhapfhaa.Ka
namespace Go.Proofs.YtdkkgecdhapfhaaW.bD
open Go.RowKit
structure aj (p : Prop) : Prop where mk :: (out : p)
structure aY (w w' : World) : Prop where mk :: (out : ∃ n, w' = w.drewN n)
theorem aY.refl (w : World) : aY w w := ⟨⟨0, rfl⟩⟩
theorem aY.step {w w' : World} (h : aY w w') (n : Nat) : aY w (w'.drewN n) := by
  obtain ⟨m, rfl⟩ := h
  exact ⟨⟨m + n, World.drewN_drewN ..⟩⟩
theorem aY.grown {w w' : World} (h : aY w w') : Grown w w' := by
  obtain ⟨n, rfl⟩ := h
  induction n with
  | zero => exact Grown.refl _
  | succ n ih => rw [← World.drew_drewN]; exact Grown.drew ih
theorem aY.below {w w' : World} (h : aY w w') : Below w.heap.size w w' := by
  obtain ⟨n, rfl⟩ := h
  induction n with
  | zero => exact Below.refl _ _
  | succ n ih => rw [← World.drew_drewN]; exact ih.drew
def rd (xs : List Int) (i : Int) : Int := xs.getD i.toNat 0
def bt (s : ByteArray) (i : Int) : Int := if h : i.toNat < s.size then ((s[i.toNat]'h).toNat : Int) else 0
theorem ny (s : ByteArray) (i : Int) : ∀ h : i.toNat < s.size, ((s[i.toNat]'h).toNat : Int) = bt s i := fun h => by simp [bt, h]
theorem gq (s : ByteArray) (i : Int) : 0 ≤ bt s i ∧ bt s i ≤ 255 := by
  unfold bt
  split
  · rename_i h
    have := (s[i.toNat]'h).toNat_lt
    omega
  · omega
theorem ak {w W : World} (h : Below w.heap.size w W) (o : Obj) : Below w.heap.size w (W.alloc o) := h.alloc h.size o
theorem jg {B : Nat} {w W : World} (h : Below B w W) : Below B w W.drew := ⟨h.os, h.tape, h.output, h.size, h.block⟩
theorem ah {B : Nat} {w W : World} (h : Below B w W) (n : Nat) : Below B w (W.drewN n) := ⟨h.os, h.tape, h.output, h.size, h.block⟩
theorem EJ {B : Nat} {w w1 w2 : World} (h : Below B w w1) (hB : B ≤ w1.heap.size) (k : Below w1.heap.size w1 w2) : Below B w w2 :=
  h.trans ⟨k.os, k.tape, k.output, k.size, fun i hi => k.block i (Nat.lt_of_lt_of_le hi hB)⟩
theorem xg {w w1 : World} (h : Below w.heap.size w w1) (row : Option Nat) : w.grownBy w1 row := ⟨h.os, h.tape, h.output, h.size, fun i hi _ => h.block i hi⟩
theorem mP {w w1 : World} (h : Below w.heap.size w w1) {a : Addr} {v : Value} (hc : w.cell? a = some v) : w1.cell? a = some v := (h.cell (World.block_lt_of_cell? w a hc)).trans hc
theorem add_plain (g j : Nat) : (⟨g, 0, none⟩ : Addr).add j = ⟨g, j, none⟩ := by unfold Addr.add; split <;> simp_all
def gD (w : World) (k : IntKind) (A : Option Addr) (n : Nat) (xs : List Int) : Prop :=
  xs.length = n ∧ n ≤ 9223372036854775807 ∧ (0 < n → ∃ ad, A = some ad ∧ ∀ j, j < n → w.cell? (ad.add j) = some (.int k (xs.getD j 0)))
theorem gD.at_ {w : World} {k : IntKind} {A : Option Addr} {n : Nat} {xs : List Int} (h : gD w k A n xs) (i : Int) (h0 : 0 ≤ i) (h1 : i < n) : ∃ ad, A = some ad ∧ w.cell? (ad.add i.toNat) = some (.int k (rd xs i)) := by
  obtain ⟨ad, e, hc⟩ := h.2.2 (by omega)
  exact ⟨ad, e, hc _ (by omega)⟩
theorem gD.below {w w1 : World} {k : IntKind} {A : Option Addr} {n : Nat} {xs : List Int} (h : gD w k A n xs) (hb : Below w.heap.size w w1) : gD w1 k A n xs :=
  ⟨h.1, h.2.1, fun hn => by
    obtain ⟨ad, e, hc⟩ := h.2.2 hn
    exact ⟨ad, e, fun j hj => mP hb (hc j hj)⟩⟩
theorem Ns (W : World) (base : Nat) (e : TypeId) (size : Nat) : W.ownsRow base e size (.slice none 0 0) 0 [] := ⟨by simp, .inl ⟨rfl, rfl⟩⟩
theorem sD {w : World} {base : Nat} {e : TypeId} {size n : Nat} {v : Value} {xs : List Value} (h : w.ownsRow base e size v n xs) (k : Nat) (hk : v.ownBlock = some k) : base ≤ k := by
  rcases h.2 with ⟨rfl, _⟩ | ⟨g, cap, cur, rfl, hb, _⟩
  · simp [Value.ownBlock] at hk
  · have : g = k := by simpa [Value.ownBlock] using hk
    omega
theorem Ta {w : World} {base : Nat} {e : TypeId} {size n : Nat} {v : Value} {xs : List Value} (h : w.ownsRow base e size v n xs) (k : Nat) (hk : v.ownBlock = some k) : k < w.heap.size := by
  rcases h.2 with ⟨rfl, _⟩ | ⟨g, cap, cur, rfl, hb, hh, _⟩
  · simp [Value.ownBlock] at hk
  · have : g = k := by simpa [Value.ownBlock] using hk
    subst this
    exact (Array.getElem?_eq_some_iff.1 hh).1
theorem sF {w w1 : World} {base : Nat} {e : TypeId} {size n : Nat} {v : Value} {xs : List Value} (h : w.ownsRow base e size v n xs) (hb : Below w.heap.size w w1) : w1.ownsRow base e size v n xs :=
  h.kept (xg hb none) (by cases v.ownBlock <;> simp)
theorem Hz {w w1 : World} {base : Nat} {e : TypeId} {size n : Nat} {v : Value} {xs : List Value} (h : w.ownsRow base e size v n xs) {row : Option Nat} (hg : w.grownBy w1 row) (hne : v.ownBlock = none ∨ v.ownBlock ≠ row) : w1.ownsRow base e size v n xs := h.kept hg hne
section
variable {P : Program} {ops : Array Oper} {rest : List Oper} {o : Oper} {a : Act} {Q : Exit → Act → World → Prop}
end
section
variable {P : Program}
end
section
variable {P : Program} {ops : Array Oper} {rest : List Oper} {o : Oper} {a : Act} {Q : Exit → Act → World → Prop}
end
def bytesOf (s : ByteArray) : List Int := s.data.toList.map fun b => (b.toNat : Int)
theorem gD.Df {w : World} {k : IntKind} {A : Option Addr} {n : Nat} {xs : List Int} (h : gD w k A n xs) (i : Nat) (hi : i ≤ n) : gD w k A i (xs.take i) := by
  refine ⟨by rw [List.length_take, h.1]; omega, by have := h.2.1; omega, fun hp => ?_⟩
  obtain ⟨ad, e, hc⟩ := h.2.2 (by omega)
  refine ⟨ad, e, fun j hj => ?_⟩
  rw [hc j (by omega)]
  simp [List.getD_eq_getElem?_getD, hj]
def kN {α : Type} (a b : Option α) : Prop := ∀ r, a = some r → b = some r
theorem kN.refl {α : Type} (a : Option α) : kN a a := fun _ h => h
theorem kN.none {α : Type} (b : Option α) : kN Option.none b := fun _ h => by cases h
theorem kN.trans {α : Type} {a b c : Option α} (h : kN a b) (k : kN b c) : kN a c := fun r hr => k r (h r hr)
theorem kN.ite {α : Type} {c : Prop} [Decidable c] {a a' b b' : Option α} (h : kN a a') (k : kN b b') : kN (if c then a else b) (if c then a' else b') := by
  split
  · exact h
  · exact k
theorem kN.bind {α β : Type} {a a' : Option α} {f f' : α → Option β} (h : kN a a') (k : ∀ x, kN (f x) (f' x)) : kN (a.bind f) (a'.bind f') := by
  intro r hr
  obtain ⟨x, hx, hf⟩ := Option.bind_eq_some_iff.1 hr
  exact Option.bind_eq_some_iff.2 ⟨x, h x hx, k x r hf⟩
theorem kN.map {α β : Type} {a a' : Option α} (f : α → β) (h : kN a a') : kN (a.map f) (a'.map f) := by
  intro r hr
  obtain ⟨x, hx, hf⟩ := Option.map_eq_some_iff.1 hr
  exact Option.map_eq_some_iff.2 ⟨x, h x hx, hf⟩
theorem uS {α : Type} {g : Nat → Option α} (h : ∀ k, kN (g k) (g (k + 1))) (k : Nat) : ∀ j, kN (g k) (g (k + j))
  | 0 => kN.refl _
  | j + 1 => (uS h k j).trans (h (k + j))
theorem uw {α : Type} {g : Nat → Option α} (h : ∀ k, kN (g k) (g (k + 1))) {k k' : Nat} (hk : k ≤ k') {r : α} (hr : g k = some r) : g k' = some r := by
  have := uS h k (k' - k) r hr
  rwa [Nat.add_sub_cancel' hk] at this
def fO {α : Type} (R : α → List Value → Prop) (size : Nat) (ps : List α) (cs : List Value) : Prop :=
  cs.length = ps.length * size ∧ ∀ j p, ps[j]? = some p → R p ((cs.drop (j * size)).take size)
theorem fO.none {α : Type} (R : α → List Value → Prop) (size : Nat) : fO R size [] [] := ⟨by simp, fun j p h => by simp at h⟩
theorem fO.snoc {α : Type} {R : α → List Value → Prop} {size : Nat} {ps : List α} {cs c : List Value} {p : α} (h : fO R size ps cs) (hp : R p c) (hc : c.length = size) : fO R size (ps ++ [p]) (cs ++ c) := by
  refine ⟨by rw [List.length_append, h.1, hc, List.length_append, List.length_singleton, Nat.add_mul, Nat.one_mul], fun j q hq => ?_⟩
  rcases Nat.lt_or_ge j ps.length with hj | hj
  · rw [List.getElem?_append_left hj] at hq
    have h1 : j * size + size ≤ cs.length := by rw [h.1, ← Nat.succ_mul]; exact Nat.mul_le_mul_right _ hj
    have h2 := h.2 j q hq
    rw [List.drop_append_of_le_length (by omega), List.take_append_of_le_length (by rw [List.length_drop]; omega)]
    exact h2
  · have hj' : j = ps.length := by
      have := (List.getElem?_eq_some_iff.1 hq).1
      rw [List.length_append, List.length_singleton] at this
      omega
    subst hj'
    have hq' : p = q := by simpa using hq
    subst hq'
    rw [← h.1, List.drop_left, ← hc, List.take_length]
    exact hp
theorem fO.yI {α : Type} {R R' : α → List Value → Prop} {size : Nat} {ps : List α} {cs : List Value} (h : fO R size ps cs) (hR : ∀ p c, R p c → R' p c) : fO R' size ps cs := ⟨h.1, fun j p hj => hR _ _ (h.2 j p hj)⟩
def lV {α : Type} (R : α → List Value → Prop) (size : Nat) (w : World) (A : Option Addr) (n : Nat) (ps : List α) : Prop :=
  ps.length = n ∧ n ≤ 9223372036854775807 ∧ (0 < n → ∃ ad, A = some ad ∧ ∀ j p, ps[j]? = some p → ∃ c, c.length = size ∧ R p c ∧ ∀ i u, c[i]? = some u → w.cell? (ad.add (j * size + i)) = some u)
theorem lV.yI {α : Type} {R R' : α → List Value → Prop} {size : Nat} {w w1 : World} {A : Option Addr} {n : Nat} {ps : List α} (h : lV R size w A n ps) (hb : Below w.heap.size w w1) (hR : ∀ p c, R p c → R' p c) : lV R' size w1 A n ps :=
  ⟨h.1, h.2.1, fun hn => by
    obtain ⟨ad, e, hc⟩ := h.2.2 hn
    refine ⟨ad, e, fun j p hj => ?_⟩
    obtain ⟨c, hs, hr, hcell⟩ := hc j p hj
    exact ⟨c, hs, hR _ _ hr, fun i u hu => mP hb (hcell i u hu)⟩⟩
theorem yJ {α : Type} {R : α → List Value → Prop} {w : World} {base n size : Nat} {e : TypeId} {v : Value} {ps : List α} {cs : List Value} (h : w.ownsRow base e size v n cs) (hR : fO R size ps cs) (hn : ps.length = n) :
    ∃ A c, v = .slice A n c ∧ lV R size w A n ps := by
  rcases Nat.eq_zero_or_pos n with h0 | h0
  · rcases h.2 with ⟨rfl, rfl⟩ | ⟨g, cap, cur, rfl, _⟩
    · exact ⟨none, 0, rfl, hn, by omega, fun hp => absurd hp (by omega)⟩
    · exact ⟨_, cap, rfl, hn, by omega, fun hp => absurd hp (by omega)⟩
  · obtain ⟨g, cap, rfl, _, _⟩ := h.form h0
    have hm : n ≤ 9223372036854775807 := by
      rcases h.2 with ⟨_, h1⟩ | ⟨g', cap', cur, he, _, _, h1, h2, _⟩
      · omega
      · simp only [maxLen] at h2
        omega
    refine ⟨_, cap, rfl, hn, hm, fun _ => ⟨_, rfl, fun j p hj => ⟨(cs.drop (j * size)).take size, ?_, hR.2 j p hj, fun i u hu => ?_⟩⟩⟩
    · have hjl := (List.getElem?_eq_some_iff.1 hj).1
      have h1 : j * size + size ≤ cs.length := by rw [hR.1, ← Nat.succ_mul]; exact Nat.mul_le_mul_right _ hjl
      rw [List.length_take, List.length_drop]
      omega
    · refine h.cells (g := g) rfl _ u ?_
      rw [List.getElem?_take] at hu
      split at hu
      · rw [List.getElem?_drop] at hu
        exact hu
      · cases hu
section
variable {P : Program} {ops : Array Oper} {rest : List Oper} {o : Oper} {a : Act} {Q : Exit → Act → World → Prop}
theorem lW {w0 W : World} (base : Nat) (hgd : o.guard = none) (s x : Operand) (t e : TypeId) (z : Value) (size bytes : Nat)
    (ho : o.op = .call { callee := .builtin .append, args := #[s, x], argTypes := #[t, t] })
    (ht : P.underlying t = some (.slice e)) (hinfo : (P.info? e).map (fun i => (i.zero, i.size, i.bytes)) = some (some z, size, bytes)) (hz : z.cells.size = size) (hs0 : 0 < size) (hb0 : 0 < bytes)
    (v : Value) (n : Nat) (xs ys : List Value) (hs : a.eval s = v) (hx : a.eval x = .slice (some ⟨W.heap.size, 0, none⟩) 1 1) (hys : ys.length = size) (h1 : ∀ u ∈ ys, u.oneCell' = true)
    (HO : W.ownsRow base e size v n xs) (HB : Below base w0 W) (hbase : base ≤ W.heap.size) (hl : (n + 1) * bytes ≤ 140737488355328)
    (h : ∀ v1 w1, w1.ownsRow base e size v1 (n + 1) (xs ++ ys) → Below base w0 w1 → W.grownBy w1 v.ownBlock → (v1.ownBlock = v.ownBlock ∨ ∃ b, v1.ownBlock = some b ∧ W.heap.size ≤ b) → wpList P ops Q rest (a.put o.dst v1) w1) :
    wpList P ops Q (o :: rest) a (W.alloc (.cells ys.toArray e)) := by
  obtain ⟨i0, hi, hzz⟩ := Option.map_eq_some_iff.1 hinfo
  simp only [Prod.mk.injEq] at hzz
  obtain ⟨hz0, hz1, hz2⟩ := hzz
  have hlen : n + 1 ≤ 140737488355328 := Nat.le_trans (Nat.le_mul_of_pos_right _ hb0) hl
  refine wpList_append_own_at (W.alloc (.cells ys.toArray e)) hgd s x t ho base e i0 z size bytes ht hi hz0 hz1 hz2 hz hs0 v n xs hs (HO.alloc _) ⟨W.heap.size, 0, none⟩ 1 1 ys hx (by rw [hys]; simp)
    (by simpa using World.news_of_block (cs := ys.toArray) (t := e) (fr := (0, 0)) (heap_alloc_new W (.cells ys.toArray e))) h1 (by simp only [maxLen]; omega) hl (by simp; omega) ?_
  intro v1 w1 hown hg _ hat
  refine h v1 w1 hown ((HB.alloc hbase _).grown hg (by simp; omega) (sD HO)) (World.grownBy.trans (World.grownBy_alloc W _ _) hg) ?_
  rcases hat with hat | hat
  · exact .inl hat
  · exact .inr ⟨_, hat, by simp⟩
end
theorem own_ne {w : World} {base : Nat} {e t : TypeId} {size n g : Nat} {v : Value} {xs : List Value} {cs : Array Value} (h : w.ownsRow base e size v n xs) (hg : w.heap[g]? = some (.cells cs t (0, 0))) (hne : e ≠ t) : some g ≠ v.ownBlock := by
  rcases h.2 with ⟨rfl, _⟩ | ⟨g', cap, cur, rfl, _, hh, _⟩
  · simp [Value.ownBlock]
  · intro he
    have : g = g' := by simpa [Value.ownBlock] using he
    subst this
    rw [hg] at hh
    injection hh with hh
    injection hh with _ ht
    exact hne ht.symm
theorem Nt {w : World} {g : Nat} {t : TypeId} {cs : Array Value} (h : w.heap[g]? = some (.cells cs t (0, 0))) (i : Nat) (u : Value) : (w.setCell ⟨g, i, none⟩ u).heap[g]? = some (.cells (cs.setIfInBounds i u) t (0, 0)) := by
  simp [World.setCell, Array.getElem?_modify, h]
theorem nM {w : World} {g : Nat} {t : TypeId} {cs : Array Value} (h : w.heap[g]? = some (.cells cs t (0, 0))) {p : Addr} (hp : g ≠ p.block) (u : Value) : (w.setCell p u).heap[g]? = some (.cells cs t (0, 0)) := (Below.heap_setCell w p u g hp).trans h
theorem jE {w : World} {g : Nat} {o : Obj} (h : w.heap[g]? = some o) : g < w.heap.size := (Array.getElem?_eq_some_iff.1 h).1
theorem aM {w : World} {g : Nat} {t : TypeId} {cs : Array Value} (h : w.heap[g]? = some (.cells cs t (0, 0))) (i : Nat) : w.cell? ⟨g, i, none⟩ = cs[i]? := cell_of_row w g i cs t (0, 0) h
theorem ay {w : World} {g : Nat} {t : TypeId} {cs : Array Value} (h : w.heap[g]? = some (.cells cs t (0, 0))) (i : Nat) : w.frozen? ⟨g, i, none⟩ = false := by simp [World.frozen?, h]
theorem pJ {w w1 : World} {g : Nat} {o : Obj} {row : Option Nat} (h : w.heap[g]? = some o) (hg : w.grownBy w1 row) (hne : some g ≠ row) : w1.heap[g]? = some o := (hg.block g (jE h) hne).trans h
theorem Tc {w : World} {g g' : Nat} {t t' : TypeId} {cs cs' : Array Value} (h : w.heap[g]? = some (.cells cs t (0, 0))) (h' : w.heap[g']? = some (.cells cs' t' (0, 0))) (hne : t ≠ t') : g ≠ g' := by
  rintro rfl
  rw [h] at h'
  injection h' with h'
  injection h' with _ ht
  exact hne ht
def gU (w w' : World) (g : Nat) (row : Option Nat) : Prop := w.heap.size ≤ w'.heap.size ∧ ∀ i, i < w.heap.size → i ≠ g → some i ≠ row → w'.heap[i]? = w.heap[i]?
theorem gU.refl (w : World) (g : Nat) (row : Option Nat) : gU w w g row := ⟨Nat.le_refl _, fun _ _ _ _ => rfl⟩
theorem gU.of_below {w w1 : World} (h : Below w.heap.size w w1) (g : Nat) (row : Option Nat) : gU w w1 g row := ⟨h.size, fun i hi _ _ => h.block i hi⟩
theorem gU.trans {w w1 w2 : World} {g : Nat} {row iY : Option Nat} (h : gU w w1 g row) (k : gU w1 w2 g iY) (hr : iY = row ∨ ∃ b, iY = some b ∧ w.heap.size ≤ b) : gU w w2 g row :=
  ⟨Nat.le_trans h.1 k.1, fun i hi hg hn => by
    refine (k.2 i (Nat.lt_of_lt_of_le hi h.1) hg ?_).trans (h.2 i hi hg hn)
    rcases hr with rfl | ⟨b, rfl, hb⟩
    · exact hn
    · intro e
      injection e with e
      omega⟩
theorem gU.blk {w w1 : World} {g g' : Nat} {row : Option Nat} {o : Obj} (h : gU w w1 g row) (hb : w.heap[g']? = some o) (hg : g' ≠ g) (hr : some g' ≠ row) : w1.heap[g']? = some o := (h.2 g' (jE hb) hg hr).trans hb
theorem gU.own {w w1 : World} {g : Nat} {row : Option Nat} {base : Nat} {e : TypeId} {size n : Nat} {v : Value} {xs : List Value} (h : gU w w1 g row) (ho : w.ownsRow base e size v n xs) (hg : v.ownBlock ≠ some g) (hr : v.ownBlock = none ∨ v.ownBlock ≠ row) : w1.ownsRow base e size v n xs := by
  obtain ⟨h1, h2⟩ := ho
  refine ⟨h1, ?_⟩
  rcases h2 with h2 | ⟨b, cap, cur, rfl, hb, hh, r⟩
  · exact .inl h2
  · refine .inr ⟨b, cap, cur, rfl, hb, h.blk hh ?_ ?_, r⟩
    · intro e
      exact hg (by rw [← e]; rfl)
    · rcases hr with hr | hr
      · simp [Value.ownBlock] at hr
      · exact hr
def Ev {α : Type} (g : Nat → Option α) (r : α) : Prop := ∃ K, ∀ k, K ≤ k → g k = some r
theorem Ev.of {α : Type} {g : Nat → Option α} {r : α} (hg : ∀ k, kN (g k) (g (k + 1))) {k : Nat} (h : g k = some r) : Ev g r := ⟨k, fun _ hk => uw hg hk h⟩
theorem Ev.now {α : Type} (r : α) : Ev (fun _ => some r) r := ⟨0, fun _ _ => rfl⟩
theorem Ev.rounds {α : Type} {g : Nat → Option α} {r : α} (h : Ev g r) : ∃ k, g k = some r := by
  obtain ⟨K, h⟩ := h
  exact ⟨K, h K (Nat.le_refl _)⟩
theorem Ev.bind {α β : Type} {g : Nat → Option α} {f : Nat → α → Option β} {a : α} {r : β} (h : Ev g a) (k : Ev (fun n => f n a) r) : Ev (fun n => (g n).bind (f n)) r := by
  obtain ⟨K, h⟩ := h
  obtain ⟨K', k⟩ := k
  refine ⟨max K K', fun n hn => ?_⟩
  have h1 := h n (by omega)
  have h2 := k n (by omega)
  simp only [h1, Option.bind_some]
  exact h2
theorem Ev.step {α : Type} {g f : Nat → Option α} {r : α} (h : ∀ k, g (k + 1) = f k) (k : Ev f r) : Ev g r := by
  obtain ⟨K, k⟩ := k
  refine ⟨K + 1, fun n hn => ?_⟩
  obtain ⟨m, rfl⟩ : ∃ m, n = m + 1 := ⟨n - 1, by omega⟩
  rw [h]
  exact k m (by omega)
theorem Ev.congr {α : Type} {g f : Nat → Option α} {r : α} (h : ∀ k, g k = f k) (k : Ev f r) : Ev g r := by
  obtain ⟨K, k⟩ := k
  exact ⟨K, fun n hn => (h n).trans (k n hn)⟩
section
variable {P : Program} {ops : Array Oper} {o : Oper} {a : Act} {Q : Exit → Act → World → Prop} {K : Act → World → Prop}
theorem sG {w0 W : World} (base : Nat) (hw : Region.wanted o (yielded ops a.tmps) = true) (s x : Operand) (t e : TypeId) (z : Value) (size bytes : Nat)
    (ho : o.op = .call { callee := .builtin .append, args := #[s, x], argTypes := #[t, t] })
    (ht : P.underlying t = some (.slice e)) (hinfo : (P.info? e).map (fun i => (i.zero, i.size, i.bytes)) = some (some z, size, bytes)) (hz : z.cells.size = size) (hs0 : 0 < size) (hb0 : 0 < bytes)
    (v : Value) (n : Nat) (xs ys : List Value) (hs : a.eval s = v) (hx : a.eval x = .slice (some ⟨W.heap.size, 0, none⟩) 1 1) (hys : ys.length = size) (h1 : ∀ u ∈ ys, u.oneCell' = true)
    (HO : W.ownsRow base e size v n xs) (HB : Below base w0 W) (hbase : base ≤ W.heap.size) (hl : (n + 1) * bytes ≤ 140737488355328)
    (h : ∀ v1 w1, w1.ownsRow base e size v1 (n + 1) (xs ++ ys) → Below base w0 w1 → W.grownBy w1 v.ownBlock → (v1.ownBlock = v.ownBlock ∨ ∃ b, v1.ownBlock = some b ∧ W.heap.size ≤ b) → K (a.put o.dst v1) w1) :
    if Region.wanted o (yielded ops a.tmps) = true then Oper.wp P o a (W.alloc (.cells ys.toArray e)) K Q else K (a.put o.dst undef) (W.alloc (.cells ys.toArray e)) := by
  obtain ⟨i0, hi, hzz⟩ := Option.map_eq_some_iff.1 hinfo
  simp only [Prod.mk.injEq] at hzz
  obtain ⟨hz0, hz1, hz2⟩ := hzz
  have hlen : n + 1 ≤ 140737488355328 := Nat.le_trans (Nat.le_mul_of_pos_right _ hb0) hl
  rw [if_pos hw]
  obtain ⟨v1, w1, hr, hown, hg, _, hat⟩ := run_append_own_at (P := P) (W.alloc (.cells ys.toArray e)) base t o.type e i0 z size bytes ht hi hz0 hz1 hz2 hz hs0 v n xs (HO.alloc _) ⟨W.heap.size, 0, none⟩ 1 1 ys (by rw [hys]; simp)
    (by simpa using World.news_of_block (cs := ys.toArray) (t := e) (fr := (0, 0)) (heap_alloc_new W (.cells ys.toArray e))) h1 (by simp only [maxLen]; omega) hl (by simp; omega)
  unfold Oper.wp execOp
  simp only [ho, resolve, invoke, builtin, Sem.run_bind, Sem.run_pure, Result.andThen_ok, List.map_toArray, List.map_cons, List.map_nil, hs, hx, hr]
  refine h v1 w1 hown ((HB.alloc hbase _).grown hg (by simp; omega) (sD HO)) (World.grownBy.trans (World.grownBy_alloc W _ _) hg) ?_
  rcases hat with hat | hat
  · exact .inl hat
  · exact .inr ⟨_, hat, by simp⟩
end
theorem EK {w : World} {base base' : Nat} {e : TypeId} {size n : Nat} {v : Value} {xs : List Value} (h : w.ownsRow base e size v n xs) (hb : base' ≤ base) : w.ownsRow base' e size v n xs := by
  obtain ⟨h1, h2⟩ := h
  refine ⟨h1, ?_⟩
  rcases h2 with h2 | ⟨g, cap, cur, rfl, hg, r⟩
  · exact .inl h2
  · exact .inr ⟨g, cap, cur, rfl, Nat.le_trans hb hg, r⟩
section
variable {α : Type} {enc : α → Value} {d : α}
def encs (enc : α → Value) (xs : List α) : List Value := xs.map enc
def oH (d : α) (xs : List α) (i : Int) : α := xs.getD i.toNat d
theorem uT (xs : List α) : (encs enc xs).length = xs.length := by simp [encs]
theorem Kv (xs : List α) (j : Nat) (h : j < xs.length) : (encs enc xs)[j]? = some (enc (xs.getD j d)) := by
  simp [encs, List.getElem?_eq_getElem h, List.getD_eq_getElem?_getD]
def fZ (enc : α → Value) (d : α) (w : World) (A : Option Addr) (n : Nat) (xs : List α) : Prop :=
  xs.length = n ∧ n ≤ 9223372036854775807 ∧ (0 < n → ∃ ad, A = some ad ∧ ∀ j, j < n → w.cell? (ad.add j) = some (enc (xs.getD j d)))
theorem fZ.at_ {w : World} {A : Option Addr} {n : Nat} {xs : List α} (h : fZ enc d w A n xs) (i : Int) (h0 : 0 ≤ i) (h1 : i < n) : ∃ ad, A = some ad ∧ w.cell? (ad.add i.toNat) = some (enc (oH d xs i)) := by
  obtain ⟨ad, e, hc⟩ := h.2.2 (by omega)
  exact ⟨ad, e, hc _ (by omega)⟩
theorem fZ.below {w w1 : World} {A : Option Addr} {n : Nat} {xs : List α} (h : fZ enc d w A n xs) (hb : Below w.heap.size w w1) : fZ enc d w1 A n xs :=
  ⟨h.1, h.2.1, fun hn => by
    obtain ⟨ad, e, hc⟩ := h.2.2 hn
    exact ⟨ad, e, fun j hj => mP hb (hc j hj)⟩⟩
theorem fZ.Df {w : World} {A : Option Addr} {n : Nat} {xs : List α} (h : fZ enc d w A n xs) (i : Nat) (hi : i ≤ n) : fZ enc d w A i (xs.take i) := by
  refine ⟨by rw [List.length_take, h.1]; omega, by have := h.2.1; omega, fun hp => ?_⟩
  obtain ⟨ad, e, hc⟩ := h.2.2 (by omega)
  refine ⟨ad, e, fun j hj => ?_⟩
  rw [hc j (by omega)]
  simp [List.getD_eq_getElem?_getD, hj]
theorem HV {W : World} {base g n cap : Nat} {e : TypeId} {xs : List α} (h : W.ownsRow base e 1 (.slice (some ⟨g, 0, none⟩) n cap) n (encs enc xs)) (i : Int) (h0 : 0 ≤ i) (h1 : i < n) :
    W.cell? ⟨g, i.toNat, none⟩ = some (enc (oH d xs i)) ∧ W.frozen? ⟨g, i.toNat, none⟩ = false := by
  have hl : xs.length = n := by have := h.1; simp [encs] at this; exact this
  constructor
  · have hc := h.cells (g := g) rfl i.toNat _ (Kv (d := d) xs i.toNat (by omega))
    rwa [add_plain] at hc
  · rcases h.2 with ⟨h', _⟩ | ⟨g', cap', cur, h', _, hh, _⟩
    · cases h'
    · have : g = g' := by injection h' with h'; injection h' with h'; injection h' with h'
      subst this
      simp [World.frozen?, hh]
theorem AO {W : World} {base g n cap : Nat} {e : TypeId} {xs : List α} (h : W.ownsRow base e 1 (.slice (some ⟨g, 0, none⟩) n cap) n (encs enc xs)) (i : Int) (x : α) :
    (W.setCell ⟨g, i.toNat, none⟩ (enc x)).ownsRow base e 1 (.slice (some ⟨g, 0, none⟩) n cap) n (encs enc (xs.set i.toNat x)) ∧ W.grownBy (W.setCell ⟨g, i.toNat, none⟩ (enc x)) (some g) := by
  have hs := h.stored i.toNat (enc x)
  have he : (encs enc xs).set i.toNat (enc x) = encs enc (xs.set i.toNat x) := by simp [encs, List.map_set]
  rwa [he] at hs
end
section
variable {α : Type} {P : Program} {ops : Array Oper} {rest : List Oper} {o : Oper} {a : Act} {Q : Exit → Act → World → Prop}
end
theorem aA {w : World} {g : Nat} {o : Obj} (h : w.heap[g]? = some o) (o' : Obj) : (w.alloc o').heap[g]? = some o := (Below.heap_alloc w o' g (jE h)).trans h
theorem aI {w : World} {g : Nat} {o : Obj} (h : w.heap[g]? = some o) : w.drew.heap[g]? = some o := h
theorem aG {w : World} {g : Nat} {o : Obj} (h : w.heap[g]? = some o) (n : Nat) : (w.drewN n).heap[g]? = some o := h
theorem dM {w w1 : World} {g : Nat} {o : Obj} (h : w.heap[g]? = some o) (hb : Below w.heap.size w w1) : w1.heap[g]? = some o := (hb.block g (jE h)).trans h
theorem sH (w : World) (o : Obj) : (w.alloc o).heap[w.heap.size]? = some o := heap_alloc_new w o
section
variable {P : Program}
theorem jN {fn : Func} {p u : Tmp} {ty : TypeId} (h : fn.results = #[.cell p ty, .tmp u]) (tmps : Array Value) (w : World) (g : Nat) (t : TypeId) (cs : Array Value) (fr : Nat × Nat) (d : TypeDesc)
    (hp : tmps.getD p undef = .pointer (some ⟨g, 0, none⟩)) (hg : w.heap[g]? = some (.cells cs t fr))
    (hu : P.underlying ty = some d) (hd : (match d with | .struct _ | .array _ _ => true | _ => false) = true) (hi : (P.info? ty).map (·.size) = some cs.size) :
    (results fn tmps).run P w = .ok (.tuple #[.agg cs, tmps.getD u undef]) w := by
  have hp' : tmps[p]?.getD undef = .pointer (some ⟨g, 0, none⟩) := by simpa using hp
  simp [results, h, hp', asAddr, run_loadVar_row w g t ty cs fr d hg hu hd hi]
end
theorem Td {w : World} {base n m c size : Nat} {e : TypeId} {A : Option Addr} {xs : List Value} (h : w.ownsRow base e size (.slice A m c) n xs) : m ≤ c := by
  rcases h.2 with ⟨he, _⟩ | ⟨g, cap, cur, he, _, _, hnc, _⟩
  · injection he with _ h2 h3
    omega
  · injection he with _ h2 h3
    omega
def fT {α : Type} (R : α → List Value → Prop) (e : TypeId) (size : Nat) (w : World) (base : Nat) (v : Value) (ps : List α) : Prop :=
  ∃ inner, w.ownsRow base e size v ps.length inner ∧ fO R size ps inner
section
variable {α : Type} {R R' : α → List Value → Prop} {e : TypeId} {size : Nat} {w w1 : World} {base : Nat} {v : Value} {ps : List α}
theorem fT.none_ (R : α → List Value → Prop) (e : TypeId) (size : Nat) (w : World) (base : Nat) : fT R e size w base (.slice none 0 0) [] := ⟨[], Ns _ _ _ _, fO.none _ _⟩
theorem fT.yI (h : fT R e size w base v ps) (hR : ∀ p c, R p c → R' p c) : fT R' e size w base v ps := by
  obtain ⟨inner, ho, hr⟩ := h
  exact ⟨inner, ho, hr.yI hR⟩
theorem fT.below (h : fT R e size w base v ps) (hb : Below w.heap.size w w1) : fT R e size w1 base v ps := by
  obtain ⟨inner, ho, hr⟩ := h
  exact ⟨inner, sF ho hb, hr⟩
theorem fT.other (h : fT R e size w base v ps) {row : Option Nat} (hg : w.grownBy w1 row) (hne : v.ownBlock = none ∨ v.ownBlock ≠ row) : fT R e size w1 base v ps := by
  obtain ⟨inner, ho, hr⟩ := h
  exact ⟨inner, Hz ho hg hne, hr⟩
theorem fT.keep (h : fT R e size w base v ps) {g : Nat} {t : TypeId} {cells : Array Value} (hb : w.heap[g]? = some (.cells cells t (0, 0))) (ht : e ≠ t) (hk : gU w w1 g none) : fT R e size w1 base v ps := by
  obtain ⟨inner, ho, hr⟩ := h
  exact ⟨inner, hk.own ho (Ne.symm (own_ne ho hb ht)) (by cases v.ownBlock <;> simp), hr⟩
theorem fT.reads (h : fT R e size w base v ps) : ∃ A c, v = .slice A ps.length c ∧ ps.length ≤ c ∧ lV R size w A ps.length ps := by
  obtain ⟨inner, ho, hr⟩ := h
  obtain ⟨A, c, rfl, hrow⟩ := yJ ho hr rfl
  exact ⟨A, c, rfl, Td ho, hrow⟩
theorem fT.Kw (h : fT R e size w base v ps) {g : Nat} {t : TypeId} {cells : Array Value} (hb : w.heap[g]? = some (.cells cells t (0, 0))) (ht : e ≠ t) : some g ≠ v.ownBlock := by
  obtain ⟨inner, ho, hr⟩ := h
  exact own_ne ho hb ht
theorem fT.lit (W : World) (base : Nat) {inner : List Value} (hr : fO R size ps inner) (hb : base ≤ W.heap.size) (hm : ps.length ≤ 9223372036854775807) :
    fT R e size (W.alloc (.cells inner.toArray e)) base (.slice (some ⟨W.heap.size, 0, none⟩) ps.length ps.length) ps := by
  have h := World.ownsRow_lit (base := base) (e := e) (size := size) W inner.toArray ps.length hb (by simpa [maxLen] using hm) (by simpa using hr.1)
  exact ⟨inner, by simpa using h, hr⟩
end
section
variable {P : Program} {ops : Array Oper} {rest : List Oper} {o : Oper} {a : Act} {Q : Exit → Act → World → Prop} {α : Type} {R : α → List Value → Prop}
theorem fT.append {w0 W : World} (base : Nat) (hgd : o.guard = none) (s x : Operand) (t e : TypeId) (z : Value) (size bytes : Nat)
    (ho : o.op = .call { callee := .builtin .append, args := #[s, x], argTypes := #[t, t] })
    (ht : P.underlying t = some (.slice e)) (hinfo : (P.info? e).map (fun i => (i.zero, i.size, i.bytes)) = some (some z, size, bytes)) (hz : z.cells.size = size) (hs0 : 0 < size) (hb0 : 0 < bytes)
    (v : Value) (ps : List α) (p : α) (cs : List Value) (hs : a.eval s = v) (hx : a.eval x = .slice (some ⟨W.heap.size, 0, none⟩) 1 1) (hp : R p cs) (hcs : cs.length = size) (h1 : ∀ u ∈ cs, u.oneCell' = true)
    (HO : fT R e size W base v ps) (HB : Below base w0 W) (hbase : base ≤ W.heap.size) (hl : (ps.length + 1) * bytes ≤ 140737488355328)
    (h : ∀ v1 w1, fT R e size w1 base v1 (ps ++ [p]) → Below base w0 w1 → W.grownBy w1 v.ownBlock → (v1.ownBlock = v.ownBlock ∨ ∃ b, v1.ownBlock = some b ∧ W.heap.size ≤ b) → wpList P ops Q rest (a.put o.dst v1) w1) :
    wpList P ops Q (o :: rest) a (W.alloc (.cells cs.toArray e)) := by
  obtain ⟨inner, hown, hr⟩ := HO
  refine lW base hgd s x t e z size bytes ho ht hinfo hz hs0 hb0 v ps.length inner cs hs hx hcs h1 hown HB hbase hl ?_
  intro v1 w1 hown1 hb1 hg1 EL
  exact h v1 w1 ⟨inner ++ cs, by rw [List.length_append, List.length_singleton]; exact hown1, hr.snoc hp hcs⟩ hb1 hg1 EL
end
section
variable {P : Program} {ops : Array Oper} {o : Oper} {a : Act} {Q : Exit → Act → World → Prop} {K : Act → World → Prop} {α : Type} {R : α → List Value → Prop}
end
section
variable {α : Type} {P : Program}
theorem fZ.len_ {enc : α → Value} {d : α} {w : World} {A : Option Addr} {n : Nat} {xs : List α} (h : fZ enc d w A n xs) : fZ enc d w A xs.length xs := by rw [h.1]; exact h
end
section
variable {P : Program} {ops : Array Oper} {rest : List Oper} {o : Oper} {a : Act} {Q : Exit → Act → World → Prop}
end
structure Kd (α : Type) where
  sz : Nat
  E : List Nat
  K : World → α → List Value → Prop
  M : World → Nat → (Nat → Prop) → α → List Value → Prop
  nU : ∀ {w x cs}, K w x cs → cs.length = sz
  oI : ∀ {w x cs}, K w x cs → ∀ u ∈ cs, u.oneCell' = true
  lG : ∀ {w w1 : World} {x cs}, Below w.heap.size w w1 → K w x cs → K w1 x cs
  jh : ∀ {w base ok x cs}, M w base ok x cs → K w x cs
  jY : ∀ {w base ok ok' x cs}, (∀ k, ok k → ok' k) → M w base ok x cs → M w base ok' x cs
  jZ : ∀ {w : World} {base ok x cs}, M w base ok x cs → M w base (fun k => ok k ∧ base ≤ k ∧ k < w.heap.size ∧ ∃ q, q ∈ E ∧ ∃ cells, w.heap[k]? = some (.cells cells q (0, 0))) x cs
  lX : ∀ {w w1 : World} {base ok x cs}, (∀ k, ok k → w1.heap[k]? = w.heap[k]?) → M w base ok x cs → M w1 base ok x cs
  lH : ∀ {w base base' ok x cs}, base' ≤ base → M w base ok x cs → M w base' ok x cs
theorem Ky {w w1 : World} {base : Nat} {e : TypeId} {size n : Nat} {v : Value} {xs : List Value} (h : w.ownsRow base e size v n xs) (hm : ∀ k, v.ownBlock = some k → w1.heap[k]? = w.heap[k]?) : w1.ownsRow base e size v n xs := by
  obtain ⟨h1, h2⟩ := h
  refine ⟨h1, ?_⟩
  rcases h2 with h2 | ⟨g, cap, cur, rfl, hg, hh, r⟩
  · exact .inl h2
  · exact .inr ⟨g, cap, cur, rfl, hg, (hm g (by simp [Value.ownBlock])).trans hh, r⟩
theorem zq {w : World} {base : Nat} {e : TypeId} {size n : Nat} {v : Value} {xs : List Value} (h : w.ownsRow base e size v n xs) (k : Nat) (hk : v.ownBlock = some k) : ∃ cells, w.heap[k]? = some (.cells cells e (0, 0)) := by
  rcases h.2 with ⟨rfl, _⟩ | ⟨g, cap, cur, rfl, hg, hh, r⟩
  · simp [Value.ownBlock] at hk
  · have : g = k := by simpa [Value.ownBlock] using hk
    subst this
    exact ⟨cur, hh⟩
namespace Kd
def C {α : Type} (d : Kd α) (w : World) (A : Option Addr) (n : Nat) (xs : List α) : Prop := lV (d.K w) d.sz w A n xs
def R {α : Type} (d : Kd α) (e : Nat) (w : World) (base : Nat) (ok : Nat → Prop) (v : Value) (xs : List α) : Prop :=
  (∀ k, v.ownBlock = some k → ok k) ∧ fT (d.M w base (fun k => ok k ∧ some k ≠ v.ownBlock)) e d.sz w base v xs
section
variable {α : Type} {d : Kd α} {e : Nat} {w w1 : World} {base : Nat} {ok ok' : Nat → Prop} {v : Value} {xs : List α}
theorem Nu {A : Option Addr} {n : Nat} (h : d.C w A n xs) (hb : Below w.heap.size w w1) : d.C w1 A n xs := lV.yI h hb (fun _ _ hp => d.lG hb hp)
theorem jB (d : Kd α) (e : Nat) (w : World) (base : Nat) (ok : Nat → Prop) : d.R e w base ok (.slice none 0 0) [] := ⟨fun k hk => by simp [Value.ownBlock] at hk, fT.none_ _ _ _ _ _⟩
theorem oJ (h : d.R e w base ok v xs) (hok : ∀ k, ok k → ok' k) : d.R e w base ok' v xs := ⟨fun k hk => hok k (h.1 k hk), h.2.yI (fun _ _ hp => d.jY (fun k hk => ⟨hok k hk.1, hk.2⟩) hp)⟩
theorem AP (h : d.R e w base ok v xs) : d.R e w base (fun k => ok k ∧ base ≤ k ∧ k < w.heap.size ∧ ∃ q, q ∈ e :: d.E ∧ ∃ cells, w.heap[k]? = some (.cells cells q (0, 0))) v xs := by
  obtain ⟨h0, inner, ho, hr⟩ := h
  refine ⟨fun k hk => ?_, inner, ho, hr.yI (fun _ _ hp => d.jY (fun k hk => ?_) (d.jZ hp))⟩
  · obtain ⟨cells, hc⟩ := zq ho k hk
    exact ⟨h0 k hk, sD ho k hk, Ta ho k hk, e, List.mem_cons_self, cells, hc⟩
  · obtain ⟨⟨h1, h2⟩, h3, h4, q, hq, hc⟩ := hk
    exact ⟨⟨h1, h3, h4, q, List.mem_cons_of_mem _ hq, hc⟩, h2⟩
theorem Kz (h : d.R e w base ok v xs) (hm : ∀ k, ok k → w1.heap[k]? = w.heap[k]?) : d.R e w1 base ok v xs := by
  obtain ⟨h0, inner, ho, hr⟩ := h
  exact ⟨h0, inner, Ky ho (fun k hk => hm k (h0 k hk)), hr.yI (fun _ _ hp => d.lX (fun k hk => hm k hk.1) hp)⟩
theorem sI {base' : Nat} (h : d.R e w base ok v xs) (hb : base' ≤ base) : d.R e w base' ok v xs := by
  obtain ⟨h0, inner, ho, hr⟩ := h
  exact ⟨h0, inner, EK ho hb, hr.yI (fun _ _ hp => d.lH hb hp)⟩
theorem KA (h : d.R e w base ok v xs) (hm : ∀ k, ok k → k < w.heap.size → w1.heap[k]? = w.heap[k]?) : d.R e w1 base ok v xs :=
  oJ (Kz (AP h) (fun k hk => hm k hk.1 hk.2.2.1)) (fun _ hk => hk.1)
theorem Te {x : α} {cs : List Value} (h : d.M w base ok x cs) (hm : ∀ k, ok k → k < w.heap.size → w1.heap[k]? = w.heap[k]?) : d.M w1 base ok x cs :=
  d.jY (fun _ hk => hk.1) (d.lX (fun k hk => hm k hk.1 hk.2.2.1) (d.jZ h))
theorem j3 (h : d.R e w base ok v xs) (hb : Below w.heap.size w w1) : d.R e w1 base ok v xs := KA h (fun k _ hk => hb.block k hk)
theorem sJ (h : d.R e w base ok v xs) {p : Addr} (hok : ∀ k, ok k → k ≠ p.block) (u : Value) : d.R e (w.setCell p u) base ok v xs := KA h (fun k ho _ => Below.heap_setCell w p u k (hok k ho))
theorem sK (h : d.R e w base ok v xs) {g t : Nat} {cells : Array Value} (hb : w.heap[g]? = some (.cells cells t (0, 0))) (ht : ∀ q, q ∈ e :: d.E → q ≠ t) : d.R e w base (fun k => ok k ∧ k ≠ g) v xs :=
  oJ (AP h) (fun k hk => ⟨hk.1, by
    obtain ⟨_, _, _, q, hq, cells', hc⟩ := hk
    rintro rfl
    rw [hc] at hb
    injection hb with hb
    injection hb with _ hb
    exact ht q hq hb⟩)
theorem KC (h : d.R e w base ok v xs) {g t : Nat} {cells : Array Value} (hb : w.heap[g]? = some (.cells cells t (0, 0))) (ht : ∀ q, q ∈ e :: d.E → q ≠ t) (j : Nat) (u : Value) : d.R e (w.setCell ⟨g, j, none⟩ u) base ok v xs :=
  oJ (sJ (p := ⟨g, j, none⟩) (sK h hb ht) (fun _ hk => hk.2) u) (fun _ hk => hk.1)
theorem AQ (h : d.R e w base ok v xs) : ∃ A c, v = .slice A xs.length c ∧ xs.length ≤ c ∧ d.C w A xs.length xs := by
  obtain ⟨A, c, he, hl, hr⟩ := fT.reads h.2
  exact ⟨A, c, he, hl, hr.yI (Below.refl _ _) (fun _ _ hp => d.jh hp)⟩
theorem vP (h : d.R e w base ok v xs) : ∃ A c, v = .slice A xs.length c := by
  obtain ⟨A, c, he, _⟩ := AQ h
  exact ⟨A, c, he⟩
theorem Qp (h : d.R e w base ok v xs) : ∃ inner, w.ownsRow base e d.sz v xs.length inner := by
  obtain ⟨_, inner, ho, _⟩ := h
  exact ⟨inner, ho⟩
theorem Nv (h : d.R e w base ok v xs) {g t : Nat} {cells : Array Value} (hb : w.heap[g]? = some (.cells cells t (0, 0))) (ht : e ≠ t) : some g ≠ v.ownBlock := fT.Kw h.2 hb ht
end
def scalar {α : Type} (enc : α → Value) (h1 : ∀ x, (enc x).oneCell' = true) : Kd α where
  sz := 1
  E := []
  K := fun _ x cs => cs = [enc x]
  M := fun _ _ _ x cs => cs = [enc x]
  nU := fun h => by rw [h]; rfl
  oI := fun h u hu => by
    rw [h] at hu
    rw [List.mem_singleton.1 hu]
    exact h1 _
  lG := fun _ h => h
  jh := fun h => h
  jY := fun _ h => h
  jZ := fun h => h
  lX := fun _ h => h
  lH := fun _ h => h
def int (k : IntKind) : Kd Int := scalar (Value.int k) (fun _ => rfl)
def bool : Kd Bool := scalar Value.bool (fun _ => rfl)
def string : Kd ByteArray := scalar Value.string (fun _ => rfl)
def slice {α : Type} (e : Nat) (d : Kd α) : Kd (List α) where
  sz := 1
  E := e :: d.E
  K := fun w xs cs => ∃ A c, cs = [.slice A xs.length c] ∧ xs.length ≤ c ∧ d.C w A xs.length xs
  M := fun w base ok xs cs => ∃ v, cs = [v] ∧ d.R e w base ok v xs
  nU := by
    rintro w x cs ⟨A, c, rfl, _⟩
    rfl
  oI := by
    rintro w x cs ⟨A, c, rfl, _⟩ u hu
    rw [List.mem_singleton.1 hu]
    rfl
  lG := by
    rintro w w1 x cs hb ⟨A, c, rfl, hl, hr⟩
    exact ⟨A, c, rfl, hl, Nu hr hb⟩
  jh := by
    rintro w base ok x cs ⟨v, rfl, h⟩
    obtain ⟨A, c, rfl, hl, hr⟩ := AQ h
    exact ⟨A, c, rfl, hl, hr⟩
  jY := by
    rintro w base ok ok' x cs hok ⟨v, rfl, h⟩
    exact ⟨v, rfl, oJ h hok⟩
  jZ := by
    rintro w base ok x cs ⟨v, rfl, h⟩
    exact ⟨v, rfl, AP h⟩
  lX := by
    rintro w w1 base ok x cs hm ⟨v, rfl, h⟩
    exact ⟨v, rfl, Kz h hm⟩
  lH := by
    rintro w base base' ok x cs hb ⟨v, rfl, h⟩
    exact ⟨v, rfl, sI h hb⟩
def bot {α : Type} (sz : Nat) (E : List Nat) : Kd α where
  sz := sz
  E := E
  K := fun _ _ _ => False
  M := fun _ _ _ _ _ => False
  nU := fun h => h.elim
  oI := fun h => h.elim
  lG := fun _ h => h
  jh := fun h => h
  jY := fun _ h => h
  jZ := fun h => h
  lX := fun _ h => h
  lH := fun _ h => h
def upto {α : Type} (F : Kd α → Kd α) (sz : Nat) (E : List Nat) : Nat → Kd α
  | 0 => bot sz E
  | n + 1 => F (upto F sz E n)
theorem xk {α : Type} {d : Kd α} {e base : Nat} {ok H6 : Nat → Prop} {W w1 : World} {v v1 : Value} {xs : List α} {p : α} {inner cs : List Value} (h0 : ∀ k, v.ownBlock = some k → ok k) (hr : fO (d.M W base (fun k => ok k ∧ some k ≠ v.ownBlock)) d.sz xs inner) (hp : d.M W base H6 p cs) (KD : ∀ k, H6 k → ok k ∧ some k ≠ v.ownBlock) (hfresh : ∀ k, W.heap.size ≤ k → ok k)
    (hown : w1.ownsRow base e d.sz v1 (xs.length + 1) (inner ++ cs)) (hg : W.grownBy w1 v.ownBlock) (hat : v1.ownBlock = v.ownBlock ∨ ∃ b, v1.ownBlock = some b ∧ W.heap.size ≤ b) : d.R e w1 base ok v1 (xs ++ [p]) := by
  have hne : ∀ k, some k ≠ v.ownBlock → k < W.heap.size → some k ≠ v1.ownBlock := by
    intro k hk hlt
    rcases hat with hat | ⟨b, hb, hle⟩
    · rw [hat]; exact hk
    · rw [hb]
      intro he
      injection he with he
      omega
  have step : ∀ {q : α} {c : List Value} {o : Nat → Prop}, d.M W base o q c → (∀ k, o k → ok k ∧ some k ≠ v.ownBlock) → d.M w1 base (fun k => ok k ∧ some k ≠ v1.ownBlock) q c := by
    intro q c o hq ho
    have h1 := d.lX (w1 := w1) (fun k hk => hg.block k hk.2.2.1 (ho k hk.1).2) (d.jZ hq)
    exact d.jY (fun k hk => ⟨(ho k hk.1).1, hne k (ho k hk.1).2 hk.2.2.1⟩) h1
  refine ⟨fun k hk => ?_, inner ++ cs, by rw [List.length_append, List.length_singleton]; exact hown, ?_⟩
  · rcases hat with hat | ⟨b, hb, hle⟩
    · exact h0 k (hat ▸ hk)
    · rw [hb] at hk
      injection hk with hk
      exact hfresh k (by omega)
  · exact (hr.yI (fun _ _ hq => step hq (fun _ hk => hk))).snoc (step hp KD) (d.nU (d.jh hp))
section
variable {P : Program} {ops : Array Oper} {rest : List Oper} {o : Oper} {a : Act} {Q : Exit → Act → World → Prop} {α : Type}
theorem xq (d : Kd α) {w0 W : World} (base : Nat) (hgd : o.guard = none) (s x : Operand) (t e : TypeId) (z : Value) (bytes : Nat)
    (ho : o.op = .call { callee := .builtin .append, args := #[s, x], argTypes := #[t, t] })
    (ht : P.underlying t = some (.slice e)) (hinfo : (P.info? e).map (fun i => (i.zero, i.size, i.bytes)) = some (some z, d.sz, bytes)) (hz : z.cells.size = d.sz) (hs0 : 0 < d.sz) (hb0 : 0 < bytes)
    (v : Value) (xs : List α) (p : α) (cs : List Value) (ok H6 : Nat → Prop) (hs : a.eval s = v) (hx : a.eval x = .slice (some ⟨W.heap.size, 0, none⟩) 1 1) (hp : d.M W base H6 p cs) (KD : ∀ k, H6 k → ok k ∧ some k ≠ v.ownBlock) (hfresh : ∀ k, W.heap.size ≤ k → ok k)
    (HO : d.R e W base ok v xs) (HB : Below base w0 W) (hbase : base ≤ W.heap.size) (hl : (xs.length + 1) * bytes ≤ 140737488355328)
    (h : ∀ v1 w1, d.R e w1 base ok v1 (xs ++ [p]) → Below base w0 w1 → W.grownBy w1 v.ownBlock → (v1.ownBlock = v.ownBlock ∨ ∃ b, v1.ownBlock = some b ∧ W.heap.size ≤ b) → wpList P ops Q rest (a.put o.dst v1) w1) :
    wpList P ops Q (o :: rest) a (W.alloc (.cells cs.toArray e)) := by
  obtain ⟨h0, inner, hown, hr⟩ := HO
  refine lW base hgd s x t e z d.sz bytes ho ht hinfo hz hs0 hb0 v xs.length inner cs hs hx (d.nU (d.jh hp)) (d.oI (d.jh hp)) hown HB hbase hl ?_
  intro v1 w1 hown1 hb1 hg1 EL
  exact h v1 w1 (xk h0 hr hp KD hfresh hown1 hg1 EL) hb1 hg1 EL
end
section
variable {P : Program} {ops : Array Oper} {o : Oper} {a : Act} {Q : Exit → Act → World → Prop} {Kc : Act → World → Prop} {α : Type}
theorem yK (d : Kd α) {w0 W : World} (base : Nat) (hw : Region.wanted o (yielded ops a.tmps) = true) (s x : Operand) (t e : TypeId) (z : Value) (bytes : Nat)
    (ho : o.op = .call { callee := .builtin .append, args := #[s, x], argTypes := #[t, t] })
    (ht : P.underlying t = some (.slice e)) (hinfo : (P.info? e).map (fun i => (i.zero, i.size, i.bytes)) = some (some z, d.sz, bytes)) (hz : z.cells.size = d.sz) (hs0 : 0 < d.sz) (hb0 : 0 < bytes)
    (v : Value) (xs : List α) (p : α) (cs : List Value) (ok H6 : Nat → Prop) (hs : a.eval s = v) (hx : a.eval x = .slice (some ⟨W.heap.size, 0, none⟩) 1 1) (hp : d.M W base H6 p cs) (KD : ∀ k, H6 k → ok k ∧ some k ≠ v.ownBlock) (hfresh : ∀ k, W.heap.size ≤ k → ok k)
    (HO : d.R e W base ok v xs) (HB : Below base w0 W) (hbase : base ≤ W.heap.size) (hl : (xs.length + 1) * bytes ≤ 140737488355328)
    (h : ∀ v1 w1, d.R e w1 base ok v1 (xs ++ [p]) → Below base w0 w1 → W.grownBy w1 v.ownBlock → (v1.ownBlock = v.ownBlock ∨ ∃ b, v1.ownBlock = some b ∧ W.heap.size ≤ b) → Kc (a.put o.dst v1) w1) :
    if Region.wanted o (yielded ops a.tmps) = true then Oper.wp P o a (W.alloc (.cells cs.toArray e)) Kc Q else Kc (a.put o.dst undef) (W.alloc (.cells cs.toArray e)) := by
  obtain ⟨h0, inner, hown, hr⟩ := HO
  refine sG base hw s x t e z d.sz bytes ho ht hinfo hz hs0 hb0 v xs.length inner cs hs hx (d.nU (d.jh hp)) (d.oI (d.jh hp)) hown HB hbase hl ?_
  intro v1 w1 hown1 hb1 hg1 EL
  exact h v1 w1 (xk h0 hr hp KD hfresh hown1 hg1 EL) hb1 hg1 EL
end
theorem Dg {α : Type} {enc : α → Value} (xs : List α) : fO (fun (x : α) (cs : List Value) => cs = [enc x]) 1 xs (encs enc xs) := by
  refine ⟨by simp [encs], fun j p hj => ?_⟩
  obtain ⟨hl, hp⟩ := List.getElem?_eq_some_iff.1 hj
  have hl' : j < (encs enc xs).length := by rw [uT]; exact hl
  rw [Nat.mul_one, List.drop_eq_getElem_cons hl']
  simp [encs, hp]
theorem KE {α : Type} {enc : α → Value} {h1 : ∀ x, (enc x).oneCell' = true} {e : Nat} {w : World} {base : Nat} {ok : Nat → Prop} {v : Value} {xs : List α} (ho : w.ownsRow base e 1 v xs.length (encs enc xs)) (hok : ∀ k, v.ownBlock = some k → ok k) : (scalar enc h1).R e w base ok v xs := ⟨hok, encs enc xs, ho, Dg xs⟩
theorem sM {α : Type} {enc : α → Value} {h1 : ∀ x, (enc x).oneCell' = true} {e : Nat} {w : World} {base : Nat} {ok : Nat → Prop} {v : Value} {xs : List α} (h : (scalar enc h1).R e w base ok v xs) : w.ownsRow base e 1 v xs.length (encs enc xs) := by
  obtain ⟨_, inner, ho, hr⟩ := h
  have : inner = encs enc xs := by
    apply List.ext_getElem?
    intro j
    rcases Nat.lt_or_ge j xs.length with hj | hj
    · have h2 := hr.2 j _ (List.getElem?_eq_getElem hj)
      have hl : j < inner.length := by have := hr.1; simp [scalar] at this; omega
      have h3 : (inner.drop (j * 1)).take 1 = [enc xs[j]] := h2
      rw [Nat.mul_one, List.drop_eq_getElem_cons hl] at h3
      have h4 : inner[j] = enc xs[j] := by
        have h5 := congrArg List.head? h3
        rw [List.take_succ_cons] at h5
        exact Option.some.inj h5
      rw [List.getElem?_eq_getElem hl, h4]
      simp [encs, List.getElem?_eq_getElem hj]
    · have h3 : inner.length = xs.length := by have := hr.1; simp [scalar] at this; omega
      rw [List.getElem?_eq_none (by omega), List.getElem?_eq_none (by rw [uT]; omega)]
  rw [← this]
  exact ho
theorem EM {α : Type} {enc : α → Value} {d : α} {h1 : ∀ x, (enc x).oneCell' = true} {w : World} {A : Option Addr} {n : Nat} {xs : List α} (h : (scalar enc h1).C w A n xs) : fZ enc d w A n xs := by
  refine ⟨h.1, h.2.1, fun hn => ?_⟩
  obtain ⟨ad, e, hc⟩ := h.2.2 hn
  refine ⟨ad, e, fun j hj => ?_⟩
  have hl : j < xs.length := by have := h.1; omega
  obtain ⟨c, _, hK, hcell⟩ := hc j _ (List.getElem?_eq_getElem hl)
  have hK' : c = [enc xs[j]] := hK
  subst hK'
  have := hcell 0 _ rfl
  simpa [scalar, List.getD_eq_getElem?_getD, List.getElem?_eq_getElem hl] using this
end Kd
namespace Kd
section
variable {α : Type} {F : Kd α → Kd α} {sz : Nat} {E : List Nat} {hs : ∀ n, (upto F sz E n).sz = sz} {hE : ∀ n q, q ∈ (upto F sz E n).E → q ∈ E}
end
end Kd
namespace Kd
end Kd
namespace Kd
section
variable {α β : Type} {d : Kd α} {d' : Kd β} {e e' : Nat} {w w1 W : World} {base b b' : Nat} {ok ok' okv oku : Nat → Prop} {v u : Value} {xs : List α} {ys : List β}
theorem eU (h : d.R e w base ok v xs) (o : Obj) : d.R e (w.alloc o) base ok v xs := j3 h (ak (Below.refl _ _) o)
theorem fQ (h : d.R e w base ok v xs) : d.R e w.drew base ok v xs := j3 h (jg (Below.refl _ _))
theorem fG (h : d.R e w base ok v xs) (m : Nat) : d.R e (w.drewN m) base ok v xs := j3 h (ah (Below.refl _ _) m)
theorem Xx (d : Kd α) (w : World) : d.C w none ([] : List α).length [] := ⟨rfl, by simp, fun h => absurd h (Nat.lt_irrefl 0)⟩
theorem Xy {A : Option Addr} {n : Nat} (h : d.C w A n xs) : n ≤ 9223372036854775807 := h.2.1
theorem oK {A : Option Addr} {n c : Nat} (h : d.R e w base ok (.slice A n c) xs) : n = xs.length ∧ n ≤ c ∧ d.C w A xs.length xs := by
  obtain ⟨A', c', he, hl, hr⟩ := AQ h
  injection he with h1 h2 h3
  subst h1
  exact ⟨h2, by omega, hr⟩
theorem Tf (h : d.R e w base ok v xs) : ∀ k, v.ownBlock = some k → base ≤ k := by
  obtain ⟨inner, ho⟩ := Qp h
  exact sD ho
theorem Tg (h : d.R e w base ok v xs) (hp : 0 < xs.length) : ∃ g cap, v = .slice (some ⟨g, 0, none⟩) xs.length cap ∧ base ≤ g ∧ g < w.heap.size ∧ ∃ cells, w.heap[g]? = some (.cells cells e (0, 0)) := by
  obtain ⟨inner, ho⟩ := Qp h
  obtain ⟨g, cap, he, hb, hl⟩ := ho.form hp
  obtain ⟨cells, hc⟩ := zq ho g (by rw [he]; simp [Value.ownBlock])
  exact ⟨g, cap, he, hb, hl, cells, hc⟩
end
section
variable {w W : World} {A : Option Addr} {n : Nat}
theorem zu {xs : List ByteArray} (h : Kd.string.C w A n xs) (i : Int) (h0 : 0 ≤ i) (h1 : i < n) : ∃ ad, A = some ad ∧ w.cell? (ad.add i.toNat) = some (.string (oH ByteArray.empty xs i)) :=
  fZ.at_ (EM (enc := Value.string) (d := ByteArray.empty) (h1 := fun _ => rfl) h) i h0 h1
variable {α : Type} {enc : α → Value} {h1 : ∀ x, (enc x).oneCell' = true} {e base g cap : Nat} {ok : Nat → Prop} {xs : List α}
theorem KF (d : α) (h : (scalar enc h1).R e W base ok (.slice (some ⟨g, 0, none⟩) xs.length cap) xs) (i : Int) (h0 : 0 ≤ i) (hi : i < xs.length) : W.cell? ⟨g, i.toNat, none⟩ = some (enc (oH d xs i)) ∧ W.frozen? ⟨g, i.toNat, none⟩ = false := HV (sM h) i h0 hi
theorem Xz (h : (scalar enc h1).R e W base ok (.slice (some ⟨g, 0, none⟩) xs.length cap) xs) (i : Int) (x : α) : (scalar enc h1).R e (W.setCell ⟨g, i.toNat, none⟩ (enc x)) base ok (.slice (some ⟨g, 0, none⟩) xs.length cap) (xs.set i.toNat x) ∧ W.grownBy (W.setCell ⟨g, i.toNat, none⟩ (enc x)) (some g) := by
  obtain ⟨ho, hg⟩ := AO (sM h) i x
  exact ⟨KE (by rw [List.length_set]; exact ho) h.1, hg⟩
end
section
variable {P : Program} {ops : Array Oper} {rest : List Oper} {o : Oper} {a : Act} {Q : Exit → Act → World → Prop}
theorem H7 {W w1 : World} {v : Value} (hgd : o.guard = none) (hrun : (execOp a.eval o).run P W = .ok (.value v) w1) (h : wpList P ops Q rest (a.put o.dst v) w1) : wpList P ops Q (o :: rest) a W := by
  refine wpList_plain hgd fun K hK => ?_
  unfold Oper.wp
  rw [hrun]
  exact hK _ _ h
variable {α : Type}
end
end Kd
section
variable {P : Program}
end
def XA (w : World) (base : Nat) (e : TypeId) (size : Nat) (v : Value) (n : Nat) (xs : List Value) : Prop :=
  xs.length = n * size ∧
  ((n = 0 ∧ ∃ A, v = .slice A 0 0 ∧ ∀ a, A = some a → base ≤ a.block ∧ ∃ cur, w.heap[a.block]? = some (.cells cur e (0, 0))) ∨
   ∃ g off cap cur, v = .slice (some ⟨g, off * size, none⟩) n cap ∧ base ≤ g ∧ w.heap[g]? = some (.cells cur e (0, 0)) ∧ n ≤ cap ∧ off + cap ≤ maxLen ∧ cur.size = (off + cap) * size ∧ (cur.toList.drop (off * size)).take (n * size) = xs)
section
variable {w w1 : World} {base n size : Nat} {e : TypeId} {v : Value} {xs : List Value}
theorem KG (h : w.ownsRow base e size v n xs) : XA w base e size v n xs := by
  obtain ⟨h1, h2⟩ := h
  refine ⟨h1, ?_⟩
  rcases h2 with ⟨rfl, h0⟩ | ⟨g, cap, cur, rfl, hb, hh, hnc, hcm, hcs, ht⟩
  · exact .inl ⟨h0, none, rfl, fun a ha => by cases ha⟩
  · exact .inr ⟨g, 0, cap, cur, by rw [Nat.zero_mul], hb, hh, hnc, by rw [Nat.zero_add]; exact hcm, by rw [Nat.zero_add]; exact hcs, by rw [Nat.zero_mul, List.drop_zero]; exact ht⟩
end
section
variable {P : Program}
end
namespace Kd
def Q {α : Type} (d : Kd α) (e : Nat) (w : World) (base : Nat) (ok : Nat → Prop) (v : Value) (xs : List α) : Prop :=
  (∀ k, v.ownBlock = some k → ok k) ∧ ∃ inner, XA w base e d.sz v xs.length inner ∧ fO (d.M w base (fun k => ok k ∧ some k ≠ v.ownBlock)) d.sz xs inner
section
variable {α : Type} {d : Kd α} {e : Nat} {w w1 W : World} {base : Nat} {ok ok' : Nat → Prop} {v : Value} {xs : List α}
theorem Ti (h : d.R e w base ok v xs) : d.Q e w base ok v xs := by
  obtain ⟨h0, inner, ho, hr⟩ := h
  exact ⟨h0, inner, KG ho, hr⟩
theorem kQ (d : Kd α) (e : Nat) (w : World) (base : Nat) (ok : Nat → Prop) : d.Q e w base ok (.slice none 0 0) [] := Ti (jB d e w base ok)
end
section
variable {P : Program} {ops : Array Oper} {rest : List Oper} {o : Oper} {a : Act} {Q' : Exit → Act → World → Prop} {Kc : Act → World → Prop} {α : Type}
end
end Kd
namespace Kd
section
variable {α : Type} {d : Kd α} {e e' : Nat} {w w1 W : World} {base : Nat} {ok : Nat → Prop} {u v : Value} {xs : List α}
end
end Kd
namespace Kd
section
variable {α : Type} {d : Kd α} {e base g n cap : Nat} {ok H6 : Nat → Prop} {W : World} {xs : List α}
end
end Kd
namespace Kd
section
variable {α : Type} {F : Kd α → Kd α} {sz : Nat} {E : List Nat} {hs : ∀ n, (upto F sz E n).sz = sz} {hE : ∀ n q, q ∈ (upto F sz E n).E → q ∈ E}
end
end Kd
namespace Kd
section
variable {P : Program} {ops : Array Oper} {rest : List Oper} {o : Oper} {a : Act} {Q : Exit → Act → World → Prop} {α : Type}
end
end Kd
namespace Kd
section
variable {P : Program} {ops : Array Oper} {rest : List Oper} {o : Oper} {a : Act} {Q : Exit → Act → World → Prop} {α : Type}
end
end Kd
namespace Kd
section
variable {α : Type} {k : Kd α} {w : World} {A : Option Addr} {xs : List α} {m c : Nat}
end
end Kd
section
variable {P : Program}
end
theorem bL {w W : World} (h : Below w.heap.size w W) : w.heap.size ≤ W.heap.size := h.size
theorem bE {w W w2 : World} (h : Below w.heap.size w W) (k : Below W.heap.size W w2) : Below w.heap.size w w2 := EJ h h.size k
theorem gD.nil (W : World) (k : IntKind) : gD W k none ([] : List Int).length [] := ⟨rfl, by simp, fun h => absurd h (Nat.lt_irrefl 0)⟩
theorem gD.drewN {W : World} {k : IntKind} {A : Option Addr} {n : Nat} {xs : List Int} (h : gD W k A n xs) (m : Nat) : gD (W.drewN m) k A n xs := h
theorem aR {w W : World} {g j : Nat} {v : Value} (h : Below w.heap.size w W) (hg : w.heap.size ≤ g) : Below w.heap.size w (W.setCell ⟨g, j, none⟩ v) := h.setCell hg _
theorem zw {w W : World} {g : Nat} (h : gU w W g none) {a : Addr} {v : Value} (hc : w.cell? a = some v) (hne : a.block ≠ g) : W.cell? a = some v := by
  have := h.2 a.block (World.block_lt_of_cell? w a hc) hne (by simp)
  simpa [World.cell?, this] using hc
theorem add_block (a : Addr) (i : Nat) : (a.add i).block = a.block := by unfold Addr.add; split <;> rfl
theorem fZ.nil {α : Type} (enc : α → Value) (d : α) (W : World) : fZ enc d W none ([] : List α).length [] := ⟨rfl, by simp, fun h => absurd h (Nat.lt_irrefl 0)⟩
theorem fZ.drewN {α : Type} {enc : α → Value} {d : α} {W : World} {A : Option Addr} {n : Nat} {xs : List α} (h : fZ enc d W A n xs) (m : Nat) : fZ enc d (W.drewN m) A n xs := h
theorem gD.keep {w W : World} {k : IntKind} {A : Option Addr} {n g : Nat} {xs : List Int} (h : gD w k A n xs) (hk : gU w W g none) (hf : ∀ ad, A = some ad → 0 < n → ad.block ≠ g) : gD W k A n xs :=
  ⟨h.1, h.2.1, fun hn => by
    obtain ⟨ad, e, hc⟩ := h.2.2 hn
    exact ⟨ad, e, fun j hj => zw hk (hc j hj) (by rw [add_block]; exact hf ad e hn)⟩⟩
theorem fZ.keep {α : Type} {enc : α → Value} {d : α} {w W : World} {A : Option Addr} {n g : Nat} {xs : List α} (h : fZ enc d w A n xs) (hk : gU w W g none) (hf : ∀ ad, A = some ad → 0 < n → ad.block ≠ g) : fZ enc d W A n xs :=
  ⟨h.1, h.2.1, fun hn => by
    obtain ⟨ad, e, hc⟩ := h.2.2 hn
    exact ⟨ad, e, fun j hj => zw hk (hc j hj) (by rw [add_block]; exact hf ad e hn)⟩⟩
theorem cell_far {W : World} {p a : Addr} (h : a.block ≠ p.block) (u : Value) : (W.setCell p u).cell? a = W.cell? a := by
  have := Below.heap_setCell W p u a.block h
  simp [World.cell?, this]
theorem bU {w : World} {g : Nat} {t : TypeId} {cs cs' : Array Value} (h : w.heap[g]? = some (.cells cs t (0, 0))) (i : Nat) (u : Value) (e : cs.setIfInBounds i u = cs') : (w.setCell ⟨g, i, none⟩ u).heap[g]? = some (.cells cs' t (0, 0)) := e ▸ Nt h i u
theorem rT {W : World} {base n c : Nat} {e : TypeId} {size g : Nat} {ad : Addr} {xs : List Value} (_ : W.ownsRow base e size (.slice (some ad) n c) n xs) (hne : some g ≠ (Value.slice (some ad) n c).ownBlock) : ad.block ≠ g := by
  rintro rfl
  exact hne (by simp [Value.ownBlock])
theorem au {base : Nat} {w W : World} (h : Below base w W) : Below base w W.drew := h.drew
namespace Kd
section
variable {α β : Type} {d : Kd α} {d' : Kd β} {e e' base base' n : Nat} {ok ok' : Nat → Prop} {w W w1 W1 : World} {v u : Value} {xs : List α} {ys : List β} {A : Option Addr} {c : Nat}
theorem rT {ad : Addr} {g : Nat} (hne : some g ≠ (Value.slice (some ad) n c).ownBlock) : ad.block ≠ g := by
  rintro rfl
  exact hne (by simp [Value.ownBlock])
end
section
variable {α : Type} {enc : α → Value} {h1 : ∀ x, (enc x).oneCell' = true} {w W : World} {A : Option Addr} {n g : Nat} {xs : List α}
end
end Kd
namespace Kd
section
variable {α : Type} {d : Kd α} {e base g : Nat} {ok : Nat → Prop} {w w1 : World} {v : Value} {xs : List α} {o : Obj}
end
end Kd
section
variable {P : Program} {ops : Array Oper} {rest : List Oper} {o : Oper} {a : Act} {Q : Exit → Act → World → Prop}
theorem fP {W : World} (hgd : o.guard = none) {N : Tmp} (_hd : o.dst = some N) {cs : Array Value} {t : TypeId}
    (hrun : (execOp a.eval o).run P W = .ok (.value (.pointer (some ⟨W.heap.size, 0, none⟩))) (W.alloc (.cells cs t (0, 0))))
    (h : ∀ g, g = W.heap.size → ∀ w1, w1.heap[g]? = some (.cells cs t (0, 0)) → Below W.heap.size W w1 → wpList P ops Q rest (a.put o.dst (.pointer (some ⟨g, 0, none⟩))) w1) : wpList P ops Q (o :: rest) a W :=
  Kd.H7 hgd hrun (h _ rfl _ (sH W _) (ak (Below.refl _ _) _))
end
namespace Kd
section
variable {α : Type} {enc : α → Value} {h1 : ∀ x, (enc x).oneCell' = true} {e base g n cap : Nat} {ok : Nat → Prop} {W : World} {xs : List α}
theorem AU (d : α) (h : (scalar enc h1).R e W base ok (.slice (some ⟨g, 0, none⟩) n cap) xs) (i : Int) (h0 : 0 ≤ i) (hi : i < n) : W.cell? ⟨g, i.toNat, none⟩ = some (enc (oH d xs i)) ∧ W.frozen? ⟨g, i.toNat, none⟩ = false := by
  obtain ⟨rfl, _⟩ := oK h
  exact KF d h i h0 hi
end
end Kd
section
variable {P : Program} {ops : Array Oper} {rest : List Oper} {o : Oper} {a : Act} {Q : Exit → Act → World → Prop}
end
namespace Kd
section
variable {α : Type} {enc : α → Value} {h1 : ∀ x, (enc x).oneCell' = true} {e base g n cap : Nat} {ok : Nat → Prop} {W : World} {xs : List α}
theorem Tj (h : (scalar enc h1).R e W base ok (.slice (some ⟨g, 0, none⟩) n cap) xs) (i : Int) (x : α) : (scalar enc h1).R e (W.setCell ⟨g, i.toNat, none⟩ (enc x)) base ok (.slice (some ⟨g, 0, none⟩) n cap) (xs.set i.toNat x) ∧ W.grownBy (W.setCell ⟨g, i.toNat, none⟩ (enc x)) (some g) := by
  obtain ⟨rfl, _⟩ := oK h
  exact Xz h i x
end
end Kd
section
variable {P : Program} {ops : Array Oper} {rest : List Oper} {o : Oper} {a : Act} {Q : Exit → Act → World → Prop} {W : World}
theorem gF {N : Tmp} (_hN : o.dst = some N) (h : wpList P ops Q (o :: rest) a W) : wpList P ops Q (o :: rest) a W := h
end
section
variable {P : Program} {ops : Array Oper} {o : Oper} {a : Act} {Q : Exit → Act → World → Prop} {Kc : Act → World → Prop}
namespace Kd
variable {α : Type}
end Kd
end
section
variable {P : Program} {tmps : Array Value} {w : World}
end
namespace Kd
section
variable {P : Program} {α : Type}
end
section
variable {P : Program} {ops : Array Oper} {rest : List Oper} {o : Oper} {a : Act} {Q : Exit → Act → World → Prop} {Kc : Act → World → Prop} {α : Type}
end
end Kd
end Go.Proofs.YtdkkgecdhapfhaaW.bD
namespace Go.Proofs.YtdkkgecdhapfhaaW.dV
section
variable {P : Program} {ops : Array Oper} {Q : Exit → Act → World → Prop} {md : Region.Mode} {S : World → Prop} {ds : List Nat}
def Region.lg (md : Region.Mode) (ops : Array Oper) (i : Nat) : Nat → Nat → Bool
  | 0, _ => false
  | fuel + 1, d => match ops[d]? with
    | some o => o.after.any fun e => Region.binds md e && (e.on == i || Region.lg md ops i fuel e.on)
    | none => false
def Region.sN (md : Region.Mode) (ops : Array Oper) (listed : Array Bool) : Bool :=
  (List.range ops.size).all fun j => !listed.getD j false || match ops[j]? with
    | some o => o.after.all fun e => !Region.binds md e || listed.getD e.on false
    | none => true
def Region.lastB (md : Region.Mode) (ops : Array Oper) (listed : Array Bool) (ds : List Nat) (i : Nat) : Bool :=
  ds.all fun d => listed.getD d true || Region.lg md ops i ops.size d
def iH (md : Region.Mode) (ops : Array Oper) (listed : Array Bool) : Prop :=
  ∀ j oj, ops[j]? = some oj → listed.getD j false = true → ∀ e ∈ oj.after, Region.binds md e = true → listed.getD e.on false = true
theorem Region.AX {listed : Array Bool} (h : Region.sN md ops listed = true) : iH md ops listed := by
  intro j oj hj hl e he hb
  have hlt : j < ops.size := (Array.getElem?_eq_some_iff.1 hj).1
  have h1 := List.all_eq_true.1 h j (List.mem_range.2 hlt)
  simp only [hl, hj, Bool.not_true, Bool.false_or] at h1
  have h2 := Array.all_eq_true_iff_forall_mem.1 h1 e he
  simpa [hb] using h2
theorem iH.set {listed : Array Bool} {i : Nat} (h : iH md ops listed) (hi : i ∈ Region.ready md ops listed) : iH md ops (listed.setIfInBounds i true) := by
  obtain ⟨_, oi, hoi, hall⟩ := mem_ready.1 hi
  intro j oj hj hl e he hb
  by_cases hij : i = j
  · subst hij
    have : oj = oi := Option.some.inj (hj.symm.trans hoi)
    subst this
    exact getD_set_true (hall e he hb)
  · rw [getD_set_ne false hij] at hl
    exact getD_set_true (h j oj hj hl e he hb)
theorem Region.sO {listed : Array Bool} {i : Nat} (hc : iH md ops listed) : ∀ (fuel d : Nat), Region.lg md ops i fuel d = true → listed.getD d false = true → listed.getD i false = true
  | 0, _, h, _ => by simp [Region.lg] at h
  | fuel + 1, d, h, hl => by
    unfold Region.lg at h
    cases ho : ops[d]? with
    | none => rw [ho] at h; simp at h
    | some o =>
      rw [ho] at h
      obtain ⟨e, he, h1⟩ := Array.any_eq_true'.1 h
      simp only [Bool.and_eq_true, Bool.or_eq_true, beq_iff_eq] at h1
      have hle := hc d o ho hl e he h1.1
      rcases h1.2 with h2 | h2
      · rw [← h2]; exact hle
      · exact Region.sO hc fuel e.on h2 hle
theorem Region.vv {listed : Array Bool} {i d fuel : Nat} (hc : iH md ops listed) (hr : Region.lg md ops i fuel d = true) (hun : listed.getD i true = false) : d ∉ Region.ready md ops listed := by
  intro hd
  obtain ⟨_, o, ho, hall⟩ := mem_ready.1 hd
  have hi : listed.getD i false = true := by
    cases fuel with
    | zero => simp [Region.lg] at hr
    | succ n =>
      unfold Region.lg at hr
      rw [ho] at hr
      obtain ⟨e, he, h1⟩ := Array.any_eq_true'.1 hr
      simp only [Bool.and_eq_true, Bool.or_eq_true, beq_iff_eq] at h1
      have hle := hall e he h1.1
      rcases h1.2 with h2 | h2
      · rw [← h2]; exact hle
      · exact Region.sO hc n e.on h2 hle
  rcases Nat.lt_or_ge i listed.size with h' | h'
  · simp [h'] at hun hi
    rw [hun] at hi
    cases hi
  · simp [Array.getElem?_eq_none h'] at hun
def dh (P : Program) (md : Region.Mode) (ops : Array Oper) (Q : Exit → Act → World → Prop) (S : World → Prop) (ds : List Nat) : Nat → Array Bool → Act → World → Prop
  | 0, listed, a, w => Region.ready md ops listed = [] ∧ Q .normal a w
  | fuel + 1, listed, a, w =>
    (Region.ready md ops listed = [] → Q .normal a w) ∧
    ∀ i ∈ Region.ready md ops listed, wpOp P ops Q i (fun a' w' => (i ∉ ds → S w → S w') ∧ dh P md ops Q S ds fuel (listed.setIfInBounds i true) a' w') a w
theorem qE : ∀ (fuel : Nat) (listed : Array Bool) (a : Act) (w : World), dh P md ops Q S ds fuel listed a w → wpAny P md ops Q fuel listed a w
  | 0, _, _, _, h => h
  | fuel + 1, _, _, _, h => ⟨h.1, fun i hi => wpOp_mono (fun a' w' h' => qE fuel _ a' w' h'.2) (h.2 i hi)⟩
theorem vB {i : Nat} {oi : Oper} {v : Value} (hi : ops[i]? = some oi) (hsel : ∀ (j : Nat) (o : Oper) cs b, ops[j]? = some o → o.op ≠ .select cs b)
    (hQ : ∀ c a w, Q (.panic c) (a.put oi.dst v) w → Q (.panic c) a w) (n : Nat) :
    ∀ (fuel : Nat) (listed : Array Bool) (a : Act) (w : World),
      (∀ j oj, ops[j]? = some oj → j ≠ i → listed.getD j true = false → (∀ e ∈ oj.after, Region.binds md e = true → e.on ≠ i) → oi.apart ops oj = true) →
      iH md ops listed → (∀ d ∈ ds, listed.getD d true = false → Region.lg md ops i n d = true) →
      i ∈ Region.ready md ops listed → YieldsIf P ops S oi v a → S w →
      dh P md ops Q S ds fuel (listed.setIfInBounds i true) (a.put oi.dst v) w → dh P md ops Q S ds (fuel + 1) listed a w := by
  intro fuel
  induction fuel with
  | zero =>
    intro listed a w _ _ _ hr hy hS H
    refine ⟨fun h => (by rw [h] at hr; cases hr), fun j hj => ?_⟩
    by_cases hji : j = i
    · subst hji; exact hy.wpOp hi hS ⟨fun _ h => h, H⟩
    · have := ready_mono hj hji
      rw [H.1] at this
      cases this
  | succ fuel ih =>
    intro listed a w hfree hc hd hr hy hS H
    refine ⟨fun h => (by rw [h] at hr; cases hr), fun j hj => ?_⟩
    by_cases hji : j = i
    · subst hji; exact hy.wpOp hi hS ⟨fun _ h => h, H⟩
    · have h1 := H.2 j (ready_mono hj hji)
      obtain ⟨hjun, oj, hoj, hall⟩ := mem_ready.1 hj
      have H8 := (mem_ready.1 hr).1
      have hnot : ∀ e ∈ oj.after, Region.binds md e = true → e.on ≠ i := fun e he hb heq => by
        have h1 := hall e he hb
        rw [heq] at h1
        rcases Nat.lt_or_ge i listed.size with h' | h'
        · simp [h'] at H8 h1; rw [H8] at h1; cases h1
        · simp [Array.getElem?_eq_none h'] at h1
      have hjd : j ∉ ds := fun hm => Region.vv hc (hd j hm hjun) H8 hj
      have h2 := wpOp_putIf hoj (hfree j oj hoj hji hjun hnot) (fun cs b => hsel i oi cs b hi) (fun cs b => hsel j oj cs b hoj) hQ hy h1
      have hfree' : ∀ k ok, ops[k]? = some ok → k ≠ i → (listed.setIfInBounds j true).getD k true = false →
          (∀ e ∈ ok.after, Region.binds md e = true → e.on ≠ i) → oi.apart ops ok = true := fun k ok hk hki hun hno => by
        refine hfree k ok hk hki ?_ hno
        by_cases hjk : j = k
        · subst hjk; exact hjun
        · rw [getD_set_ne true hjk] at hun; exact hun
      have hd' : ∀ d ∈ ds, (listed.setIfInBounds j true).getD d true = false → Region.lg md ops i n d = true := fun d hm hun => by
        refine hd d hm ?_
        by_cases hjk : j = d
        · subst hjk; exact hjun
        · rw [getD_set_ne true hjk] at hun; exact hun
      refine wpOp_mono (fun a' w' h3 => ⟨h3.2.1, ih (listed.setIfInBounds j true) a' w' hfree' (hc.set hj) hd' (ready_mono hr (Ne.symm hji)) h3.1 (h3.2.1 hjd hS) ?_⟩) h2
      rw [Array.setIfInBounds_comm _ _ hji]
      exact h3.2.2
theorem yL {i : Nat} {oi : Oper} {v : Value} (hi : ops[i]? = some oi) (hsel : ∀ (j : Nat) (o : Oper) cs b, ops[j]? = some o → o.op ≠ .select cs b)
    (hQ : ∀ c a w, Q (.panic c) (a.put oi.dst v) w → Q (.panic c) a w) :
    ∀ (fuel : Nat) (listed : Array Bool) (a : Act) (w : World),
      (∀ j oj, ops[j]? = some oj → j ≠ i → listed.getD j true = false → (∀ e ∈ oj.after, Region.binds md e = true → e.on ≠ i) → oi.apart ops oj = true) →
      i ∈ Region.ready md ops listed → Yields P ops oi v a →
      dh P md ops Q S ds fuel (listed.setIfInBounds i true) (a.put oi.dst v) w → dh P md ops Q S ds (fuel + 1) listed a w := by
  intro fuel
  induction fuel with
  | zero =>
    intro listed a w _ hr hy H
    refine ⟨fun h => (by rw [h] at hr; cases hr), fun j hj => ?_⟩
    by_cases hji : j = i
    · subst hji; exact (hy.yieldsIf (S := fun _ => True)).wpOp hi trivial ⟨fun _ h => h, H⟩
    · have := ready_mono hj hji
      rw [H.1] at this
      cases this
  | succ fuel ih =>
    intro listed a w hfree hr hy H
    refine ⟨fun h => (by rw [h] at hr; cases hr), fun j hj => ?_⟩
    by_cases hji : j = i
    · subst hji; exact (hy.yieldsIf (S := fun _ => True)).wpOp hi trivial ⟨fun _ h => h, H⟩
    · have h1 := H.2 j (ready_mono hj hji)
      obtain ⟨hjun, oj, hoj, hall⟩ := mem_ready.1 hj
      have H8 := (mem_ready.1 hr).1
      have hnot : ∀ e ∈ oj.after, Region.binds md e = true → e.on ≠ i := fun e he hb heq => by
        have h1 := hall e he hb
        rw [heq] at h1
        rcases Nat.lt_or_ge i listed.size with h' | h'
        · simp [h'] at H8 h1; rw [H8] at h1; cases h1
        · simp [Array.getElem?_eq_none h'] at h1
      have h2 := wpOp_put hoj (hfree j oj hoj hji hjun hnot) (fun cs b => hsel i oi cs b hi) (fun cs b => hsel j oj cs b hoj) hQ hy h1
      have hfree' : ∀ k ok, ops[k]? = some ok → k ≠ i → (listed.setIfInBounds j true).getD k true = false →
          (∀ e ∈ ok.after, Region.binds md e = true → e.on ≠ i) → oi.apart ops ok = true := fun k ok hk hki hun hno => by
        refine hfree k ok hk hki ?_ hno
        by_cases hjk : j = k
        · subst hjk; exact hjun
        · rw [getD_set_ne true hjk] at hun; exact hun
      refine wpOp_mono (fun a' w' h3 => ⟨h3.2.1, ih (listed.setIfInBounds j true) a' w' hfree' (ready_mono hr (Ne.symm hji)) h3.1 ?_⟩) h2
      rw [Array.setIfInBounds_comm _ _ hji]
      exact h3.2.2
theorem xu {i : Nat} {oi : Oper} {v : Value} {fuel : Nat} {listed : Array Bool} {a : Act} {w : World} (hi : ops[i]? = some oi)
    (hs : Region.noSelect ops = true) (hf : Region.free md ops listed i = true) (hr : (Region.ready md ops listed).contains i = true)
    (hc : Region.sN md ops listed = true) (hl : Region.lastB md ops listed ds i = true)
    (hQ : ∀ c a w, Q (.panic c) (a.put oi.dst v) w → Q (.panic c) a w) (hy : YieldsIf P ops S oi v a) (hS : S w)
    (h : dh P md ops Q S ds fuel (listed.setIfInBounds i true) (a.put oi.dst v) w) : dh P md ops Q S ds (fuel + 1) listed a w :=
  vB hi (Region.noSelect_spec hs) hQ ops.size fuel listed a w (Region.free_spec hi hf) (Region.AX hc)
    (fun d hm hun => by have := List.all_eq_true.1 hl d hm; rw [hun] at this; simpa using this) (by simpa using hr) hy hS h
theorem yM {rs : List Nat} {fuel : Nat} {listed : Array Bool} {a : Act} {w : World} (hr : Region.ready md ops listed = rs) (hne : rs ≠ [])
    (h : ∀ i ∈ rs, wpOp P ops Q i (fun a' w' => (i ∉ ds → S w → S w') ∧ dh P md ops Q S ds fuel (listed.setIfInBounds i true) a' w') a w) : dh P md ops Q S ds (fuel + 1) listed a w :=
  ⟨fun h0 => absurd (hr ▸ h0) hne, hr ▸ h⟩
theorem xw {listed : Array Bool} {a : Act} {w : World} (hr : Region.ready md ops listed = []) (h : Q .normal a w) :
    ∀ fuel, dh P md ops Q S ds fuel listed a w
  | 0 => ⟨hr, h⟩
  | _ + 1 => ⟨fun _ => h, by rw [hr]; simp⟩
theorem xA {id : Nat} {a : Act} {w : World} (hm : P.follows .mixedOrders = true)
    (h : dh P .any ops Q S ds ops.size (Array.replicate ops.size false) a { w with drawn := w.drawn + 1 }) : (Code.region id ops true).wp P Q a w :=
  wp_region_any hm (qE _ _ _ _ h)
end
section
variable {P : Program} {ops : Array Oper} {Q : Exit → Act → World → Prop} {md : Region.Mode} {S : World → Prop} {ds : List Nat}
def jQ (P : Program) (md : Region.Mode) (ops : Array Oper) (Q : Exit → Act → World → Prop) (S : World → Prop) (ds : List Nat) (fuel : Nat) (listed : Array Bool) (a : Act) (w : World) (rs : List Nat) : Prop :=
  ∀ i ∈ rs, wpOp P ops Q i (fun a' w' => (i ∉ ds → S w → S w') ∧ dh P md ops Q S ds fuel (listed.setIfInBounds i true) a' w') a w
theorem jQ.nil {fuel : Nat} {listed : Array Bool} {a : Act} {w : World} : jQ P md ops Q S ds fuel listed a w [] := fun _ h => by cases h
theorem jQ.cons {fuel : Nat} {listed : Array Bool} {a : Act} {w : World} {i : Nat} {o : Oper} {rs : List Nat} (ho : ops[i]? = some o) (hd : i ∉ ds)
    (h : ∀ K' : Act → World → Prop, Shut (∀ a w, S w → (S w → dh P md ops Q S ds fuel (listed.setIfInBounds i true) a w) → K' a w) → if Region.wanted o (yielded ops a.tmps) = true then Oper.wp P o a w K' Q else K' (a.put o.dst undef) w)
    (hs : jQ P md ops Q S ds fuel listed a w rs) : jQ P md ops Q S ds fuel listed a w (i :: rs) := fun j hj => by
  rcases List.mem_cons.1 hj with rfl | hj
  · exact wpOp_step ho (fun K' hK => h K' (fun a w hS hW => hK a w ⟨fun _ _ => hS, hW hS⟩))
  · exact hs j hj
theorem vC {rs : List Nat} {fuel : Nat} {listed : Array Bool} {a : Act} {w : World} (hr : Region.ready md ops listed = rs) (hne : rs ≠ [])
    (h : jQ P md ops Q S ds fuel listed a w rs) : dh P md ops Q S ds (fuel + 1) listed a w := yM hr hne h
theorem KH {id n : Nat} {a : Act} {w : World} (l : Array Bool) (hm : P.follows .mixedOrders = true) (hn : ops.size = n) (hl : Array.replicate n false = l) (hS : S w.drew)
    (h : S w.drew → dh P .any ops Q S ds n l a w.drew) : (Code.region id ops true).wp P Q a w := by
  subst hn
  subst hl
  exact xA hm (h hS)
def takeB (md : Region.Mode) (ops : Array Oper) (ds : List Nat) (l l' : Array Bool) (i : Nat) : Bool :=
  Region.noSelect ops && Region.free md ops l i && (Region.ready md ops l).contains i && Region.sN md ops l && Region.lastB md ops l ds i && (l.setIfInBounds i true == l')
theorem Df {i : Nat} {N : Option Tmp} {oi : Oper} {v : Value} {fuel : Nat} {l : Array Bool} {a : Act} {w : World} (l' : Array Bool) (hi : ops[i]? = some oi) (hN : oi.dst = N) (hc : takeB md ops ds l l' i = true)
    (hQ : ∀ c a w, Q (.panic c) (a.put oi.dst v) w → Q (.panic c) a w) (hy : YieldsIf P ops S oi v a) (hS : S w) {a' : Act} (ha : a.put N v = a')
    (h : dh P md ops Q S ds fuel l' a' w) : dh P md ops Q S ds (fuel + 1) l a w := by
  subst ha
  subst hN
  simp only [takeB, Bool.and_eq_true, beq_iff_eq] at hc
  obtain ⟨⟨⟨⟨⟨h1, h2⟩, h3⟩, h4⟩, h5⟩, h6⟩ := hc
  subst h6
  exact xu hi h1 h2 h3 h4 h5 hQ hy hS h
def Nw (md : Region.Mode) (ops : Array Oper) (l l' : Array Bool) (i : Nat) : Bool :=
  Region.noSelect ops && Region.free md ops l i && (Region.ready md ops l).contains i && (l.setIfInBounds i true == l')
theorem lu {i : Nat} {N : Option Tmp} {oi : Oper} {v : Value} {fuel : Nat} {l : Array Bool} {a : Act} {w : World} (l' : Array Bool) (hi : ops[i]? = some oi) (hN : oi.dst = N) (hc : Nw md ops l l' i = true)
    (hQ : ∀ c a w, Q (.panic c) (a.put oi.dst v) w → Q (.panic c) a w) (hy : Yields P ops oi v a) {a' : Act} (ha : a.put N v = a')
    (h : dh P md ops Q S ds fuel l' a' w) : dh P md ops Q S ds (fuel + 1) l a w := by
  subst ha
  subst hN
  simp only [Nw, Bool.and_eq_true, beq_iff_eq] at hc
  obtain ⟨⟨⟨h1, h2⟩, h3⟩, h6⟩ := hc
  subst h6
  exact yL hi (Region.noSelect_spec h1) hQ fuel l a w (Region.free_spec hi h2) (by simpa using h3) hy h
def AY (md : Region.Mode) (ops : Array Oper) (l l' : Array Bool) (i : Nat) : Bool := (Region.ready md ops l == [i]) && (l.setIfInBounds i true == l')
theorem Tk {i : Nat} {N : Option Tmp} {oi : Oper} {fuel : Nat} {l : Array Bool} {a : Act} {w : World} (l' : Array Bool) (hi : ops[i]? = some oi) (hN : oi.dst = N) (hc : AY md ops l l' i = true) (hd : i ∉ ds)
    (h : ∀ K : Act → World → Prop, Shut (∀ a' w', S w' → (S w' → dh P md ops Q S ds fuel l' a' w') → K a' w') → if Region.wanted oi (yielded ops a.tmps) = true then Oper.wp P oi a w K Q else K (a.put N undef) w) :
    dh P md ops Q S ds (fuel + 1) l a w := by
  subst hN
  simp only [AY, Bool.and_eq_true, beq_iff_eq] at hc
  obtain ⟨h1, h2⟩ := hc
  subst h2
  exact vC h1 (by simp) (jQ.cons hi hd (fun K hK => h K hK) jQ.nil)
theorem Qq {l : Array Bool} {a : Act} {w : World} {n : Nat} (hr : (Region.ready md ops l == []) = true) (h : Q .normal a w) : dh P md ops Q S ds n l a w := xw (by simpa using hr) h n
theorem Qr {fuel : Nat} {l : Array Bool} {a a' : Act} {w : World} (ha : a = a') (h : dh P md ops Q S ds fuel l a' w) : dh P md ops Q S ds fuel l a w := by
  subst ha
  exact h
theorem Ny {f : FuncId} {fn : Func} (hf : P.funcs[f]? = some fn) (hname : (fn.name == "runtime.NumGoroutine") = false) (hb : fn.body.isSome = true) (args : Array Value) (w : World) : (callFunc f args).run P w = .ok (.enter f args) w := by
  have h1 : fn.name ≠ "runtime.NumGoroutine" := by simpa using hname
  obtain ⟨c, hc⟩ := Option.isSome_iff_exists.1 hb
  simp [callFunc, hf, h1, hc]
theorem bP {rest : List Oper} {oi : Oper} {a : Act} {w : World} (N : Option Tmp) (hd : oi.dst = N) (hg : oi.guard = none) {f : FuncId} {fn : Func} {ZZ9 : Array Operand} {ts : Array TypeId} (hf : P.funcs[f]? = some fn) (hname : (fn.name == "runtime.NumGoroutine") = false) (hb : fn.body.isSome = true) (args : Array Value)
    (hop : oi.op = .call { callee := .value (.func f), args := ZZ9, argTypes := ts }) (hargs : ZZ9.map a.eval = args)
    (h : Calls P f args w fun e w' => ∃ v, e = .returned v ∧ wpList P ops Q rest (a.put N v) w') : wpList P ops Q (oi :: rest) a w := by
  refine wpList_plain hg fun K hK => ?_
  have he := Ny hf hname hb args w
  have hrun : (execOp a.eval oi).run P w = .ok (.enter f args) w := by
    unfold execOp
    simp [hop, resolve, Deferred.ofValue, invoke, Act.eval, hargs, he]
  unfold Oper.wp
  rw [hrun, Oper.upon_enter]
  refine h.mono fun e w'' hh => ?_
  obtain ⟨v, rfl, hk⟩ := hh
  subst hd
  exact hK _ _ hk
theorem Tm {oi : Oper} {N : Option Tmp} {a : Act} {w w1 : World} {v : Value} {K : Act → World → Prop} (hw : Region.wanted oi (yielded ops a.tmps) = true) (hN : oi.dst = N) (hrun : (execOp a.eval oi).run P w = .ok (.value v) w1)
    (h : K (a.put N v) w1) : if Region.wanted oi (yielded ops a.tmps) = true then Oper.wp P oi a w K Q else K (a.put N undef) w := by
  rw [if_pos hw]
  subst hN
  unfold Oper.wp
  rw [hrun]
  exact h
theorem XB {oi : Oper} {a : Act} {w w1 : World} {K : Act → World → Prop} (hw : Region.wanted oi (yielded ops a.tmps) = true) (hN : oi.dst = none) (hrun : (execOp a.eval oi).run P w = .ok .skip w1)
    (h : K a w1) : if Region.wanted oi (yielded ops a.tmps) = true then Oper.wp P oi a w K Q else K (a.put none undef) w := by
  rw [if_pos hw]
  unfold Oper.wp
  rw [hrun]
  show K (a.put oi.dst undef) w1
  rw [hN]
  exact h
theorem gM (n : Int) : IntKind.i64.wrap n = Go.RowKit.wrap64 n := by unfold Go.RowKit.wrap64; exact IntKind.wrap_i64 n
theorem gZ (n : Int) : IntKind.i32.wrap n = Go.RowKit.wrap32 n := by unfold Go.RowKit.wrap32; exact IntKind.wrap_i32 n
end
end Go.Proofs.YtdkkgecdhapfhaaW.dV
namespace Go.Proofs.YtdkkgecdhapfhaaW.bD
open Go.RowKit
namespace Kd
def tag {α : Type} (f : Nat → Nat) (d : Kd α) : Kd (α × Nat) where
  sz := d.sz
  E := d.E
  K := fun w x cs => d.K w x.1 cs
  M := fun w base ok x cs => d.M w base (fun k => ok k ∧ f k = x.2) x.1 cs
  nU := fun h => d.nU h
  oI := fun h => d.oI h
  lG := fun hb h => d.lG hb h
  jh := fun h => d.jh h
  jY := fun hok h => d.jY (fun k hk => ⟨hok k hk.1, hk.2⟩) h
  jZ := fun h => d.jY (fun _ hk => ⟨⟨hk.1.1, hk.2⟩, hk.1.2⟩) (d.jZ h)
  lX := fun hm h => d.lX (fun k hk => hm k hk.1) h
  lH := fun hb h => d.lH hb h
def raw (sz : Nat) : Kd (List Value) where
  sz := sz
  E := []
  K := fun _ x cs => cs = x ∧ cs.length = sz ∧ ∀ u ∈ cs, u.oneCell' = true
  M := fun _ _ _ x cs => cs = x ∧ cs.length = sz ∧ ∀ u ∈ cs, u.oneCell' = true
  nU := fun h => h.2.1
  oI := fun h => h.2.2
  lG := fun _ h => h
  jh := fun h => h
  jY := fun _ h => h
  jZ := fun h => h
  lX := fun _ h => h
  lH := fun _ h => h
def S {α : Type} (d : Kd α) (e : Nat) (w : World) (base : Nat) (ok : Nat → Prop) (v : Value) (xs : List α) : Prop := ∃ f, (tag f d).R e w base ok v xs.zipIdx
section
variable {α β : Type} {d : Kd α} {d' : Kd β} {e e' : Nat} {w w1 W : World} {base b : Nat} {ok ok' okv oku : Nat → Prop} {u v : Value} {xs : List α} {ys : List β}
theorem kR (d : Kd α) (e : Nat) (w : World) (base : Nat) (ok : Nat → Prop) : S d e w base ok (.slice none 0 0) [] := ⟨fun _ => 0, jB _ _ _ _ _⟩
end
section
variable {α β : Type} {d : Kd α} {d' : Kd β} {e e' g : Nat} {w w1 W : World} {base b : Nat} {ok ok' okv oku : Nat → Prop} {u v : Value} {xs : List α} {ys : List β}
end
section
open Classical in
variable {P : Program} {ops : Array Oper} {rest : List Oper} {o : Oper} {a : Act} {Q : Exit → Act → World → Prop} {Kc : Act → World → Prop} {α : Type}
end
def gap {α : Type} (f : Nat → Nat) (d : Kd α) (i : Nat) (c : List Value) : Kd (α × Nat) where
  sz := d.sz
  E := d.E
  K := fun w x cs => (x.2 = i → cs = c ∧ cs.length = d.sz ∧ ∀ u ∈ cs, u.oneCell' = true) ∧ (x.2 ≠ i → d.K w x.1 cs)
  M := fun w base ok x cs => (x.2 = i → cs = c ∧ cs.length = d.sz ∧ ∀ u ∈ cs, u.oneCell' = true) ∧ (x.2 ≠ i → d.M w base (fun k => ok k ∧ f k = x.2) x.1 cs)
  nU := fun {w x cs} h => by
    by_cases hx : x.2 = i
    · exact (h.1 hx).2.1
    · exact d.nU (h.2 hx)
  oI := fun {w x cs} h => by
    by_cases hx : x.2 = i
    · exact (h.1 hx).2.2
    · exact d.oI (h.2 hx)
  lG := fun hb h => ⟨h.1, fun hx => d.lG hb (h.2 hx)⟩
  jh := fun h => ⟨h.1, fun hx => d.jh (h.2 hx)⟩
  jY := fun hok h => ⟨h.1, fun hx => d.jY (fun k hk => ⟨hok k hk.1, hk.2⟩) (h.2 hx)⟩
  jZ := fun h => ⟨h.1, fun hx => d.jY (fun _ hk => ⟨⟨hk.1.1, hk.2⟩, hk.1.2⟩) (d.jZ (h.2 hx))⟩
  lX := fun hm h => ⟨h.1, fun hx => d.lX (fun k hk => hm k hk.1) (h.2 hx)⟩
  lH := fun hb h => ⟨h.1, fun hx => d.lH hb (h.2 hx)⟩
def H {α : Type} (d : Kd α) (e : Nat) (w : World) (base : Nat) (ok : Nat → Prop) (v : Value) (xs : List α) (i : Int) (XC : Nat → Prop) (c : List Value) : Prop :=
  (∀ k, XC k → ok k) ∧ ∃ f, (gap f d i.toNat c).R e w base (fun k => ok k ∧ ¬ XC k) v xs.zipIdx
section
variable {α β : Type} {d : Kd α} {e e' g n cap : Nat} {w w1 W : World} {base : Nat} {ok ok' XC H6 : Nat → Prop} {u v : Value} {xs : List α} {i : Int} {c : List Value}
open Classical in
end
section
variable {P : Program} {ops : Array Oper} {rest : List Oper} {o : Oper} {a : Act} {Q : Exit → Act → World → Prop} {α : Type}
end
end Kd
end Go.Proofs.YtdkkgecdhapfhaaW.bD
namespace Go.Proofs.YtdkkgecdhapfhaaW.bD
open Go.RowKit
namespace Kd
structure Heap {α : Type} (d : Kd α) : Prop where
  K : ∀ {w w1 : World} {x : α} {cs : List Value}, (∀ k, k < w.heap.size → w1.heap[k]? = w.heap[k]?) → d.K w x cs → d.K w1 x cs
theorem H9 {w w1 : World} (hb : ∀ k, k < w.heap.size → w1.heap[k]? = w.heap[k]?) {a : Addr} {v : Value} (h : w.cell? a = some v) : w1.cell? a = some v := by
  have := hb a.block (World.block_lt_of_cell? w a h)
  simpa [World.cell?, this] using h
theorem Heap.C {α : Type} {d : Kd α} (hd : Heap d) {w w1 : World} {A : Option Addr} {n : Nat} {xs : List α} (hb : ∀ k, k < w.heap.size → w1.heap[k]? = w.heap[k]?) (h : d.C w A n xs) : d.C w1 A n xs :=
  ⟨h.1, h.2.1, fun hn => by
    obtain ⟨ad, e, hc⟩ := h.2.2 hn
    refine ⟨ad, e, fun j p hj => ?_⟩
    obtain ⟨c, hs, hr, hcell⟩ := hc j p hj
    exact ⟨c, hs, hd.K hb hr, fun i u hu => H9 hb (hcell i u hu)⟩⟩
section
variable {α : Type} {d : Kd α} {e base g n c : Nat} {ok : Nat → Prop} {w w0 W : World} {A : Option Addr} {xs : List α}
end
end Kd
end Go.Proofs.YtdkkgecdhapfhaaW.bD
namespace Go.Proofs.YtdkkgecdhapfhaaW.bD
open Go.RowKit
def Kept (w W : World) (S : Nat → Prop) : Prop := w.heap.size ≤ W.heap.size ∧ ∀ i, i < w.heap.size → ¬ S i → W.heap[i]? = w.heap[i]?
section
variable {w W W2 : World} {S S2 S' : Nat → Prop}
theorem Kept.refl (w : World) (S : Nat → Prop) : Kept w w S := ⟨Nat.le_refl _, fun _ _ _ => rfl⟩
theorem Kept.of_below (h : Below w.heap.size w W) (S : Nat → Prop) : Kept w W S := ⟨h.size, fun i hi _ => h.block i hi⟩
theorem Kept.mono (h : Kept w W S) (hs : ∀ k, S k → S' k) : Kept w W S' := ⟨h.1, fun i hi hn => h.2 i hi (fun hk => hn (hs i hk))⟩
theorem Kept.then_ (h : Kept w W S) (k : Kept W W2 S2) (hs : ∀ k, S2 k → S k ∨ w.heap.size ≤ k) : Kept w W2 S :=
  ⟨Nat.le_trans h.1 k.1, fun i hi hn => (k.2 i (Nat.lt_of_lt_of_le hi h.1) (fun h2 => (hs i h2).elim hn (fun h3 => by omega))).trans (h.2 i hi hn)⟩
theorem Kept.below (h : Kept w W S) (hb : Below W.heap.size W W2) : Kept w W2 S := h.then_ (Kept.of_below hb (fun _ => False)) (fun _ hk => hk.elim)
theorem Kept.alloc (h : Kept w W S) (o : Obj) : Kept w (W.alloc o) S := h.below (ak (Below.refl _ _) o)
theorem Kept.drew (h : Kept w W S) : Kept w W.drew S := h
theorem Kept.drewN (h : Kept w W S) (m : Nat) : Kept w (W.drewN m) S := h
theorem Kept.setCell (h : Kept w W S) {p : Addr} (hp : S p.block ∨ w.heap.size ≤ p.block) (u : Value) : Kept w (W.setCell p u) S :=
  h.then_ (S2 := fun k => k = p.block) ⟨by simp [World.setCell], fun i _ hn => Below.heap_setCell W p u i hn⟩ (fun k hk => by rw [hk]; exact hp)
theorem Kept.keep {g : Nat} (h : gU w W g none) (k : Kept W W2 S2) (hs : ∀ k, S2 k → w.heap.size ≤ k) : gU w W2 g none :=
  ⟨Nat.le_trans h.1 k.1, fun i hi hg hr => (k.2 i (Nat.lt_of_lt_of_le hi h.1) (fun h2 => by have := hs i h2; omega)).trans (h.2 i hi hg hr)⟩
end
namespace Kd
section
variable {α : Type} {d : Kd α} {e base n c : Nat} {ok XC S S2 : Nat → Prop} {w w0 W W1 W2 : World} {v : Value} {A : Option Addr} {xs : List α} {i : Int} {cs : List Value}
end
end Kd
end Go.Proofs.YtdkkgecdhapfhaaW.bD
namespace Go.Proofs.YtdkkgecdhapfhaaW.bD
open Go.RowKit
def qU (P : World → Prop) (W : World) (ok : Nat → Prop) : Prop := ∀ W' : World, (∀ k, ok k → k < W.heap.size → W'.heap[k]? = W.heap[k]?) → P W'
theorem Nz {W W1 : World} {k : Nat} (h : W1.heap[k]? = W.heap[k]?) (hlt : k < W.heap.size) : k < W1.heap.size := by
  rw [Array.getElem?_eq_getElem hlt] at h
  exact (Array.getElem?_eq_some_iff.1 h).1
namespace qU
variable {P Q : World → Prop} {W W1 : World} {ok ok' : Nat → Prop}
theorem now (h : qU P W ok) : P W := h W (fun _ _ _ => rfl)
theorem mono (h : qU P W ok) (hok : ∀ k, ok k → ok' k) : qU P W ok' := fun W' hW => h W' (fun k hk hlt => hW k (hok k hk) hlt)
theorem bound (h : qU P W ok) : qU P W (fun k => ok k ∧ k < W.heap.size) := fun W' hW => h W' (fun k hk hlt => hW k ⟨hk, hlt⟩ hlt)
theorem step (h : qU P W ok) (hm : ∀ k, ok k → k < W.heap.size → W1.heap[k]? = W.heap[k]?) : qU P W1 ok := fun W' hW => h W' (fun k hk hlt => (hW k hk (Nz (hm k hk hlt) hlt)).trans (hm k hk hlt))
theorem imp (h : qU P W ok) (hi : ∀ W', P W' → Q W') : qU Q W ok := fun W' hW => hi W' (h W' hW)
theorem old (h : qU P W ok) (hb : Below W.heap.size W W1) : qU P W1 (fun k => ok k ∧ k < W.heap.size) := (h.bound).step (fun k _ hlt => hb.block k hlt)
end qU
namespace Kd
def F {α : Type} (d : Kd α) (W : World) (ok : Nat → Prop) (A : Option Addr) (n : Nat) (xs : List α) : Prop := qU (fun W => d.C W A n xs) W ok
def FK {α : Type} (d : Kd α) (W : World) (ok : Nat → Prop) (x : α) (c : List Value) : Prop := qU (fun W => d.K W x c) W ok
section
variable {α β : Type} {d : Kd α} {e base n n' cc g N : Nat} {ok ok' H6 S : Nat → Prop} {w w0 w1 W W1 : World} {A A' : Option Addr} {u v v1 : Value} {xs : List α} {xs' : List β} {d' : Kd β} {x : α} {c : List Value}
theorem XD (d : Kd α) (W : World) (ok : Nat → Prop) : F d W ok none ([] : List α).length [] := fun W' _ => Xx d W'
theorem NA (h : d.M W base ok x c) : FK d W ok x c := fun _ hW => d.jh (Te h hW)
end
end Kd
end Go.Proofs.YtdkkgecdhapfhaaW.bD
namespace Go.Proofs.YtdkkgecdhapfhaaW.bD
open Go.RowKit
namespace Kd
def chunks (sz : Nat) (n : Nat) (inner : List Value) : List (List Value) := (List.range n).map fun j => (inner.drop (j * sz)).take sz
theorem jJ (sz n : Nat) (inner : List Value) : (chunks sz n inner).length = n := by simp [chunks]
theorem Ia {sz n : Nat} {inner : List Value} {j : Nat} (hj : j < n) : (chunks sz n inner)[j]? = some ((inner.drop (j * sz)).take sz) := by simp [chunks, hj]
theorem xB {sz n : Nat} {inner : List Value} {j : Nat} {c : List Value} (h : (chunks sz n inner)[j]? = some c) : c = (inner.drop (j * sz)).take sz := by
  have hj : j < n := by have := (List.getElem?_eq_some_iff.1 h).1; rwa [jJ] at this
  rw [Ia hj] at h
  injection h with h
  exact h.symm
theorem KI {α : Type} {Rr : α → List Value → Prop} {sz : Nat} {xs : List α} {inner : List Value} (h : fO Rr sz xs inner) (hR : ∀ x c, Rr x c → c.length = sz ∧ ∀ u ∈ c, u.oneCell' = true) : fO (fun x cs => cs = x ∧ cs.length = sz ∧ ∀ u ∈ cs, u.oneCell' = true) sz (chunks sz xs.length inner) inner := by
  refine ⟨by rw [jJ]; exact h.1, fun j p hj => ?_⟩
  have hjl : j < xs.length := by have := (List.getElem?_eq_some_iff.1 hj).1; rwa [jJ] at this
  have hp := xB hj
  exact ⟨hp.symm, hR _ _ (h.2 j _ (List.getElem?_eq_getElem hjl))⟩
section
variable {α : Type} {d : Kd α} {e base n cc g : Nat} {ok ok' H6 S : Nat → Prop} {w w1 W W1 : World} {A : Option Addr} {u v v1 : Value} {xs : List α} {x : α} {c : List Value}
def N {α : Type} (d : Kd α) (e : Nat) (w : World) (base : Nat) (ok : Nat → Prop) (v : Value) (xs : List α) : Prop :=
  (∀ k, v.ownBlock = some k → ok k) ∧ ∃ rows : List (List Value), rows.length = xs.length ∧ (raw d.sz).R e w base (fun k => some k = v.ownBlock) v rows ∧ ∀ (j : Nat) (x : α) (c : List Value), xs[j]? = some x → rows[j]? = some c → FK d w (fun k => ok k ∧ some k ≠ v.ownBlock) x c
theorem R_N (h : d.R e w base ok v xs) : N d e w base ok v xs := by
  obtain ⟨h0, inner, ho, hr⟩ := h
  refine ⟨h0, chunks d.sz xs.length inner, jJ _ _ _, ⟨fun k hk => hk.symm, inner, by rw [jJ]; exact ho, KI hr (fun x c hp => ⟨d.nU (d.jh hp), d.oI (d.jh hp)⟩)⟩, fun j x c hx hc => ?_⟩
  rw [xB hc]
  exact NA (hr.2 j x hx)
theorem kS (d : Kd α) (e : Nat) (w : World) (base : Nat) (ok : Nat → Prop) : N d e w base ok (.slice none 0 0) [] := R_N (jB _ _ _ _ _)
end
end Kd
end Go.Proofs.YtdkkgecdhapfhaaW.bD
namespace Go.Proofs.YtdkkgecdhapfhaaW.eD
open Go.RowKit Go.Proofs.YtdkkgecdhapfhaaW.bD
namespace Kd
open Go.Proofs.YtdkkgecdhapfhaaW.bD.Kd
end Kd
namespace Kd
open Go.Proofs.YtdkkgecdhapfhaaW.bD.Kd
section
variable {α : Type} {d : Kd α} {e base g N : Nat} {ok : Nat → Prop} {W w1 : World} {u v : Value} {xs : List α}
end
end Kd
theorem ji (k k' : IntKind) (x y : Int) : Builtin.max2 (.int k x) (.int k' y) = pure (.int k (if x < y then y else x)) := by simp only [Builtin.max2, gt_iff_lt]
theorem jk (k k' : IntKind) (x y : Int) : Builtin.min2 (.int k x) (.int k' y) = pure (.int k (if y < x then y else x)) := by simp only [Builtin.min2]
theorem j4 (ats : Array TypeId) (ty : TypeId) (a b : Value) : Builtin.max_ ats ty #[a, b] = (Builtin.max2 a b >>= fun s => pure s) := by simp only [Builtin.max_, List.foldlM_cons, List.foldlM_nil]
theorem j5 (ats : Array TypeId) (ty : TypeId) (a b : Value) : Builtin.min_ ats ty #[a, b] = (Builtin.min2 a b >>= fun s => pure s) := by simp only [Builtin.min_, List.foldlM_cons, List.foldlM_nil]
theorem iA (ats : Array TypeId) (ty : TypeId) (a b c : Value) : Builtin.max_ ats ty #[a, b, c] = (Builtin.max2 a b >>= fun s => Builtin.max2 s c >>= fun s => pure s) := by simp only [Builtin.max_, List.foldlM_cons, List.foldlM_nil]
theorem iB (ats : Array TypeId) (ty : TypeId) (a b c : Value) : Builtin.min_ ats ty #[a, b, c] = (Builtin.min2 a b >>= fun s => Builtin.min2 s c >>= fun s => pure s) := by simp only [Builtin.min_, List.foldlM_cons, List.foldlM_nil]
theorem jl (ats : Array TypeId) (ty : TypeId) (a b c d : Value) : Builtin.max_ ats ty #[a, b, c, d] = (Builtin.max2 a b >>= fun s => Builtin.max2 s c >>= fun s => Builtin.max2 s d >>= fun s => pure s) := by simp only [Builtin.max_, List.foldlM_cons, List.foldlM_nil]
theorem jm (ats : Array TypeId) (ty : TypeId) (a b c d : Value) : Builtin.min_ ats ty #[a, b, c, d] = (Builtin.min2 a b >>= fun s => Builtin.min2 s c >>= fun s => Builtin.min2 s d >>= fun s => pure s) := by simp only [Builtin.min_, List.foldlM_cons, List.foldlM_nil]
end Go.Proofs.YtdkkgecdhapfhaaW.eD
namespace Go.Proofs.YtdkkgecdhapfhaaW.bD
open Go.RowKit
section
variable {P : Program} {ops : Array Oper} {rest : List Oper} {o : Oper} {a : Act} {Q : Exit → Act → World → Prop} {W : World}
theorem aQ {f : FuncId} {ZZ9 : Array Operand} {ts : Array TypeId} (_ho : o.op = .call { callee := .value (.func f), args := ZZ9, argTypes := ts }) (h : wpList P ops Q (o :: rest) a W) : wpList P ops Q (o :: rest) a W := h
theorem nN {b : Builtin} {xs : Array Operand} {ts : Array TypeId} (_ho : o.op = .call { callee := .builtin b, args := xs, argTypes := ts }) (h : wpList P ops Q (o :: rest) a W) : wpList P ops Q (o :: rest) a W := h
end
def mx (a b : Int) : Int := if a < b then b else a
def mn (a b : Int) : Int := if b < a then b else a
def shl (k : IntKind) (x y : Int) : Int := k.wrap (x * 2 ^ min y.toNat k.bits)
def shr (k : IntKind) (x y : Int) : Int := x / 2 ^ min y.toNat k.bits
namespace Kd
section
variable {α : Type} {d : Kd α} {e base : Nat} {ok : Nat → Prop} {W w1 : World} {v : Value} {xs : List α}
end
section
variable {α : Type} {d : Kd α} {e base g n cap : Nat} {ok XC H6 : Nat → Prop} {W : World} {xs : List α} {i : Int} {c : List Value}
end
section
variable {α : Type} {d : Kd α} {e base b b' g N : Nat} {ok ok1 : Nat → Prop} {W W2 w1 : World} {u v : Value} {xs ys : List α} {S : Nat → Prop}
end
end Kd
end Go.Proofs.YtdkkgecdhapfhaaW.bD
namespace Go.Proofs.YtdkkgecdhapfhaaW.bD
open Go.RowKit
namespace Kd
def V {α : Type} (d : Kd α) (_e : Nat) (W : World) (_base : Nat) (ok : Nat → Prop) (v : Value) (xs : List α) : Prop := ∃ A c, v = .slice A xs.length c ∧ xs.length ≤ c ∧ F d W ok A xs.length xs
section
variable {α β : Type} {d : Kd α} {e base base' n m c g N' lo hi : Nat} {ok ok' S : Nat → Prop} {w W w1 : World} {A : Option Addr} {ad : Addr} {u v v1 : Value} {xs : List α}
theorem bY (h : V d e W base ok v xs) (hF : ∀ A, F d W ok A xs.length xs → F d w1 ok' A xs.length xs) : V d e w1 base' ok' v xs := by
  obtain ⟨A, c, hv, hl, hf⟩ := h
  exact ⟨A, c, hv, hl, hF A hf⟩
theorem kT (d : Kd α) (e : Nat) (W : World) (base : Nat) (ok : Nat → Prop) : V d e W base ok (.slice none 0 0) [] := ⟨none, 0, rfl, Nat.le_refl _, XD d W ok⟩
end
end Kd
end Go.Proofs.YtdkkgecdhapfhaaW.bD
namespace Go.Proofs.Ytdkkgecdhapfhaa.B
open Go.RowKit Go.Proofs.YtdkkgecdhapfhaaW.bD
theorem dO {n : Int} (h0 : -9223372036854775808 ≤ n) (h1 : n ≤ 9223372036854775807) : wrap64 n = n := by unfold wrap64; omega
theorem toList_inj {s t : ByteArray} : s.toList = t.toList ↔ s = t := by
  constructor
  · intro h
    rw [Lib.toList_data, Lib.toList_data] at h
    exact ByteArray.ext (Array.toList_inj.mp h)
  · rintro rfl; rfl
theorem toList_nil {s : ByteArray} : s.toList = ([] : List UInt8) ↔ s.size = 0 := by
  rw [Lib.toList_data]
  constructor
  · intro h
    show s.data.size = 0
    rw [← Array.length_toList, h]; rfl
  · intro h
    have h' : s.data.size = 0 := h
    rw [← Array.length_toList] at h'
    exact List.eq_nil_of_length_eq_zero h'
theorem eq_empty {s : ByteArray} (h : s.size = 0) : s = ⟨#[]⟩ := toList_inj.mp ((toList_nil.mpr h).trans (toList_nil.mpr rfl).symm)
theorem nO (s : ByteArray) (i : Int) : bt s i = ((s.data.toList[i.toNat]?.getD 0).toNat : Int) := by
  unfold bt
  by_cases h : i.toNat < s.size
  · rw [dif_pos h]
    have h' : i.toNat < s.data.toList.length := by rw [Array.length_toList]; exact h
    rw [List.getElem?_eq_getElem h']
    rfl
  · rw [dif_neg h]
    have h' : ¬ i.toNat < s.data.toList.length := by rw [Array.length_toList]; exact h
    rw [List.getElem?_eq_none (by omega)]
    rfl
theorem xC {a b : ByteArray} {i : Int} (h0 : 0 ≤ i) (h : i < (a.size : Int)) : bt (a ++ b) i = bt a i := by
  rw [nO, nO, ByteArray.data_append, Array.toList_append, List.getElem?_append_left]
  rw [Array.length_toList]; show i.toNat < a.size; omega
theorem lY {s : ByteArray} {a b : Nat} {j : Int} (hj : 0 ≤ j) (h : j < ((s.extract a b).size : Int)) : bt (s.extract a b) j = bt s (a + j) := by
  have h' := h
  simp only [ByteArray.size_extract] at h'
  rw [nO, nO, Lib.extract_data, List.getElem?_take, if_pos (by omega), List.getElem?_drop]
  rw [show a + j.toNat = ((a : Int) + j).toNat from by omega]
theorem EN {s t : ByteArray} (hz : s.size = t.size) (h : ∀ i : Int, 0 ≤ i → i < (s.size : Int) → bt s i = bt t i) : s = t := by
  have es : s.data.toList.length = s.size := by rw [Array.length_toList]; rfl
  have et : t.data.toList.length = t.size := by rw [Array.length_toList]; rfl
  refine ByteArray.ext (Array.toList_inj.mp (List.ext_getElem (by omega) fun i h1 h2 => ?_))
  have := h i (by omega) (by omega)
  rw [nO, nO] at this
  have e : ((i : Int)).toNat = i := by omega
  rw [e, List.getElem?_eq_getElem h1, List.getElem?_eq_getElem h2] at this
  exact UInt8.toNat_inj.mp (Int.ofNat.inj this)
theorem NC (xs : List Int) (i : Int) (h : ∀ x ∈ xs, 0 ≤ x ∧ x ≤ 255) : bt (strOfNums xs) i = xs[i.toNat]?.getD 0 := by
  rw [nO, strOfNums_data, List.getElem?_map]
  by_cases hi : i.toNat < xs.length
  · rw [List.getElem?_eq_getElem hi]
    have := h _ (List.getElem_mem hi)
    simp [UInt8.toNat_ofNat']
    omega
  · rw [List.getElem?_eq_none (by omega)]
    rfl
theorem sP (a b : ByteArray) : (a ++ b).extract a.size (a ++ b).size = b := by
  rw [ByteArray.extract_append]
  have e : a.extract a.size (a ++ b).size = ⟨#[]⟩ := eq_empty (by simp only [ByteArray.size_extract]; omega)
  rw [e, ByteArray.size_append, show a.size - a.size = 0 from by omega, show a.size + b.size - a.size = b.size from by omega, ByteArray.extract_zero_size]
  exact ByteArray.ext (by rw [ByteArray.data_append]; simp)
theorem empty_append (s : ByteArray) : (⟨#[]⟩ : ByteArray) ++ s = s := by
  refine ByteArray.ext ?_
  rw [ByteArray.data_append]; simp
theorem append_empty (s : ByteArray) : s ++ (⟨#[]⟩ : ByteArray) = s := by
  refine ByteArray.ext ?_
  rw [ByteArray.data_append]; simp
theorem Dh : (⟨#[]⟩ : ByteArray).size = 0 := rfl
theorem size_ext {s : ByteArray} {i n : Int} (h0 : 0 ≤ i) (hn : 0 ≤ n) (hs : i + n ≤ (s.size : Int)) : ((s.extract i.toNat (i + n).toNat).size : Int) = n := by
  simp only [ByteArray.size_extract]; omega
theorem KJ {s : ByteArray} {i n j : Int} (h0 : 0 ≤ i) (hj : 0 ≤ j) (hn : j < n) (hs : i + n ≤ (s.size : Int)) : bt (s.extract i.toNat (i + n).toNat) j = bt s (i + j) := by
  rw [lY hj (by rw [size_ext h0 (by omega) hs]; exact hn)]
  congr 1
  omega
theorem aV (a b : Bool) : (a == !b) = (a != b) := by cases a <;> cases b <;> rfl
theorem aW (a b : Bool) : (a != !b) = (a == b) := by cases a <;> cases b <;> rfl
section
open Go
variable {P : Program} {d c j : Nat} {e : TypeId} {xs ys : Array Value} {js : List Nat} {a b : Value} {r s : Bool} {w : World}
theorem KL (ha : (part e xs (j * c)).run P w = .ok a w) (hb : (part e ys (j * c)).run P w = .ok b w) (he : (Op.equalIn d e a b).run P w = .ok r w) : (Op.eqItems d e c xs ys [j]).run P w = .ok r w := by
  simp only [Op.eqItems, Sem.run_bind, ha, hb, he, Result.andThen_ok]
  cases r <;> simp
theorem Di (ha : (part e xs (j * c)).run P w = .ok a w) (hb : (part e ys (j * c)).run P w = .ok b w) (he : (Op.equalIn d e a b).run P w = .ok r w) (hr : (Op.eqItems d e c xs ys js).run P w = .ok s w) : (Op.eqItems d e c xs ys (j :: js)).run P w = .ok (r && s) w := by
  rw [Op.eqItems]
  simp only [Sem.run_bind, ha, hb, he, Result.andThen_ok]
  cases r
  · simp
  · simpa using hr
theorem KM {t : TypeId} {n : Nat} (hu : P.underlying t = some (.array n e)) (hi : (P.info? e).isSome = true) (hc : P.cellsOf e = 1) (h : (Op.eqItems d e 1 xs ys (List.range n)).run P w = .ok r w) : (Op.equalIn (d + 1) t (.agg xs) (.agg ys)).run P w = .ok r w := by
  obtain ⟨i, hi⟩ := Option.isSome_iff_exists.mp hi
  rw [run_equalIn_array (P := P) w d xs ys hu hi, hc]
  exact h
end
end Go.Proofs.Ytdkkgecdhapfhaa.B
namespace Go.Proofs.Ytdkkgecdhapfhaa.B
open Go.RowKit Go.Proofs.YtdkkgecdhapfhaaW.bD
def uU (w : World) (g : Nat) (xs : List Int) : Prop := ∀ j, j < xs.length → w.cell? ⟨g, j, none⟩ = some (.int .u8 (xs.getD j 0)) ∧ w.frozen? ⟨g, j, none⟩ = false
def iI (c : Int) : Int := if 65 ≤ c ∧ c ≤ 90 then c + 32 else c
def numsOf (s : ByteArray) : List Int := s.data.toList.map fun b => (b.toNat : Int)
theorem numsOf_length (s : ByteArray) : (numsOf s).length = s.size := by simp [numsOf]
theorem numsOf_at (s : ByteArray) (j : Nat) : (numsOf s).getD j 0 = bt s j := by
  rw [nO, numsOf, List.getD_eq_getElem?_getD, List.getElem?_map]
  rw [show ((j : Int)).toNat = j from by omega]
  cases s.data.toList[j]? <;> rfl
def nX (s : ByteArray) : ByteArray := strOfNums ((numsOf s).map iI)
def iO (k : Nat) (xs : List Int) : List Int := (xs.take k).map iI ++ xs.drop k
theorem gJ (k : Nat) (xs : List Int) : (iO k xs).length = xs.length := by simp [iO]; omega
theorem xD (xs : List Int) : iO 0 xs = xs := by simp [iO]
theorem zx (xs : List Int) : iO xs.length xs = xs.map iI := by simp [iO]
theorem Dj (k : Nat) (xs : List Int) (h : k < xs.length) : (iO k xs).getD k 0 = xs.getD k 0 := by
  simp only [iO, List.getD_eq_getElem?_getD]
  rw [List.getElem?_append_right (by simp; omega)]
  simp only [List.length_map, List.length_take, List.getElem?_drop]
  congr 2
  omega
theorem uy (k : Nat) (xs : List Int) (h : k < xs.length) : (iO k xs).set k (iI (xs.getD k 0)) = iO (k + 1) xs := by
  apply List.ext_getElem?
  intro i
  rw [List.getElem?_set]
  have hl := gJ k xs
  by_cases e : k = i
  · subst e
    rw [if_pos rfl, if_pos (by omega)]
    simp only [iO]
    rw [List.getElem?_append_left (by simp; omega), List.getElem?_map, List.getElem?_take, if_pos (by omega), List.getD_eq_getElem?_getD, List.getElem?_eq_getElem h]
    rfl
  · rw [if_neg e]
    simp only [iO]
    by_cases h2 : i < k
    · rw [List.getElem?_append_left (by simp; omega), List.getElem?_append_left (by simp; omega), List.getElem?_map, List.getElem?_map, List.getElem?_take, List.getElem?_take, if_pos h2, if_pos (by omega)]
    · by_cases h3 : i < xs.length
      · rw [List.getElem?_append_right (by simp; omega), List.getElem?_append_right (by simp; omega), List.getElem?_drop, List.getElem?_drop]
        congr 1
        simp only [List.length_map, List.length_take]
        omega
      · rw [List.getElem?_eq_none (by simp; omega), List.getElem?_eq_none (by simp; omega)]
theorem zy (s : ByteArray) (k : Nat) : 0 ≤ bt s k ∧ bt s k ≤ 255 := gq s k
theorem xE (w : World) (e : TypeId) (s : ByteArray) : uU (Lib.bytesWorld w e s) w.heap.size (numsOf s) := by
  intro j hj
  rw [numsOf_length] at hj
  refine ⟨?_, ?_⟩
  · rw [Lib.bytesWorld_cell w e s j hj, numsOf_at, nO, List.getD_eq_getElem?_getD]
    rfl
  · have hlt : j < (Lib.bytesCells w e s).size := by
      have : s.size ≤ (Lib.bytesCells w e s).size := by simp [Lib.bytesCells]
      omega
    simp [World.frozen?, Lib.bytesWorld_at_new]
    omega
theorem rowAt_set {w : World} {g : Nat} {xs : List Int} (h : uU w g xs) (k : Nat) (v : Int) (hk : k < xs.length) : uU (w.setCell ⟨g, k, none⟩ (.int .u8 v)) g (xs.set k v) := by
  intro j hj
  rw [List.length_set] at hj
  obtain ⟨h1, h2⟩ := h j hj
  refine ⟨?_, by rw [World.frozen?_setCell]; exact h2⟩
  by_cases e : j = k
  · subst e
    rw [World.cell?_setCell_same w _ _ h1]
    simp [List.getD_eq_getElem?_getD, hj]
  · rw [World.cell?_setCell_other w _ _ _ (by intro hc; injection hc with _ h3 _; exact e h3.symm), h1]
    simp [List.getD_eq_getElem?_getD, List.getElem?_set, Ne.symm e]
theorem xG {B : Nat} {a w : World} (h : Below B a w) (hB : B ≤ w.heap.size) (e : TypeId) (s : ByteArray) : Below B a (Lib.bytesWorld w e s) :=
  ⟨h.os, h.tape, h.output, by rw [Lib.bytesWorld_size]; have := h.size; omega, fun k hk => (Lib.bytesWorld_at_old w e s k (by omega)).trans (h.block k hk)⟩
end Go.Proofs.Ytdkkgecdhapfhaa.B

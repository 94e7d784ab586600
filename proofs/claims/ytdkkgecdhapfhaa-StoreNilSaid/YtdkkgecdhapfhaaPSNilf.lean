/- A part of the proof of StoreNil: cut, joined and given short names by a program of this session (wip/tools/pack.py); Lean checks it. No condition. -/
import Derived.Test.YtdkkgecdhapfhaaPSNile
import Derived.LoopN
import Derived.Tactics
import Derived.Orders
import Derived.Scope
import Derived.Test.YtdkkgecdhapfhaaPSNild
set_option linter.unusedSectionVars false
set_option linter.unusedSimpArgs false
set_option linter.unusedVariables false
namespace Go.Proofs.Ytdkkgecdhapfhaa.Ev
open Go
section
variable {P : Program} {Γ : Env} {bI Fz bK : Nat → Prop} {w0 w w' : World} {bH bs VF : List Nat} {N : Fr} {d : Nat} {q : Bool} {κ eZ : Nat → Value} {σ σ1 σ' : St} {a : Act} {pv : PV} {o : Oper}
theorem rW (h : Rel bI w0 bH N Fz κ σ a w) : ∀ {xs : List Operand} {ys : List d9} {l : List CV}, Ad xs = some ys → iW σ ys = some l → dP Fz κ w l (xs.map a.eval)
  | [], ys, l, hx, hv => by cases hx; cases hv; trivial
  | x :: xs, ys, l, hx, hv => by
    obtain ⟨y, h1, h2⟩ := zbm hx
    obtain ⟨m, h3, rfl⟩ := zmm h2
    obtain ⟨v, h4, h5⟩ := zbm hv
    obtain ⟨n, h6, rfl⟩ := zmm h5
    exact ⟨h.eval h1 h4, rW h h3 h6⟩
theorem dP.Cn : ∀ {xs : List CV} {vs : List Value}, dP Fz κ w xs vs → ∃ jw, bA Fz κ w (xs.flatMap Ev.cells) jw ∧ ∀ (bK : Nat → Prop) (w' : World) eZ, bA bK eZ w' (xs.flatMap Ev.cells) jw → dP bK eZ w' xs vs
  | [], [], _ => ⟨[], trivial, fun _ _ _ _ => trivial⟩
  | x :: xs, v :: vs, h => by
    obtain ⟨jw, h1, h2⟩ := dP.Cn h.2
    refine ⟨Ev.Cn x v ++ jw, by rw [List.flatMap_cons]; exact h.1.Cn.app h1, fun F' w' eZ hr => ?_⟩
    rw [List.flatMap_cons] at hr
    obtain ⟨g1, g2⟩ := hr.Ay (by have := h.1.Cn.length; omega)
    exact ⟨fT.JH (fun ys hy => by have := h.1; rw [hy] at this; obtain ⟨cs, h, _⟩ := this; exact ⟨cs, h⟩) g1, h2 F' w' eZ g2⟩
  | [], _ :: _, h => h.elim
  | _ :: _, [], h => h.elim
theorem FJ {xs : List CV} {vs : List Value} (h : dP Fz κ w xs vs) : jq Fz κ w (G6 xs) (ret vs) := by
  match xs, vs, h with
  | [], [], h => exact ⟨_, rfl, h⟩
  | [x], [v], h => exact h.1
  | x :: y :: xs, v :: u :: vs, h => exact ⟨_, rfl, h⟩
theorem JK {gv : Bool} {xs : List CV} (h : xs.any (fun x => (Ev.cells x).any gu) = false) (b : Nat) : ¬ rU gv κ (xs.flatMap Ev.cells) b := by
  rintro ⟨_, k, n, hm, _⟩
  obtain ⟨x, hx, hm⟩ := List.mem_flatMap.mp hm
  have : xs.any (fun x => (Ev.cells x).any gu) = true := List.any_eq_true.mpr ⟨x, hx, List.any_eq_true.mpr ⟨_, hm, rfl⟩⟩
  rw [h] at this; cases this
theorem jB.fz {sz : Nat} {rows : List (List FV)} {v : Value} {bx : List Nat} (h : jB Fz w sz rows v bx) (hf : ∀ b, Fz b → bK b) (hb : ∀ b ∈ bx, bK b) : fA bK w (.sl rows) v := by
  have hrow := jB.row (κ := fun _ => undef) (key := 0) (B := 0) rfl h
  have hbx : bx = rT v := h.2.choose_spec.choose_spec.choose_spec.choose_spec.2.2.2
  have := qJ (bK := bK) hf (fun b hk => hb b (by rw [bS] at hk; rw [hbx, rT, hk]; simp)) hrow
  rwa [bS] at this
theorem fK.fz : ∀ {xs : List AV} {vs : List Value} {bs : List Nat}, fK Fz w xs vs bs → ∃ bf bk : List Nat, bk.Sublist bs ∧ (∀ b ∈ bf, b ∈ bs) ∧ (bs.Nodup → ∀ b ∈ bf, b ∉ bk) ∧ ∀ bK : Nat → Prop, (∀ b, Fz b → bK b) → (∀ b ∈ bf, bK b) → fK bK w (xs.map Me) vs bk
  | [], [], _, h => ⟨[], [], by cases h; exact List.Sublist.refl _, by simp, by simp, fun _ _ _ => rfl⟩
  | x :: xs, v :: vs, bs, ⟨b1, b2, h1, h2, e⟩ => by
    subst e
    obtain ⟨bf, bk, g1, g2, g3, g4⟩ := fK.fz h2
    by_cases hx : ∃ sz rows, x = .one (.own sz rows)
    · obtain ⟨sz, rows, rfl⟩ := hx
      refine ⟨b1 ++ bf, bk, g1.trans (List.sublist_append_right _ _), fun b hb => ?_, fun hn b hb hk => ?_, fun F hf hbf => ⟨[], bk, ⟨jB.fz h1 hf fun b hb => hbf b (by simp [hb]), rfl⟩, g4 F hf fun b hb => hbf b (by simp [hb]), rfl⟩⟩
      · rcases List.mem_append.mp hb with hb | hb
        · simp [hb]
        · simp [g2 b hb]
      · have hn' := List.nodup_append.mp hn
        rcases List.mem_append.mp hb with hb | hb
        · exact hn'.2.2 b hb b (g1.subset hk) rfl
        · exact g3 hn'.2.1 b hb hk
    · have hfz : Me x = x := by
        cases x with
        | one y => cases y <;> first | rfl | exact absurd ⟨_, _, rfl⟩ hx
        | agg _ => rfl
      refine ⟨bf, b1 ++ bk, List.Sublist.append (List.Sublist.refl _) g1, fun b hb => by simp [g2 b hb], fun hn b hb hk => ?_, fun F hf hbf => ⟨b1, bk, ?_, g4 F hf hbf, rfl⟩⟩
      · have hn' := List.nodup_append.mp hn
        rcases List.mem_append.mp hk with hk | hk
        · exact hn'.2.2 b hk b (g2 b hb) rfl
        · exact g3 hn'.2.1 b hb hk
      · rw [hfz]; exact h1.mono hf (fun _ _ => rfl) (fun _ _ => rfl)
  | [], _ :: _, _, h => h.elim
  | _ :: _, [], _, h => h.elim
theorem Sat.QV {f : FuncId} {g : List AV → Option (List AV × List AV)} (h : Sat P f g) : Sat P f (fun gH => (g gH).map (Ev.QV q)) := by
  cases q with
  | false =>
    intro gH rs q8 hg
    obtain ⟨r, h1, h2⟩ := zmm hg
    have : r = (rs, q8) := h2
    subst this
    exact h gH rs q8 h1
  | true =>
    intro gH rs q8 hg Fz w vals bs ha hn hb hf
    obtain ⟨r, h1, h2⟩ := zmm hg
    have e1 : r.1.map Me = rs := congrArg Prod.fst h2
    have e2 : r.2 = q8 := congrArg Prod.snd h2
    subst e1; subst e2
    refine Calls.mono (h gH r.1 r.2 h1 Fz w vals bs ha hn hb hf) ?_
    rintro e w' ⟨bK, ug, b1, b2, rfl, hp⟩
    obtain ⟨bf, bk, g1, g2, g3, g4⟩ := fK.fz hp.rs
    have hnd := List.nodup_append.mp hp.mZ
    refine ⟨fun b => bK b ∨ b ∈ bf, ug, b1, bk, rfl, fun b hb => .inl (hp.f1 b hb), fun b hb => ?_, hp.big, hp.ext, hp.kp, hp.bk.mono (fun b hb => .inl hb) (fun _ _ => rfl) (fun _ _ => rfl), g4 _ (fun b hb => .inl hb) (fun b hb => .inr hb), List.Sublist.nodup (List.Sublist.append (List.Sublist.refl _) g1) hp.mZ, fun b hb => ?_⟩
    · rcases hb with hb | hb
      · exact hp.f2 b hb
      · have := hp.ap b (by simp [g2 b hb])
        exact ⟨this.2.1, .inr this.2.2⟩
    · have hm : b ∈ b1 ++ b2 := by
        rcases List.mem_append.mp hb with hb | hb
        · simp [hb]
        · simp [g1.subset hb]
      have := hp.ap b hm
      refine ⟨fun hor => ?_, this.2⟩
      rcases hor with h1 | h1
      · exact this.1 h1
      · rcases List.mem_append.mp hb with hb | hb
        · exact hnd.2.2 b hb b (g2 b h1) rfl
        · exact g3 hnd.2.1 b h1 hb
theorem zl {gv : Bool} (l9 : iP P Γ) (h : Rel bI w0 bH N Fz κ σ a w) {f : FuncId} {mV : List CV} {vals : List Value} (hv : dP Fz κ w mV vals) (hE : kF Γ gv q σ d f mV = some (pv, σ')) :
    Calls P f vals.toArray w fun e w' => ∃ v bK eZ, e = .returned v ∧ Good bI w0 bH N q d Fz κ σ a w bK eZ σ' w' pv v := by
  unfold kF at hE
  obtain ⟨p, h1, hE⟩ := zbm hE
  obtain ⟨r, h2, hE⟩ := zbm hE
  split at hE
  · cases hE
  split at hE
  · cases hE
  rename_i hq1 hq2
  obtain ⟨s1, h3, hE⟩ := zbm hE
  obtain ⟨s2, h4, hE⟩ := zbm hE
  obtain ⟨u, h5, h6⟩ := zmm hE
  cases h6
  obtain ⟨F1, bx, e1, e2, e3⟩ := Au h.x hv h1
  rw [List.append_nil] at e1
  have elt := FD h.x hv h1
  obtain ⟨jw, l1, l2⟩ := hv.Cn
  have VH := (Sat.QV (q := q) (l9 f)) p.1 r.1 r.2 h2
  have fin : ∀ {F2 : Nat → Prop} {w' : World} {ug : List Value} {b1 b2 : List Nat}, (∀ b, Fz b → F2 b) → (∀ b, Fz b → w'.heap[b]? = w.heap[b]?) → bW bI w0 bH N (b1 ++ b2) F2 κ s1 a w' → fK F2 w' r.2 vals b1 → fK F2 w' r.1 ug b2 →
      ∃ v bK eZ, Ending.returned (ret ug) = .returned v ∧ Good bI w0 bH N q d Fz κ σ a w bK eZ u.2 w' (G6 u.1) v := by
    intro F2 w' ug b1 b2 hf hw hx hb hr
    have VI : bA F2 κ w' (mV.flatMap Ev.cells) jw := bA.mono hf hw _ (fun _ _ => rfl) _ l1
    have key : ∃ yJ, bW bI w0 bH N (b2 ++ []) F2 yJ s2 a w' ∧ ∀ k, k % 2 = 1 → yJ k = κ k := by
      rw [List.append_nil]
      split at h4
      · cases h4
        exact ⟨κ, hx.sub, fun _ _ => rfl⟩
      · obtain ⟨yJ, g1, g2, g3⟩ := FH (by unfold dB; omega) hx hb VI (fun eZ hk => l2 F2 w' eZ hk) h4
        exact ⟨yJ, g1, g3⟩
    obtain ⟨yJ, g1, g2⟩ := key
    obtain ⟨Eh, g3, g4, _, g5⟩ := Az (Kp := fun k => k % 2 = 0) (fun k hk => by omega) (fun k c hk => by omega) (by unfold dB; omega) g1 hr (show bA F2 yJ w' [] [] from trivial) h5
    exact ⟨_, F2, Eh, rfl, g3.rel, FJ g4, hf, fun k hk => (g5 k (by omega)).trans (g2 k hk)⟩
  have call : ∀ {F2 : Nat → Prop}, (∀ b, F1 b → F2 b) → bW bI w0 bH N bx F2 κ s1 a w → fK F2 w p.1 vals bx → Calls P f vals.toArray w fun e w' => ∃ v bK eZ, e = .returned v ∧ Good bI w0 bH N q d Fz κ σ a w bK eZ u.2 w' (G6 u.1) v := by
    intro F2 hf hx ha
    refine Calls.mono (VH F2 w vals bx ha hx.mZ (fun b hb => ⟨(hx.ap b hb).1, (hx.ap b hb).2.1⟩) (fun b hb => (hx.rel.fz b hb).1)) ?_
    rintro e w' ⟨F3, ug, b1, b2, rfl, hp⟩
    refine fin (fun b hb => hp.f1 b (hf b (e2 b hb))) (fun b hb => ?_) (hx.called hp) hp.bk hp.rs
    exact hp.ext b (h.fz b hb).1 (fun hm => (hx.ap b hm).1 (hf b (e2 b hb)))
  cases gv with
  | true =>
    rw [Bool.not_true, Bool.false_and, if_neg (by decide)] at h3
    cases h3
    exact call (fun _ h => h) e1 (e3.mono (fun b hb => hb.resolve_right (fun hl => by cases hl.1)) (fun _ _ => rfl) (fun _ _ => rfl))
  | false =>
  rw [Bool.not_false, Bool.true_and] at h3
  split at h3
  · obtain ⟨F2, g1, g2, g3⟩ := Cm e1 h3
    refine call g2 g1 (e3.mono (fun b hb => ?_) (fun _ _ => rfl) (fun _ _ => rfl))
    rcases hb with hb | hb
    · exact g2 b hb
    · exact g3 b hb
  · rename_i hfr
    cases h3
    rw [Bool.and_eq_true, Decidable.not_and_iff_or_not] at hfr
    by_cases hown : mV.any (fun x => (Ev.cells x).any gu) = true
    · rcases hfr with hfr | hfr
      · rw [Bool.or_eq_true, not_or] at hfr
        have acj : r.1.any vk = false := any_false hfr.1
        have hpl : p.1.all fE = true := by simpa using hfr.2
        have hbx := ou e3 hpl
        subst hbx
        refine Calls.mono (VH (fun b => F1 b ∨ rU false κ (mV.flatMap Ev.cells) b) w vals [] e3 List.nodup_nil (fun b hb => by simp at hb) (fun b hb => ?_)) ?_
        · rcases hb with hb | hb
          · exact (e1.rel.fz b hb).1
          · exact elt b hb
        · rintro e w' ⟨F3, ug, b1, b2, rfl, hp⟩
          have hg := e1.rel.grow hp.big (fun b hb => hp.ext b hb (by simp)) hp.kp
          obtain ⟨n1, _⟩ := wM (bK := F1) (w' := w') hp.rs acj
          rw [if_pos hpl] at h4
          cases h4
          obtain ⟨Eh, g3, g4, _, g5⟩ := Az (Kp := fun k => k % 2 = 0) (fun k hk => by omega) (fun k c hk => by omega) (by unfold dB; omega) (bx := []) (bs := []) hg.x n1 (show bA F1 κ w' [] [] from trivial) h5
          exact ⟨_, F1, Eh, rfl, g3.rel, FJ g4, e2, fun k hk => g5 k (by omega)⟩
      · exact absurd hown hfr
    · have hno : mV.any (fun x => (Ev.cells x).any gu) = false := any_false hown
      exact call (fun _ h => h) e1 (e3.mono (fun b hb => hb.resolve_right (JK hno b)) (fun _ _ => rfl) (fun _ _ => rfl))
theorem JL {x : PL} {y : TV} {gv : Bool} (h : Zn x = some y) : qH gv σ x = some (y, σ) ∧ plain y = true ∧ gu x = false := by
  cases x <;> first | (cases h; exact ⟨rfl, rfl, rfl⟩) | cases h
theorem FL {gv : Bool} : ∀ {xs : List PL} {ys : List TV}, Mf xs = some ys → qI gv σ xs = some (ys, σ) ∧ ys.all plain = true ∧ xs.any gu = false
  | [], ys, h => by cases h; exact ⟨rfl, rfl, rfl⟩
  | x :: xs, ys, h => by
    obtain ⟨y, h1, h2⟩ := zbm h
    obtain ⟨l, h3, rfl⟩ := zmm h2
    obtain ⟨e1, e2, e3⟩ := JL (σ := σ) (gv := gv) h1
    obtain ⟨g1, g2, g3⟩ := FL (gv := gv) h3
    exact ⟨by unfold qI; rw [e1]; simp only [Option.bind_some, g1, Option.map_some], by simp only [List.all_cons, e2, g2, Bool.and_self], by simp only [List.any_cons, e3, g3, Bool.or_self]⟩
theorem FM {gv : Bool} : ∀ {xs : List CV} {ys : List AV}, Jf xs = some ys → rz gv σ xs = some (ys, σ) ∧ ys.all fE = true ∧ xs.any (fun x => (Ev.cells x).any gu) = false
  | [], ys, h => by cases h; exact ⟨rfl, rfl, rfl⟩
  | x :: xs, ys, h => by
    obtain ⟨y, h1, h2⟩ := zbm h
    obtain ⟨l, h3, rfl⟩ := zmm h2
    have key : I5 gv σ x = some (y, σ) ∧ fE y = true ∧ (Ev.cells x).any gu = false := by
      cases x with
      | one x =>
        obtain ⟨z, h4, rfl⟩ := zmm h1
        obtain ⟨e1, e2, e3⟩ := JL (σ := σ) (gv := gv) h4
        exact ⟨by show Option.map _ (qH gv σ x) = _; rw [e1]; rfl, e2, by simp only [Ev.cells, List.any_cons, e3, List.any_nil, Bool.or_self]⟩
      | agg xs =>
        obtain ⟨z, h4, rfl⟩ := zmm h1
        obtain ⟨e1, e2, e3⟩ := FL (σ := σ) (gv := gv) h4
        exact ⟨by show Option.map _ (qI gv σ xs) = _; rw [e1]; rfl, e2, e3⟩
    obtain ⟨e1, e2, e3⟩ := key
    obtain ⟨g1, g2, g3⟩ := FM (gv := gv) h3
    exact ⟨by unfold rz; rw [e1]; simp only [Option.bind_some, g1, Option.map_some], by simp only [List.all_cons, e2, g2, Bool.and_self], by simp only [List.any_cons, e3, g3, Bool.or_self]⟩
theorem Ej (l9 : iP P Γ) (h : Rel bI w0 bH N Fz κ σ a w) {f : FuncId} {mV : List CV} {vals : List Value} (hv : dP Fz κ w mV vals) (hE : rC Γ σ d f mV = some (pv, σ')) :
    Calls P f vals.toArray w fun e w' => ∃ v bK eZ, e = .returned v ∧ Good bI w0 bH N q d Fz κ σ a w bK eZ σ' w' pv v := by
  unfold rC at hE
  obtain ⟨gH, h1, hE⟩ := zbm hE
  obtain ⟨r, h2, hE⟩ := zbm hE
  obtain ⟨p, h3, hE⟩ := zbm hE
  obtain ⟨s', h4, h5⟩ := zmm hE
  obtain ⟨rfl, rfl⟩ := Prod.mk.inj h5
  obtain ⟨g1, g2, g3⟩ := FM (σ := σ) (gv := false) h1
  obtain ⟨F1, bx, e1, e2, e3⟩ := Au h.x hv g1
  rw [List.append_nil] at e1
  have hbx := ou e3 g2
  subst hbx
  have ha : fK F1 w gH vals [] := e3.mono (fun b hb => hb.resolve_right (JK g3 b)) (fun _ _ => rfl) (fun _ _ => rfl)
  refine Calls.mono (l9 f gH r.1 r.2 h2 F1 w vals [] ha List.nodup_nil (fun b hb => by simp at hb) (fun b hb => (e1.rel.fz b hb).1)) ?_
  rintro e w' ⟨F3, ug, b1, b2, rfl, hp⟩
  have hx := e1.called hp
  obtain ⟨rs, bk⟩ := r
  have hr := hp.rs
  simp only at h3 hr
  match rs, h3 with
  | [.one (.own sz rows)], h3 =>
    cases h3
    match ug, hr with
    | [v], ⟨c1, c2, k1, k2, k3⟩ =>
      have : c2 = [] := k2
      subst this
      rw [List.append_nil] at k3
      subst k3
      obtain ⟨m1, m2, m3⟩ := bW.JE (bs := []) (pend := []) (jw := []) (by rw [List.append_nil]; exact hx.sub) (show bA F3 κ w' [] [] from trivial) (show newP [] σ (dB d) (.row sz rows) = some s' from h4) k1
      exact ⟨v, F3, nY κ (dB d) v, rfl, m1.rel, m3, fun b hb => hp.f1 b (e2 b hb), fun k hk => eu (by unfold dB; omega) _⟩
theorem nS {f : FuncId} {fn : Func} {args : Array Value} (hf : P.funcs[f]? = some fn) (hn : (fn.name == "runtime.NumGoroutine") = false) (hb : fn.body.isSome = true) : (callFunc f args).run P w = .ok (.enter f args) w := by
  unfold callFunc
  have hb' : fn.body.isNone = false := by cases h : fn.body <;> simp_all
  rw [Sem.run_bind, show (program : Sem Program).run P w = .ok P w from rfl]
  simp only [Result.andThen_ok, hf, hn, hb', Bool.false_eq_true, if_false]
  rfl
theorem Hg {X : Hx} {i : I} (hc : BS P X o = some i) : ∃ c l, o.op = .call c ∧ Ad c.args.toList = some l ∧
    ((∃ fn f, (i = .call (X.gv.contains f) f l ∨ i = .yC f l) ∧ c.callee = .value (.func f) ∧ P.funcs[f]? = some fn ∧ (fn.name == "runtime.NumGoroutine") = false ∧ fn.body.isSome = true) ∨ ∃ t, i = .dyn (.t t) l ∧ c.callee = .value (.tmp t)) := by
  unfold BS at hc
  split at hc
  · rename_i c ho
    split at hc
    · rename_i f nK
      split at hc
      · rename_i fn hf
        split at hc
        · rename_i hh
          obtain ⟨l, h1, rfl⟩ := zmm hc
          refine ⟨c, l, ho, h1, .inl ⟨fn, f, ?_, nK, hf, hh.1, hh.2⟩⟩
          split
          · exact .inr rfl
          · exact .inl rfl
        · cases hc
      · cases hc
    · rename_i t nK
      obtain ⟨l, h1, rfl⟩ := zmm hc
      exact ⟨c, l, ho, h1, .inr ⟨t, rfl, nK⟩⟩
    · cases hc
  · cases hc
def eO (P : Program) (Γ : Env) : Prop := ∀ f gH r, Γ f gH = some r → ∃ fn, P.funcs[f]? = some fn ∧ (fn.name == "runtime.NumGoroutine") = false ∧ fn.body.isSome = true
theorem mK.Jt : ∀ {caps : List (List FV)} {cs : List Value}, mK Fz w caps cs → dP Fz κ w (caps.map fun c => CV.one (.fp c)) cs
  | [], [], _ => trivial
  | c :: caps, v :: cs, h => ⟨h.1, mK.Jt h.2⟩
  | [], _ :: _, h => h.elim
  | _ :: _, [], h => h.elim
theorem dP.app : ∀ {xs ys : List CV} {us vs : List Value}, dP Fz κ w xs us → dP Fz κ w ys vs → dP Fz κ w (xs ++ ys) (us ++ vs)
  | [], ys, [], vs, _, h => h
  | x :: xs, ys, u :: us, vs, h, h' => ⟨h.1, dP.app h.2 h'⟩
  | [], _, _ :: _, _, h, _ => h.elim
  | _ :: _, _, [], _, h, _ => h.elim
theorem vo {gv : Bool} (hC : eO P Γ) {f : FuncId} {mV : List CV} (hE : kF Γ gv q σ d f mV = some (pv, σ')) : ∃ fn, P.funcs[f]? = some fn ∧ (fn.name == "runtime.NumGoroutine") = false ∧ fn.body.isSome = true := by
  unfold kF at hE
  obtain ⟨p, h1, hE⟩ := zbm hE
  obtain ⟨r, h2, hE⟩ := zbm hE
  obtain ⟨r', h2, _⟩ := zmm h2
  exact hC f _ _ h2
theorem VJ {X : Hx} (heq : ∀ t ∈ X.eqs, lD P t) (l9 : iP P Γ) (hC : eO P Γ) (h : Rel bI w0 bH N Fz κ σ a w) {i : I} (hc : BU P X o = some i) (hE : cO Γ q σ d i = some (pv, σ')) {K : Act → World → Prop} {Q : Exit → Act → World → Prop}
    (hK : ∀ v bK eZ w', Good bI w0 bH N q d Fz κ σ a w bK eZ σ' w' pv v → K (a.put o.dst v) w') : o.wp P a w K Q := by
  unfold BU at hc
  split at hc
  · rename_i i' hcc
    cases hc
    have PE : ∀ c : Call, c.args.map a.eval = (c.args.toList.map a.eval).toArray := fun c => by rw [← Array.toList_map, Array.toArray_toList]
    have fin : ∀ {f : FuncId} {fn : Func} {vals : List Value}, P.funcs[f]? = some fn → (fn.name == "runtime.NumGoroutine") = false → fn.body.isSome = true → (Calls P f vals.toArray w fun e w' => ∃ v bK eZ, e = .returned v ∧ Good bI w0 bH N q d Fz κ σ a w bK eZ σ' w' pv v) → (execOp a.eval o).run P w = (callFunc f vals.toArray).run P w → o.wp P a w K Q := by
      intro f fn vals hf hn hb El hrun
      unfold Oper.wp
      rw [hrun, nS hf hn hb, Oper.upon_enter]
      refine Calls.mono El ?_
      rintro e w' ⟨v, bK, eZ, rfl, hg⟩
      exact hK v bK eZ w' hg
    obtain ⟨c, l, ho, hargs, ⟨fn, f, hi, nK, hf, hn, hb⟩ | ⟨t, rfl, nK⟩⟩ := Hg hcc
    · have El : Calls P f (c.args.toList.map a.eval).toArray w fun e w' => ∃ v bK eZ, e = .returned v ∧ Good bI w0 bH N q d Fz κ σ a w bK eZ σ' w' pv v := by
        rcases hi with rfl | rfl
        · obtain ⟨mV, h1, h2⟩ := zbm hE
          exact zl l9 h (rW h hargs h1) h2
        · obtain ⟨mV, h1, h2⟩ := zbm hE
          exact Ej l9 h (rW h hargs h1) h2
      refine fin hf hn hb El ?_
      unfold execOp resolve
      simp only [ho, nK, PE, Sem.run_bind]
      show (do let d ← Deferred.ofValue (a.eval (.func f)) (c.args.toList.map a.eval).toArray; invoke d.target d.args : Sem Next).run P w = _
      have hd : Deferred.ofValue (a.eval (.func f)) (c.args.toList.map a.eval).toArray = pure { target := .fn (.func f) #[], args := #[] ++ (c.args.toList.map a.eval).toArray } := rfl
      rw [hd]
      simp only [Sem.run_bind, Sem.run_pure, Result.andThen_ok, invoke, Array.empty_append, Array.append_empty]
    · obtain ⟨v, h1, h2⟩ := zbm hE
      have hv := h.eval (x := .tmp t) rfl h1
      split at h2
      · rename_i f caps
        obtain ⟨mV, h3, h4⟩ := zbm h2
        obtain ⟨cs, e1, e2⟩ := hv
        obtain ⟨fn, hf, hn, hb⟩ := vo hC h4
        refine fin hf hn hb (zl l9 h ((rW h hargs h3).app e2.Jt) h4) ?_
        unfold execOp resolve
        simp only [ho, nK, PE, Sem.run_bind]
        rw [e1]
        have hd : Deferred.ofValue (.func (.func f) #[] cs.toArray) (c.args.toList.map a.eval).toArray = pure { target := .fn (.func f) cs.toArray, args := #[] ++ (c.args.toList.map a.eval).toArray } := rfl
        rw [hd]
        simp only [Sem.run_bind, Sem.run_pure, Result.andThen_ok, invoke, Array.empty_append, List.append_toArray, List.nil_append]
      · cases h2
  · split at hc
    · rename_i i' hc0
      split at hc
      · cases hc
      · rename_i hi
        cases hc
        obtain ⟨r, w', eZ, bK, v, h1, h2, h3⟩ := JC heq h hc0 (Bool.eq_false_iff.mpr hi) hE
        unfold Oper.wp
        rw [h1]
        rcases h2 with rfl | ⟨rfl, rfl⟩
        · exact hK v bK eZ w' h3
        · exact hK undef bK eZ w' h3
    · cases hc
end
end Go.Proofs.Ytdkkgecdhapfhaa.Ev
namespace Go.Proofs.Ytdkkgecdhapfhaa.Ev
open Go
def Ok (bI : Nat → Prop) (w0 : World) (bH : List Nat) (N : Fr) (jr : Nat → Value) (σ : St) (a : Act) (w : World) : Prop := ∃ Fz κ, Rel bI w0 bH N Fz κ σ a w ∧ ∀ k, k % 2 = 1 → κ k = jr k
section
variable {P : Program} {Γ : Env} {bI : Nat → Prop} {w0 w w' : World} {bH : List Nat} {N : Fr} {d : Nat} {q : Bool} {jr : Nat → Value} {σ σ1 σ' : St} {a : Act} {pv : PV} {o : Oper} {X : Hx} {ops : Array Oper}
theorem JM {Fz : Nat → Prop} {κ : Nat → Value} (h : Rel bI w0 bH N Fz κ σ a w) {t : Bool} (hg : yF σ (o.guard.map fun p => ((ops[p.1]?).bind (·.dst), p.2)) = some t) : Region.wanted o (yielded ops a.tmps) = t := by
  unfold Region.wanted
  cases hgu : o.guard with
  | none => rw [hgu] at hg; cases hg; rfl
  | some p =>
    obtain ⟨j, want⟩ := p
    rw [hgu] at hg
    simp only [Option.map_some] at hg
    simp only [yielded]
    cases hd : (ops[j]?).bind (·.dst) with
    | none => rw [hd] at hg; cases hg; rfl
    | some s =>
      rw [hd] at hg
      simp only [Option.bind_some]
      simp only [yF] at hg
      split at hg
      · rename_i b hb
        cases hg
        have hv : a.tmps.getD s undef = .bool b := h.val hb
        rw [Array.getD_eq_getD_getElem?] at hv
        cases ht : a.tmps[s]? with
        | none => rw [ht] at hv; cases hv
        | some v =>
          rw [ht] at hv
          simp only [Option.getD_some] at hv
          subst hv
          cases b <;> cases want <;> rfl
      · rename_i hb
        cases hg
        have hv : a.tmps.getD s undef = undef := h.val hb
        rw [Array.getD_eq_getD_getElem?] at hv
        cases ht : a.tmps[s]? with
        | none => rfl
        | some v =>
          rw [ht] at hv
          simp only [Option.getD_some] at hv
          subst hv
          rfl
      · cases hg
theorem vL (heq : ∀ t ∈ X.eqs, lD P t) (l9 : iP P Γ) (hC : eO P Γ) {g : G} (hg : y7 P X ops N.ok o = some g) (h : Ok bI w0 bH N jr σ a w) (hE : lK Γ q σ g = some (pv, σ')) {K : Act → World → Prop} {Q : Exit → Act → World → Prop}
    (hK : ∀ a' w', Ok bI w0 bH N jr (rE σ' g.dst pv) a' w' → K a' w') : if Region.wanted o (yielded ops a.tmps) then o.wp P a w K Q ∨ (o.asks P a w ∧ LetsOut Q) else K (a.put o.dst undef) w := by
  obtain ⟨Fz, κ, h, hk⟩ := h
  obtain ⟨i, h1, h2⟩ := zbm hg
  split at h2
  · rename_i hd
    cases h2
    obtain ⟨t, h3, h4⟩ := zbm hE
    have hput : ∀ {bK eZ w' pv v s}, Rel bI w0 bH N bK eZ s a w' → jq bK eZ w' pv v → Rel bI w0 bH N bK eZ (rE s o.dst pv) (a.put o.dst v) w' := by
      intro bK eZ w' pv v s hr hv
      cases hdst : o.dst with
      | none => exact hr.Py v
      | some d =>
        rw [hdst] at hd
        exact hr.put (by simpa using hd) hv
    rw [JM h h3]
    cases t with
    | true =>
      rw [if_pos rfl]
      left
      rw [if_pos rfl] at h4
      refine VJ heq l9 hC h h1 h4 ?_
      intro v bK eZ w' hg
      exact hK _ _ ⟨bK, eZ, hput hg.rel hg.val, fun k hk' => (hg.e6 k hk').trans (hk k hk')⟩
    | false =>
      rw [if_neg (by decide)]
      rw [if_neg (by decide)] at h4
      cases h4
      exact hK _ _ ⟨Fz, κ, hput h rfl, hk⟩
  · cases h2
theorem Em (heq : ∀ t ∈ X.eqs, lD P t) (l9 : iP P Γ) (hC : eO P Γ) {g : G} (hg : y7 P X ops N.ok o = some g) (h : Ok bI w0 bH N jr σ a w) (hE : Pw Γ q σ g = some σ') {K : Act → World → Prop} {Q : Exit → Act → World → Prop}
    (hK : ∀ a' w', Ok bI w0 bH N jr σ' a' w' → K a' w') : if Region.wanted o (yielded ops a.tmps) then o.wp P a w K Q ∨ (o.asks P a w ∧ LetsOut Q) else K (a.put o.dst undef) w := by
  obtain ⟨p, h1, h2⟩ := zmm hE
  subst h2
  exact vL heq l9 hC hg h h1 hK
theorem JN (heq : ∀ t ∈ X.eqs, lD P t) (l9 : iP P Γ) (hC : eO P Γ) {Q : Exit → Act → World → Prop} : ∀ {l : List Oper} {gs : List G} {σ : St} {a : Act} {w : World}, lM P X ops N.ok l = some gs → Ok bI w0 bH N jr σ a w → BR Γ q gs σ = some σ' → (∀ a' w', Ok bI w0 bH N jr σ' a' w' → Q .normal a' w') → wpList P ops Q l a w
  | [], gs, σ, a, w, hc, h, hE, hQ => by cases hc; cases hE; exact hQ a w h
  | o :: l, gs, σ, a, w, hc, h, hE, hQ => by
    obtain ⟨g, h1, h2⟩ := zbm hc
    obtain ⟨r, h3, rfl⟩ := zmm h2
    obtain ⟨s, h4, h5⟩ := zbm hE
    exact Em heq l9 hC h1 h h4 (fun a' w' h' => JN heq l9 hC h3 h' h5 hQ)
end
end Go.Proofs.Ytdkkgecdhapfhaa.Ev
namespace Go.Proofs.Ytdkkgecdhapfhaa.Ev
open Go
def MF : I → Bool
  | .alloc _ _ => false
  | .box _ _ => false
  | .Fg _ _ _ _ _ => false
  | .yC _ _ => false
  | .store _ _ _ => false
  | .q9 _ => false
  | .zY _ _ _ _ => false
  | .del _ _ _ => false
  | .app _ _ _ _ _ => false
  | .Pt _ _ _ => false
  | _ => true
def je : d9 → List Nat
  | .t i => [i]
  | .k _ => []
def En : Option d9 → List Nat
  | none => []
  | some x => je x
def Zr (ps : List (Nat × Nat × d9)) : List Nat := ps.flatMap fun p => je p.2.2
def mD : I → List Nat
  | .mv x => je x
  | .pick c x y => je c ++ je x ++ je y
  | .alloc _ _ => []
  | .box _ x => je x
  | .build _ ps => Zr ps
  | .Fg _ _ _ _ ps => Zr ps
  | .load _ _ x => je x
  | .store _ x v => je x ++ je v
  | .kV x => je x
  | .mU _ x => je x
  | .ar _ x y => je x ++ je y
  | .cmp _ x y => je x ++ je y
  | .tQ _ _ x y => je x ++ je y
  | .cat x y => je x ++ je y
  | .no x => je x
  | .ci _ x => je x
  | .mV x => je x
  | .q9 _ => []
  | .GV x lo hi => je x ++ En lo ++ En hi
  | .cut _ x lo hi => je x ++ En lo ++ En hi
  | .fa _ x => je x
  | .Ma _ _ _ x => je x
  | .ia _ x i => je x ++ je i
  | .idx _ _ _ x i => je x ++ je i
  | .chr x i => je x ++ je i
  | .look _ _ _ x k => je x ++ je k
  | .zY _ x k v => je x ++ je k ++ je v
  | .del _ x k => je x ++ je k
  | .ext x _ => je x
  | .BP x => je x
  | .jF x => je x
  | .GX x => je x
  | .app _ _ _ x y => je x ++ je y
  | .mn x y => je x ++ je y
  | .mx x y => je x ++ je y
  | .call _ _ xs => xs.flatMap je
  | .yC _ xs => xs.flatMap je
  | .zZ _ x => je x
  | .bit _ x y => je x ++ je y
  | .QS _ x y => je x ++ je y
  | .QT _ xs => xs.flatMap je
  | .dyn x xs => je x ++ xs.flatMap je
  | .D6 _ x y => je x ++ je y
  | .cutV _ x y => je x ++ je y
  | .Pt _ _ x => je x
  | .Uj x => je x
section
variable {Γ : Env} {d : Nat} {σ σ2 σ' : St} {pv : PV}
def Same (l : List Nat) (σ σ2 : St) : Prop := ∀ s ∈ l, get σ2.tm s = get σ.tm s
theorem Same.l {l m : List Nat} (h : Same (l ++ m) σ σ2) : Same l σ σ2 := fun s hs => h s (by simp [hs])
theorem Same.r {l m : List Nat} (h : Same (l ++ m) σ σ2) : Same m σ σ2 := fun s hs => h s (by simp [hs])
theorem Same.val {x : d9} (h : Same (je x) σ σ2) : Ev.val σ2 x = Ev.val σ x := by
  cases x with
  | t i => simp only [Ev.val]; rw [h i (by simp [je])]
  | k x => rfl
theorem Same.rD {x : d9} (h : Same (je x) σ σ2) : Ev.rD σ2 x = Ev.rD σ x := by
  cases x with
  | t i => simp only [Ev.rD]; rw [h i (by simp [je])]
  | k x => rfl
theorem Same.vals : ∀ {ps : List (Nat × Nat × d9)}, Same (Zr ps) σ σ2 → Ev.vals σ2 ps = Ev.vals σ ps
  | [], _ => rfl
  | (o, n, x) :: ps, h => by
    unfold Zr at h
    rw [List.flatMap_cons] at h
    unfold Ev.vals
    rw [h.l.val, Same.vals h.r]
theorem Same.iW : ∀ {xs : List d9}, Same (xs.flatMap je) σ σ2 → Ev.iW σ2 xs = Ev.iW σ xs
  | [], _ => rfl
  | x :: xs, h => by
    rw [List.flatMap_cons] at h
    unfold Ev.iW
    rw [h.l.val, Same.iW h.r]
theorem Same.bnd {x : Option d9} {n m : Nat} (h : Same (En x) σ σ2) : Ev.bnd σ2 n x m = Ev.bnd σ n x m := by
  cases x with
  | none => rfl
  | some x => simp only [Ev.bnd]; rw [Same.val h]
theorem Same.rng {lo hi : Option d9} {n : Nat} (hl : Same (En lo) σ σ2) (hh : Same (En hi) σ σ2) : Ev.rng n σ2 lo hi = Ev.rng n σ lo hi := by
  unfold Ev.rng
  rw [hh.bnd]
  congr 1
  funext h
  rw [hl.bnd]
theorem zm {gv : Bool} {x : PL} {y : TV} (ho : ∀ k o, get σ.ob k = some o → get σ2.ob k = some o) (h : qH gv σ x = some (y, σ')) (hp : plain y = true) : σ' = σ ∧ qH gv σ2 x = some (y, σ2) := by
  cases x with
  | f x => cases h; exact ⟨rfl, rfl⟩
  | fG => cases h; exact ⟨rfl, rfl⟩
  | iO => cases h; exact ⟨rfl, rfl⟩
  | fu => cases h; exact ⟨rfl, rfl⟩
  | own k n =>
    simp only [qH] at h ⊢
    split at h
    · rename_i hk
      split at h
      · cases h; cases hp
      · rename_i hg; cases h; rw [ho _ _ hk]; simp only [if_neg hg]; exact ⟨trivial, trivial⟩
    · cases h
  | fp cs => cases h; exact ⟨rfl, rfl⟩
  | fn f cs => cases h; exact ⟨rfl, rfl⟩
  | mp k =>
    simp only [qH] at h
    split at h
    · cases h; cases hp
    · cases h
  | ptr k o =>
    cases o with
    | succ n => cases h
    | zero =>
      simp only [qH] at h
      split at h
      · obtain ⟨p, _, h2⟩ := zmm h; cases h2; cases hp
      · cases h
  | _ => cases h
theorem wN {gv : Bool} (ho : ∀ k o, get σ.ob k = some o → get σ2.ob k = some o) : ∀ {xs : List PL} {ys : List TV} {σ' : St}, qI gv σ xs = some (ys, σ') → ys.all plain = true → σ' = σ ∧ qI gv σ2 xs = some (ys, σ2)
  | [], ys, σ', h, _ => by cases h; exact ⟨rfl, rfl⟩
  | x :: xs, ys, σ', h, hp => by
    obtain ⟨p, h1, h2⟩ := zbm h
    obtain ⟨r, h3, h4⟩ := zmm h2
    cases h4
    rw [List.all_cons, Bool.and_eq_true] at hp
    obtain ⟨e1, e2⟩ := zm ho h1 hp.1
    rw [e1] at h3
    obtain ⟨e3, e4⟩ := wN ho h3 hp.2
    exact ⟨e3, by unfold qI; rw [e2]; simp only [Option.bind_some]; rw [e4]; rfl⟩
theorem wO {gv : Bool} (ho : ∀ k o, get σ.ob k = some o → get σ2.ob k = some o) : ∀ {xs : List CV} {ys : List AV} {σ' : St}, rz gv σ xs = some (ys, σ') → ys.all fE = true → σ' = σ ∧ rz gv σ2 xs = some (ys, σ2)
  | [], ys, σ', h, _ => by cases h; exact ⟨rfl, rfl⟩
  | x :: xs, ys, σ', h, hp => by
    obtain ⟨p, h1, h2⟩ := zbm h
    obtain ⟨r, h3, h4⟩ := zmm h2
    cases h4
    rw [List.all_cons, Bool.and_eq_true] at hp
    have key : p.2 = σ ∧ I5 gv σ2 x = some (p.1, σ2) := by
      cases x with
      | one x =>
        obtain ⟨u, g1, g2⟩ := zmm h1
        obtain ⟨e1, e2⟩ := zm ho g1 (by rw [← g2] at hp; exact hp.1)
        exact ⟨by rw [← g2]; exact e1, by simp only [I5]; rw [e2, ← g2]; rfl⟩
      | agg xs =>
        obtain ⟨u, g1, g2⟩ := zmm h1
        obtain ⟨e1, e2⟩ := wN ho g1 (by rw [← g2] at hp; exact hp.1)
        exact ⟨by rw [← g2]; exact e1, by simp only [I5]; rw [e2, ← g2]; rfl⟩
    rw [key.1] at h3
    obtain ⟨e3, e4⟩ := wO ho h3 hp.2
    exact ⟨e3, by unfold rz; rw [key.2]; simp only [Option.bind_some]; rw [e4]; rfl⟩
theorem zn {key : Nat} {pend : List PL} {x : TV} (hp : plain x = true) : ∃ l, ∀ σ, BL key pend σ x = some (l, σ) := by
  cases x with
  | f x => exact ⟨_, fun _ => rfl⟩
  | iO => exact ⟨_, fun _ => rfl⟩
  | fu => exact ⟨_, fun _ => rfl⟩
  | fp cs => exact ⟨_, fun _ => rfl⟩
  | fn f cs => exact ⟨_, fun _ => rfl⟩
  | any => exact ⟨_, fun _ => rfl⟩
  | _ => cases hp
theorem wP {base : Nat} : ∀ {xs : List TV} {j : Nat} {pend : List PL}, xs.all plain = true → ∃ l, ∀ σ, wm base j pend σ xs = some (l, σ)
  | [], _, _, _ => ⟨[], fun _ => rfl⟩
  | x :: xs, j, pend, hp => by
    rw [List.all_cons, Bool.and_eq_true] at hp
    obtain ⟨l, h1⟩ := zn (key := base + 200 * (j + 1)) (pend := pend) hp.1
    obtain ⟨m, h2⟩ := wP (base := base) (j := j + 1) (pend := l :: pend) hp.2
    exact ⟨l :: m, fun σ => by unfold wm; rw [h1]; simp only [Option.bind_some]; rw [h2]; rfl⟩
theorem wQ {base : Nat} : ∀ {xs : List AV} {i : Nat} {pend : List PL}, xs.all fE = true → ∃ l, ∀ σ, wo base i pend σ xs = some (l, σ)
  | [], _, _, _ => ⟨[], fun _ => rfl⟩
  | x :: xs, i, pend, hp => by
    rw [List.all_cons, Bool.and_eq_true] at hp
    have key : ∃ l, ∀ σ, I6 (base + 2000 * i) pend σ x = some (l, σ) := by
      cases x with
      | one x => obtain ⟨l, h⟩ := zn (key := base + 2000 * i + 200) (pend := pend) hp.1; exact ⟨.one l, fun σ => by simp only [I6]; rw [h]; rfl⟩
      | agg xs => obtain ⟨l, h⟩ := wP (base := base + 2000 * i) (j := 0) (pend := pend) hp.1; exact ⟨.agg l, fun σ => by simp only [I6]; rw [h]; rfl⟩
    obtain ⟨l, h1⟩ := key
    obtain ⟨m, h2⟩ := wQ (base := base) (i := i + 1) (pend := cells l ++ pend) hp.2
    exact ⟨l :: m, fun σ => by unfold wo; rw [h1]; simp only [Option.bind_some]; rw [h2]; rfl⟩
theorem wR {gv : Bool} (ho : ∀ k o, get σ.ob k = some o → get σ2.ob k = some o) {f : FuncId} {args : List CV} (hE : kF Γ gv true σ d f args = some (pv, σ')) : σ' = σ ∧ kF Γ gv true σ2 d f args = some (pv, σ2) := by
  unfold kF at hE ⊢
  obtain ⟨p, h1, hE⟩ := zbm hE
  obtain ⟨r, h2, hE⟩ := zbm hE
  split at hE
  · cases hE
  rename_i hq1
  split at hE
  · cases hE
  rename_i hq2
  have hpl : p.1.all fE = true ∧ r.1.all fE = true := by simpa using hq1
  obtain ⟨e1, e2⟩ := wO ho h1 hpl.1
  obtain ⟨l, hl⟩ := wQ (base := dB d) (i := 0) (pend := []) hpl.2
  have hfr : ((r.1.any vk || !p.1.all fE) && args.any (fun x => (cells x).any gu)) = false := by
    cases hc : ((r.1.any vk || !p.1.all fE) && args.any (fun x => (cells x).any gu)) with
    | false => rfl
    | true => rw [hc] at hq2; exact absurd rfl hq2
  have h3 : (r.1.any vk && args.any (fun x => (cells x).any gu)) = false := by simpa [hpl.1] using hfr
  simp only [hpl.1, hpl.2, Bool.not_true, Bool.or_false, h3, Bool.false_eq_true, if_false, if_true, Option.bind_some, hl, Option.map_some, Bool.and_false, Bool.and_self, Option.some.injEq, Prod.mk.injEq] at hE
  simp only [e2, Option.bind_some, h2, hpl.1, hpl.2, Bool.not_true, Bool.or_false, h3, Bool.false_eq_true, if_false, if_true, hl, Option.map_some, Bool.and_false, Bool.and_self]
  exact ⟨by rw [← hE.2]; exact e1, by rw [hE.1]⟩
end
end Go.Proofs.Ytdkkgecdhapfhaa.Ev
namespace Go.Proofs.Ytdkkgecdhapfhaa.Ev
open Go
section
variable {Γ : Env} {d : Nat} {σ σ2 σ' : St} {pv : PV}
theorem Eo {l : List CV} : ∀ {caps : List (List FV)} {τ : St}, lC true σ l = some (caps, τ) → τ = σ ∧ lC true σ2 l = some (caps, σ2) := by
  induction l with
  | nil => intro caps τ h; simp only [lC] at h; cases h; exact ⟨rfl, by simp only [lC]⟩
  | cons y l ih =>
    intro caps τ h
    have one : ∀ cs, y = .one (.fp cs) → τ = σ ∧ lC true σ2 (y :: l) = some (caps, σ2) := by
      intro cs hy
      subst hy
      simp only [lC] at h ⊢
      obtain ⟨r, g1, g2⟩ := zmm h
      cases g2
      obtain ⟨e1, e2⟩ := ih g1
      exact ⟨e1, by rw [e2]; rfl⟩
    cases y with
    | one x =>
      cases x with
      | fp cs => exact one cs rfl
      | ptr k o => cases o <;> simp [lC] at h
      | _ => simp [lC] at h
    | agg xs => simp [lC] at h
theorem MG {i : I} (hi : MF i = true) (hs : Same (mD i) σ σ2) (ho : ∀ k o, get σ.ob k = some o → get σ2.ob k = some o) (hE : cO Γ true σ d i = some (pv, σ')) : σ' = σ ∧ cO Γ true σ2 d i = some (pv, σ2) := by
  cases i with
  | alloc e z => cases hi
  | box e x => cases hi
  | Fg e sz len z ps => cases hi
  | yC f xs => cases hi
  | store n x v => cases hi
  | q9 sh => cases hi
  | zY sh x k v => cases hi
  | del sh x k => cases hi
  | app e sz b x y => cases hi
  | mv x =>
    simp only [mD] at hs
    simp only [cO] at hE ⊢
    rw [hs.rD]
    obtain ⟨v, h1, h2⟩ := zmm hE
    cases h2
    rw [h1]; simp only [Option.map_some]; exact ⟨trivial, trivial⟩
  | pick c x y =>
    simp only [mD] at hs
    simp only [cO] at hE ⊢
    obtain ⟨v, h1, h2⟩ := zbm hE
    obtain ⟨t, h3, h4⟩ := zbm h2
    obtain ⟨u, h5, h6⟩ := zmm h4
    cases h6
    rw [hs.l.l.val, h1]
    simp only [Option.bind_some, h3]
    have : Ev.val σ2 (if t then x else y) = Ev.val σ (if t then x else y) := by
      cases t
      · exact hs.r.val
      · exact hs.l.r.val
    rw [this, h5]; exact ⟨trivial, rfl⟩
  | build z ps =>
    simp only [mD] at hs
    simp only [cO] at hE ⊢
    obtain ⟨v, h1, h2⟩ := zbm hE
    obtain ⟨u, h3, h4⟩ := zmm h2
    cases h4
    rw [hs.vals, h1]
    simp only [Option.bind_some, h3, Option.map_some]
    exact ⟨trivial, trivial⟩
  | load n g x =>
    simp only [mD] at hs
    simp only [cO] at hE ⊢
    obtain ⟨v, h1, h2⟩ := zbm hE
    rw [hs.val, h1]
    simp only [Option.bind_some]
    split at h2
    · split at h2
      · rename_i fU
        obtain ⟨l, h3, h4⟩ := zbm h2
        obtain ⟨u, h5, h6⟩ := zmm h4
        cases h6
        simp only [ho _ _ fU, h3, Option.bind_some, h5, Option.map_some]
        exact ⟨trivial, trivial⟩
      · cases h2
    · obtain ⟨l, h3, h4⟩ := zbm h2
      obtain ⟨u, h5, h6⟩ := zmm h4
      cases h6
      simp only [h3, Option.bind_some, h5, Option.map_some]
      exact ⟨trivial, trivial⟩
    · split at h2
      · rename_i fU
        split at h2
        · cases h2
        · rename_i hz
          obtain ⟨r, h7, h8⟩ := zbm h2
          obtain ⟨l, h3, h4⟩ := zbm h8
          obtain ⟨u, h5, h6⟩ := zmm h4
          cases h6
          simp only [ho _ _ fU, if_neg hz, h7, h3, Option.bind_some, h5, Option.map_some]
          exact ⟨trivial, trivial⟩
      · cases h2
    · cases h2
  | kV x =>
    simp only [mD] at hs
    simp only [cO] at hE ⊢
    obtain ⟨v, h1, h2⟩ := zbm hE
    rw [hs.val, h1]
    simp only [Option.bind_some]
    split at h2 <;> cases h2 <;> exact ⟨rfl, rfl⟩
  | mU neg x =>
    simp only [mD] at hs
    simp only [cO] at hE ⊢
    obtain ⟨v, h1, h2⟩ := zbm hE
    rw [hs.val, h1]
    simp only [Option.bind_some]
    split at h2 <;> cases h2 <;> exact ⟨rfl, rfl⟩
  | ar o x y =>
    simp only [mD] at hs
    simp only [cO] at hE ⊢
    obtain ⟨u, h1, hE⟩ := zbm hE
    obtain ⟨v, h2, hE⟩ := zbm hE
    obtain ⟨m, h3, hE⟩ := zbm hE
    obtain ⟨n, h4, hE⟩ := zbm hE
    split at hE
    · rename_i hk
      obtain ⟨r, h5, hE⟩ := zbm hE
      cases hE
      rw [hs.l.val, hs.r.val]
      simp only [h1, h2, h3, h4, h5, Option.bind_some, if_pos hk, one]
      exact ⟨trivial, trivial⟩
    · cases hE
  | cmp o x y =>
    simp only [mD] at hs
    simp only [cO] at hE ⊢
    obtain ⟨u, h1, hE⟩ := zbm hE
    obtain ⟨v, h2, hE⟩ := zbm hE
    obtain ⟨m, h3, hE⟩ := zbm hE
    obtain ⟨n, h4, hE⟩ := zbm hE
    split at hE
    · rename_i hk
      cases hE
      rw [hs.l.val, hs.r.val]
      simp only [h1, h2, h3, h4, Option.bind_some, if_pos hk, one]
      exact ⟨trivial, trivial⟩
    · cases hE
  | tQ sh neg x y =>
    simp only [mD] at hs
    simp only [cO] at hE ⊢
    obtain ⟨u, h1, hE⟩ := zbm hE
    obtain ⟨v, h2, hE⟩ := zbm hE
    obtain ⟨m, h3, hE⟩ := zbm hE
    obtain ⟨n, h4, hE⟩ := zbm hE
    split at hE
    · rename_i hk
      cases hE
      rw [hs.l.val, hs.r.val]
      simp only [h1, h2, h3, h4, Option.bind_some, if_pos hk, one]
      exact ⟨trivial, trivial⟩
    · cases hE
  | cat x y =>
    simp only [mD] at hs
    simp only [cO] at hE ⊢
    obtain ⟨u, h1, hE⟩ := zbm hE
    obtain ⟨v, h2, hE⟩ := zbm hE
    rw [hs.l.val, hs.r.val]
    simp only [h1, h2, Option.bind_some]
    split at hE
    · split at hE
      · rename_i hk; cases hE; simp only [if_pos hk, one]; exact ⟨trivial, trivial⟩
      · cases hE
    · cases hE
  | no x =>
    simp only [mD] at hs
    simp only [cO] at hE ⊢
    obtain ⟨u, h1, hE⟩ := zbm hE
    obtain ⟨v, h2, hE⟩ := zbm hE
    cases hE
    rw [hs.val]
    simp only [h1, h2, Option.bind_some, one]
    exact ⟨trivial, trivial⟩
  | ci k x =>
    simp only [mD] at hs
    simp only [cO] at hE ⊢
    obtain ⟨u, h1, hE⟩ := zbm hE
    obtain ⟨v, h2, hE⟩ := zbm hE
    cases hE
    rw [hs.val]
    simp only [h1, h2, Option.bind_some, one]
    exact ⟨trivial, trivial⟩
  | mV x =>
    simp only [mD] at hs
    simp only [cO] at hE ⊢
    obtain ⟨u, h1, hE⟩ := zbm hE
    rw [hs.val, h1]
    simp only [Option.bind_some]
    split at hE
    · cases hE; exact ⟨rfl, rfl⟩
    · cases hE
  | GV x lo hi =>
    simp only [mD] at hs
    simp only [cO] at hE ⊢
    obtain ⟨u, h1, hE⟩ := zbm hE
    rw [hs.l.l.val, h1]
    simp only [Option.bind_some]
    split at hE
    · obtain ⟨p, h2, hE⟩ := zbm hE
      cases hE
      rw [Same.rng hs.l.r hs.r, h2]
      exact ⟨rfl, rfl⟩
    · cases hE
  | cut sz x lo hi =>
    simp only [mD] at hs
    simp only [cO] at hE ⊢
    obtain ⟨u, h1, hE⟩ := zbm hE
    rw [hs.l.l.val, h1]
    simp only [Option.bind_some]
    split at hE
    · split at hE
      · cases hE
      · rename_i hz
        obtain ⟨p, h2, hE⟩ := zbm hE
        cases hE
        rw [if_neg hz, Same.rng hs.l.r hs.r, h2]
        exact ⟨rfl, rfl⟩
    · obtain ⟨p, h2, hE⟩ := zbm hE
      cases hE
      rw [Same.rng hs.l.r hs.r, h2]
      exact ⟨rfl, rfl⟩
    · split at hE
      · split at hE
        · cases hE
        · obtain ⟨p, h2, hE⟩ := zbm hE
          rw [if_pos trivial] at hE
          cases hE
      · cases hE
    · cases hE
  | fa off x =>
    simp only [mD] at hs
    simp only [cO] at hE ⊢
    obtain ⟨v, h1, h2⟩ := zbm hE
    rw [hs.val, h1]
    simp only [Option.bind_some]
    split at h2 <;> cases h2 <;> exact ⟨rfl, rfl⟩
  | Ma off n g x =>
    simp only [mD] at hs
    simp only [cO] at hE ⊢
    obtain ⟨v, h1, h2⟩ := zbm hE
    rw [hs.val, h1]
    simp only [Option.bind_some]
    split at h2
    · obtain ⟨l, h3, h4⟩ := zbm h2
      obtain ⟨u, h5, h6⟩ := zmm h4
      cases h6
      simp only [h3, Option.bind_some, h5, Option.map_some]
      exact ⟨trivial, trivial⟩
    · cases h2
  | ia sz x i =>
    simp only [mD] at hs
    simp only [cO] at hE ⊢
    obtain ⟨v, h1, hE⟩ := zbm hE
    obtain ⟨j, h2, hE⟩ := zbm hE
    obtain ⟨p, h3, hE⟩ := zbm hE
    rw [hs.l.val, hs.r.val]
    simp only [h1, h2, h3, Option.bind_some]
    split at hE
    · rename_i h0
      rw [if_pos h0]
      split at hE
      · obtain ⟨r, h4, hE⟩ := zbm hE
        split at hE
        · rename_i hk; cases hE; simp only [h4, Option.bind_some, if_pos hk]; exact ⟨trivial, trivial⟩
        · cases hE
      · split at hE
        · rename_i fU
          split at hE
          · rename_i hk; cases hE; simp only [ho _ _ fU, if_pos hk]; exact ⟨trivial, trivial⟩
          · cases hE
        · cases hE
      · cases hE
    · cases hE
  | idx sz len g x i =>
    simp only [mD] at hs
    simp only [cO] at hE ⊢
    obtain ⟨v, h1, hE⟩ := zbm hE
    obtain ⟨j, h2, hE⟩ := zbm hE
    obtain ⟨p, h3, hE⟩ := zbm hE
    rw [hs.l.val, hs.r.val]
    simp only [h1, h2, h3, Option.bind_some]
    split at hE
    · rename_i h0
      rw [if_pos h0]
      split at hE
      · obtain ⟨l, h4, hE⟩ := zbm hE
        obtain ⟨u, h5, h6⟩ := zmm hE
        cases h6
        simp only [h4, Option.bind_some, h5, Option.map_some]
        exact ⟨trivial, trivial⟩
      · cases hE
    · cases hE
  | chr x i =>
    simp only [mD] at hs
    simp only [cO] at hE ⊢
    obtain ⟨v, h1, hE⟩ := zbm hE
    obtain ⟨j, h2, hE⟩ := zbm hE
    obtain ⟨p, h3, hE⟩ := zbm hE
    rw [hs.l.val, hs.r.val]
    simp only [h1, h2, h3, Option.bind_some]
    split at hE
    · split at hE
      · rename_i h0
        obtain ⟨b, h4, hE⟩ := zbm hE
        cases hE
        simp only [if_pos h0, h4, Option.bind_some, one]
        exact ⟨trivial, trivial⟩
      · cases hE
    · cases hE
  | look sh z ok x k =>
    simp only [mD] at hs
    simp only [cO] at hE ⊢
    obtain ⟨v, h1, hE⟩ := zbm hE
    obtain ⟨u, h2, hE⟩ := zbm hE
    obtain ⟨b, h3, hE⟩ := zbm hE
    rw [hs.l.val, hs.r.val]
    simp only [h1, h2, h3, Option.bind_some]
    split at hE
    · cases hE
    · rename_i hsh
      rw [if_neg hsh]
      obtain ⟨r, h4, h5⟩ := zmm hE
      cases h5
      split at h4
      · cases h4; exact ⟨rfl, rfl⟩
      · split at h4
        · rename_i fU
          split at h4
          · rename_i hk; cases h4; simp only [ho _ _ fU, if_pos hk, Option.map_some]; exact ⟨trivial, trivial⟩
          · cases h4
        · cases h4
      · cases h4
  | ext x i =>
    simp only [mD] at hs
    simp only [cO] at hE ⊢
    rw [hs.rD]
    split at hE
    · rename_i l hl
      obtain ⟨v, h1, h2⟩ := zmm hE
      cases h2
      simp only [h1, Option.map_some]
      exact ⟨trivial, trivial⟩
    · cases hE
  | BP x =>
    simp only [mD] at hs
    simp only [cO] at hE ⊢
    obtain ⟨v, h1, h2⟩ := zbm hE
    rw [hs.val, h1]
    simp only [Option.bind_some]
    split at h2 <;> cases h2 <;> exact ⟨rfl, rfl⟩
  | jF x =>
    simp only [mD] at hs
    simp only [cO] at hE ⊢
    obtain ⟨v, h1, h2⟩ := zbm hE
    rw [hs.val, h1]
    simp only [Option.bind_some]
    split at h2 <;> cases h2 <;> exact ⟨rfl, rfl⟩
  | GX x =>
    simp only [mD] at hs
    simp only [cO] at hE ⊢
    obtain ⟨v, h1, h2⟩ := zbm hE
    rw [hs.val, h1]
    simp only [Option.bind_some]
    split at h2
    · cases h2; exact ⟨rfl, rfl⟩
    · split at h2
      · rename_i fU; cases h2; simp only [ho _ _ fU, one]; exact ⟨trivial, trivial⟩
      · cases h2
    · cases h2
  | mn x y =>
    simp only [mD] at hs
    simp only [cO] at hE ⊢
    obtain ⟨u, h1, hE⟩ := zbm hE
    obtain ⟨v, h2, hE⟩ := zbm hE
    obtain ⟨m, h3, hE⟩ := zbm hE
    obtain ⟨n, h4, hE⟩ := zbm hE
    rw [hs.l.val, hs.r.val]
    simp only [h1, h2, h3, h4, Option.bind_some]
    split at hE
    · rename_i hk; cases hE; rw [if_pos hk]; exact ⟨rfl, rfl⟩
    · cases hE
  | mx x y =>
    simp only [mD] at hs
    simp only [cO] at hE ⊢
    obtain ⟨u, h1, hE⟩ := zbm hE
    obtain ⟨v, h2, hE⟩ := zbm hE
    obtain ⟨m, h3, hE⟩ := zbm hE
    obtain ⟨n, h4, hE⟩ := zbm hE
    rw [hs.l.val, hs.r.val]
    simp only [h1, h2, h3, h4, Option.bind_some]
    split at hE
    · rename_i hk; cases hE; rw [if_pos hk]; exact ⟨rfl, rfl⟩
    · cases hE
  | Pt sz z x => cases hi
  | call gv f xs =>
    simp only [mD] at hs
    simp only [cO] at hE ⊢
    obtain ⟨l, h1, hE⟩ := zbm hE
    rw [hs.iW, h1]
    simp only [Option.bind_some]
    exact wR ho hE
  | dyn x xs =>
    simp only [mD] at hs
    simp only [cO] at hE ⊢
    obtain ⟨v, h0, hE⟩ := zbm hE
    rw [hs.l.val, h0]
    simp only [Option.bind_some]
    split at hE
    · obtain ⟨l, h1, hE⟩ := zbm hE
      simp only [hs.r.iW, h1, Option.bind_some]
      exact wR ho hE
    · cases hE
  | QT f xs =>
    simp only [mD] at hs
    simp only [cO] at hE ⊢
    obtain ⟨l, h1, hE⟩ := zbm hE
    rw [hs.iW, h1]
    simp only [Option.bind_some]
    obtain ⟨p, h2, h3⟩ := zmm hE
    cases h3
    obtain ⟨e1, e2⟩ := Eo (σ2 := σ2) h2
    rw [e2]
    exact ⟨e1, rfl⟩
  | zZ neg x =>
    simp only [mD] at hs
    simp only [cO] at hE ⊢
    obtain ⟨v, h1, h2⟩ := zbm hE
    rw [hs.val, h1]
    simp only [Option.bind_some]
    split at h2 <;> cases h2 <;> exact ⟨rfl, rfl⟩
  | bit o x y =>
    simp only [mD] at hs
    simp only [cO] at hE ⊢
    obtain ⟨u, h1, hE⟩ := zbm hE
    obtain ⟨v, h2, hE⟩ := zbm hE
    obtain ⟨m, h3, hE⟩ := zbm hE
    obtain ⟨n, h4, hE⟩ := zbm hE
    rw [hs.l.val, hs.r.val]
    simp only [h1, h2, h3, h4, Option.bind_some]
    split at hE
    · rename_i hk; cases hE; rw [if_pos hk]; exact ⟨rfl, rfl⟩
    · cases hE
  | QS o x y =>
    simp only [mD] at hs
    simp only [cO] at hE ⊢
    obtain ⟨u, h1, hE⟩ := zbm hE
    obtain ⟨v, h2, hE⟩ := zbm hE
    obtain ⟨m, h3, hE⟩ := zbm hE
    obtain ⟨n, h4, hE⟩ := zbm hE
    rw [hs.l.val, hs.r.val]
    simp only [h1, h2, h3, h4, Option.bind_some]
    split at hE
    · rename_i hk; cases hE; rw [if_pos hk]; exact ⟨rfl, rfl⟩
    · cases hE
  | D6 sz x y => simp [cO] at hE
  | cutV sz x y =>
    simp only [mD] at hs
    simp only [cO] at hE ⊢
    obtain ⟨v, h1, hE⟩ := zbm hE
    obtain ⟨j, h2, hE⟩ := zbm hE
    obtain ⟨p, h3, hE⟩ := zbm hE
    rw [hs.l.val, hs.r.val]
    simp only [h1, h2, h3, Option.bind_some]
    split at hE
    · split at hE
      · rename_i fU
        split at hE
        · rename_i hk; cases hE; simp only [ho _ _ fU, if_pos hk]; exact ⟨trivial, trivial⟩
        · cases hE
      · cases hE
    · cases hE
  | Uj x =>
    simp only [mD] at hs
    simp only [cO] at hE ⊢
    obtain ⟨v, h1, h2⟩ := zbm hE
    rw [hs.val, h1]
    simp only [Option.bind_some]
    split at h2
    · obtain ⟨s, h3, h4⟩ := zbm h2
      cases h4
      simp only [h3, Option.bind_some, one]
      exact ⟨trivial, trivial⟩
    · cases h2; exact ⟨rfl, rfl⟩
    · split at h2
      · rename_i fU
        split at h2
        · rename_i hz
          obtain ⟨s, h3, h4⟩ := zbm h2
          cases h4
          simp only [ho _ _ fU, if_pos hz, h3, Option.bind_some, one]
          exact ⟨trivial, trivial⟩
        · cases h2
      · cases h2
    · cases h2
end
end Go.Proofs.Ytdkkgecdhapfhaa.Ev
namespace Go.Proofs.Ytdkkgecdhapfhaa.Ev
open Go
section
variable {Γ : Env} {d : Nat} {σ σ2 σ' : St} {pv : PV}
theorem Ru {α : Type} {l : List (Nat × α)} {k : Nat} (h : ∀ p ∈ l, p.1 ≠ k) : rem l k = l := by
  induction l with
  | nil => rfl
  | cons p l ih =>
    obtain ⟨j, u⟩ := p
    unfold rem
    rw [if_neg (h _ List.mem_cons_self), ih (fun p hp => h p (List.mem_cons_of_mem _ hp))]
theorem jv {key : Nat} : fresh σ key = true ↔ (∀ p ∈ σ.ob, p.1 ≠ key ∧ lJ key p.2 = false) ∧ ∀ p ∈ σ.tm, qw key p.2 = false := by
  simp [fresh]
theorem iV {key : Nat} (h : fresh σ key = true) (o : Ob) : new σ key o = some ⟨σ.tm, (key, o) :: σ.ob⟩ := by
  obtain ⟨h1, h2⟩ := jv.mp h
  have hr := Ru (fun p hp => (h1 p hp).1)
  unfold new Uk
  rw [hr, if_neg]
  · simp only [Option.map_some]
    rw [List.filter_eq_self.mpr (fun p hp => by rw [h2 p hp]; rfl)]
  · intro hc
    obtain ⟨p, hp, hm⟩ := List.any_eq_true.mp hc
    rw [(h1 p hp).2] at hm; cases hm
theorem Hl {x : PL} {y : FV} (hn : gu x = false) (h : vX σ x = some (y, σ')) : σ' = σ ∧ vX σ2 x = some (y, σ2) := by
  cases x with
  | f x => cases h; exact ⟨rfl, rfl⟩
  | fG => cases h; exact ⟨rfl, rfl⟩
  | own k n => cases hn
  | _ => cases h
theorem wS : ∀ {xs : List PL} {ys : List FV} {σ' : St}, xs.any gu = false → kE σ xs = some (ys, σ') → σ' = σ ∧ kE σ2 xs = some (ys, σ2)
  | [], ys, σ', _, h => by cases h; exact ⟨rfl, rfl⟩
  | x :: xs, ys, σ', hn, h => by
    obtain ⟨p, h1, h2⟩ := zbm h
    obtain ⟨r, h3, h4⟩ := zmm h2
    cases h4
    simp only [List.any_cons, Bool.or_eq_false_iff] at hn
    obtain ⟨e1, e2⟩ := Hl (σ2 := σ2) hn.1 h1
    rw [e1] at h3
    obtain ⟨e3, e4⟩ := wS hn.2 h3
    exact ⟨e3, by unfold kE; rw [e2]; simp only [Option.bind_some]; rw [e4]; rfl⟩
theorem VK {i : I} (hi : jA i = true) (hs : Same (mD i) σ σ2) (hf : fresh σ (dB d) = true) (hf2 : fresh σ2 (dB d) = true) (hE : cO Γ true σ d i = some (pv, σ')) :
    ∃ o, σ' = ⟨σ.tm, (dB d, o) :: σ.ob⟩ ∧ cO Γ true σ2 d i = some (pv, ⟨σ2.tm, (dB d, o) :: σ2.ob⟩) := by
  cases i <;> first | cases hi | skip
  · rename_i e z
    simp only [cO] at hE ⊢
    split at hE
    · cases hE
    · rename_i hm
      simp only [gY, iV hf, Option.map_some] at hE
      cases hE
      refine ⟨_, rfl, ?_⟩
      rw [if_neg hm]
      simp only [gY, iV hf2, Option.map_some]
  · rename_i e x
    simp only [mD] at hs
    simp only [cO] at hE ⊢
    obtain ⟨v, h1, h2⟩ := zbm hE
    split at h2
    · cases h2
    · rename_i hm
      simp only [gY, iV hf, Option.map_some] at h2
      cases h2
      refine ⟨_, rfl, ?_⟩
      rw [hs.val, h1]
      simp only [Option.bind_some]
      rw [if_neg hm]
      simp only [gY, iV hf2, Option.map_some]
  · rename_i e sz len z ps
    simp only [mD] at hs
    simp only [cO] at hE ⊢
    obtain ⟨v, h1, hE⟩ := zbm hE
    obtain ⟨u, h2, hE⟩ := zbm hE
    split at hE
    · cases hE
    · rename_i hm
      obtain ⟨p, h3, hE⟩ := zbm hE
      have hn : u.any gu = false := by simpa using hm
      obtain ⟨e1, e2⟩ := wS (σ2 := σ2) hn h3
      rw [e1] at hE
      simp only [gY, iV hf, Option.map_some] at hE
      cases hE
      refine ⟨_, rfl, ?_⟩
      rw [hs.vals, h1]
      simp only [Option.bind_some, h2]
      rw [if_neg hm, e2]
      simp only [Option.bind_some, gY, iV hf2, Option.map_some]
  · rename_i sh
    simp only [cO] at hE ⊢
    simp only [gY, iV hf, Option.map_some] at hE
    cases hE
    exact ⟨_, rfl, by simp only [gY, iV hf2, Option.map_some]⟩
  · rename_i f xs
    simp only [mD] at hs
    simp only [cO, rC] at hE ⊢
    obtain ⟨l, h1, hE⟩ := zbm hE
    obtain ⟨gH, h2, hE⟩ := zbm hE
    obtain ⟨r, h3, hE⟩ := zbm hE
    obtain ⟨p, h4, hE⟩ := zbm hE
    simp only [iV hf, Option.map_some] at hE
    cases hE
    refine ⟨_, rfl, ?_⟩
    rw [hs.iW, h1]
    simp only [Option.bind_some, h2, h3, h4, iV hf2, Option.map_some]
end
end Go.Proofs.Ytdkkgecdhapfhaa.Ev
namespace Go.Proofs.Ytdkkgecdhapfhaa.Ev
open Go
def rd (g : G) : List Nat := mD g.i ++ match g.gd with
  | some (some s, _) => [s]
  | _ => []
section
variable {Γ : Env} {d : Nat} {σ σ2 σ' : St} {pv : PV}
theorem JO {g : G} (hs : Same (rd g) σ σ2) : yF σ2 g.gd = yF σ g.gd := by
  unfold rd at hs
  have hr := hs.r
  cases hg : g.gd with
  | none => rfl
  | some p =>
    obtain ⟨s, want⟩ := p
    cases s with
    | none => rfl
    | some s =>
      rw [hg] at hr
      simp only [yF]
      rw [hr s (by simp)]
theorem rX {g : G} (hi : MF g.i = true) (hs : Same (rd g) σ σ2) (ho : ∀ k o, get σ.ob k = some o → get σ2.ob k = some o) (hE : lK Γ true σ g = some (pv, σ')) : σ' = σ ∧ lK Γ true σ2 g = some (pv, σ2) := by
  unfold lK at hE ⊢
  obtain ⟨t, h1, h2⟩ := zbm hE
  rw [JO hs, h1]
  simp only [Option.bind_some]
  cases t with
  | true =>
    rw [if_pos rfl] at h2 ⊢
    exact MG hi (by unfold rd at hs; exact hs.l) ho h2
  | false =>
    rw [if_neg (by decide)] at h2 ⊢
    cases h2
    exact ⟨rfl, rfl⟩
theorem JQ {g : G} (hi : jA g.i = true) (hg : g.gd = none) (hs : Same (rd g) σ σ2) (hf : fresh σ (dB (g.dst.getD 999)) = true) (hf2 : fresh σ2 (dB (g.dst.getD 999)) = true) (hE : lK Γ true σ g = some (pv, σ')) :
    ∃ o, σ' = ⟨σ.tm, (dB (g.dst.getD 999), o) :: σ.ob⟩ ∧ lK Γ true σ2 g = some (pv, ⟨σ2.tm, (dB (g.dst.getD 999), o) :: σ2.ob⟩) := by
  unfold lK at hE ⊢
  rw [hg] at hE ⊢
  simp only [yF, Option.bind_some, if_true] at hE ⊢
  exact VK hi (by unfold rd at hs; exact hs.l) hf hf2 hE
theorem get_put {α : Type} {l : List (Nat × α)} {i j : Nat} {v : α} : get (put l i v) j = if j = i then some v else get l j := by
  have acn : ∀ {l : List (Nat × α)} {i j : Nat}, j ≠ i → get (rem l i) j = get l j := by
    intro l i j hj
    induction l with
    | nil => rfl
    | cons p l ih =>
      obtain ⟨k, u⟩ := p
      unfold rem
      by_cases hk : k = i
      · rw [if_pos hk, ih]
        conv => rhs; unfold get
        rw [if_neg (fun e => hj (by omega))]
      · rw [if_neg hk]
        unfold get
        rw [ih]
  induction l with
  | nil =>
    unfold put get
    by_cases h : j = i
    · rw [if_pos h, if_pos h.symm]
    · rw [if_neg h, if_neg (fun e => h e.symm)]; rfl
  | cons p l ih =>
    obtain ⟨k, u⟩ := p
    unfold put
    by_cases hk : k = i
    · rw [if_pos hk]
      unfold get
      by_cases h : j = i
      · rw [if_pos h, if_pos h.symm]
      · rw [if_neg h, if_neg (fun e => h e.symm), acn h, if_neg (fun e => h (by omega))]
    · rw [if_neg hk]
      unfold get
      by_cases hkj : k = j
      · rw [if_pos hkj, if_neg (by omega), if_pos hkj]
      · rw [if_neg hkj, ih, if_neg hkj]
theorem Cr {b : Bool} (h : ¬ b = true) : b = false := Bool.eq_false_iff.mpr h
def iX (Γ : Env) (qx : List (Nat × Ob)) (pre : List (G × List Nat)) (yK : List (Nat × PV)) : Nat → List (Nat × PV)
  | 0 => yK
  | i + 1 => match pre[i]? with
    | some g => match lK Γ true ⟨iX Γ qx pre yK i, qx⟩ g.1 with
      | some p => rF g.1.dst (iX Γ qx pre yK i) p.1
      | none => iX Γ qx pre yK i
    | none => iX Γ qx pre yK i
structure Can (Γ : Env) (qx : List (Nat × Ob)) (pre : List (G × List Nat)) (yK : List (Nat × PV)) (i : Nat) (pv : PV) (s : St) : Prop where
  lt : i < pre.length
  ev : lK Γ true ⟨iX Γ qx pre yK i, qx⟩ (pre[i]'lt).1 = some (pv, s)
  nx : iX Γ qx pre yK (i + 1) = rF (pre[i]'lt).1.dst (iX Γ qx pre yK i) pv
  nk : ∀ k ∈ (pre[i]'lt).2, qw k pv = false ∧ (jA (pre[i]'lt).1.i = true → ∀ r ∈ s.ob.take 1, r.1 ≠ k ∧ lJ k r.2 = false)
theorem Ct {qx : List (Nat × Ob)} {pre : List (G × List Nat)} {yK : List (Nat × PV)} : ∀ (n i : Nat) (Zt : List (Nat × Ob)) (s : St), n + i = pre.length → Mg Γ qx (pre.drop i) ⟨iX Γ qx pre yK i, Zt⟩ = some s →
    (∀ j, i ≤ j → j < pre.length → ∃ pv st, Can Γ qx pre yK j pv st) ∧ s.tm = iX Γ qx pre yK pre.length ∧
    ∃ news, s.ob = news ++ Zt ∧ ∀ p ∈ news, ∃ j pv st, i ≤ j ∧ j < pre.length ∧ ∃ (h : Can Γ qx pre yK j pv st), jA (pre[j]'h.lt).1.i = true ∧ p ∈ st.ob.take 1
  | 0, i, Zt, s, hn, hE => by
    rw [List.drop_eq_nil_of_le (by omega)] at hE
    cases hE
    refine ⟨fun j h1 h2 => by omega, by rw [show pre.length = i from by omega], [], rfl, fun p hp => by simp at hp⟩
  | n + 1, i, Zt, s, hn, hE => by
    have hi : i < pre.length := by omega
    rw [List.drop_eq_getElem_cons hi] at hE
    obtain ⟨g, nk, hp⟩ : ∃ g nk, pre[i] = (g, nk) := ⟨_, _, rfl⟩
    rw [hp] at hE
    simp only [Mg] at hE
    obtain ⟨p, h1, h2⟩ := zbm hE
    split at h2
    · cases h2
    · rename_i hnk
      have hnx : iX Γ qx pre yK (i + 1) = rF g.dst (iX Γ qx pre yK i) p.1 := by
        conv => lhs; unfold iX
        rw [List.getElem?_eq_getElem hi, hp]
        simp only [h1]
      have hcan : Can Γ qx pre yK i p.1 p.2 := ⟨hi, by rw [hp]; exact h1, by rw [hp]; exact hnx, fun k hk => by
        rw [hp] at hk ⊢
        have hk' : ¬ (qw k p.1 || (jA g.i && (p.2.ob.take 1).any (fun r => r.1 == k || lJ k r.2))) = true := fun hc => hnk (List.any_eq_true.mpr ⟨k, hk, hc⟩)
        rw [Bool.or_eq_true, not_or] at hk'
        refine ⟨Cr hk'.1, fun hN r hr => ?_⟩
        have := hk'.2
        rw [hN, Bool.true_and] at this
        have hr' : ¬ (r.1 == k || lJ k r.2) = true := fun hc => this (List.any_eq_true.mpr ⟨r, hr, hc⟩)
        rw [Bool.or_eq_true, not_or] at hr'
        exact ⟨by simpa using hr'.1, Cr hr'.2⟩⟩
      rw [← hnx] at h2
      obtain ⟨e1, e2, news, e3, e4⟩ := Ct n (i + 1) _ s (by omega) h2
      refine ⟨fun j h3 h4 => ?_, e2, news ++ (if jA g.i then p.2.ob.take 1 else []), ?_, fun r hr => ?_⟩
      · by_cases hj : j = i
        · subst hj; exact ⟨_, _, hcan⟩
        · exact e1 j (by omega) h4
      · rw [e3]
        cases jA g.i <;> simp
      · rcases List.mem_append.mp hr with h | h
        · obtain ⟨j, pv, st, h3, h4, h5⟩ := e4 r h
          exact ⟨j, pv, st, by omega, h4, h5⟩
        · split at h
          · rename_i hN
            exact ⟨i, p.1, p.2, Nat.le_refl _, hi, hcan, by rw [hp]; exact hN, h⟩
          · simp at h
end
end Go.Proofs.Ytdkkgecdhapfhaa.Ev
namespace Go.Proofs.Ytdkkgecdhapfhaa.Ev
open Go
def lQ (o : Oper) : List Nat := (o.after.toList.filter (fun e => Region.binds .any e)).map (·.on)
inductive JR (ops : Array Oper) : Nat → Nat → Prop
  | dir {i e : Nat} (h : i < ops.size) (he : e ∈ lQ ops[i]) : JR ops e i
  | step {i e j : Nat} (h : i < ops.size) (he : e ∈ lQ ops[i]) (hj : JR ops j e) : JR ops j i
def isLt (g : G) : Bool := g.dst.isNone && g.gd.isNone && (match g.i with
  | .store _ _ _ => true
  | _ => false)
structure JU (ops : Array Oper) (pre : List (G × List Nat)) (lu : List Nat) (jG rest : List G) : Prop where
  len : ops.size = pre.length + (jG.length + rest.length)
  lt : ∀ i (h : i < ops.size), ∀ e ∈ lQ ops[i], e < i
  data : ∀ i (h : i < pre.length) (h' : i < ops.size), ∀ s ∈ rd pre[i].1, ∀ j (hj : j < pre.length), pre[j].1.dst = some s → j ∈ lQ ops[i]
  dst : ∀ i j (h : i < pre.length) (hj : j < pre.length), i ≠ j → ∀ s, pre[i].1.dst = some s → pre[j].1.dst ≠ some s
  cls : ∀ i (h : i < pre.length), MF pre[i].1.i = true ∨ (jA pre[i].1.i = true ∧ pre[i].1.gd = none)
  nk : ∀ i j (h : i < pre.length) (hj : j < pre.length), i ≠ j → jA pre[i].1.i = true → dB (pre[i].1.dst.getD 999) ∈ pre[j].2 ∨ JR ops i j
  tl : ∀ k, pre.length ≤ k → k < ops.size → ∀ j, j < k → JR ops j k ∨ (j < pre.length ∧ j ∈ lu ∧ k < pre.length + jG.length)
  fl : ∀ j ∈ lu, ∀ (h : j < pre.length), MF pre[j].1.i = true
  lt' : ∀ g ∈ jG, isLt g = true
  ld : ∀ m (h : m < jG.length) (h' : pre.length + m < ops.size), ∀ s ∈ rd jG[m], ∀ j (hj : j < pre.length), pre[j].1.dst = some s → j ∈ lQ ops[pre.length + m]
def Dn (l : Array Bool) (i : Nat) : Prop := l.getD i false = true
section
variable {P : Program} {Γ : Env} {bI : Nat → Prop} {w0 w w' : World} {bH : List Nat} {N : Fr} {jr : Nat → Value} {σ σ' : St} {a : Act} {X : Hx} {ops : Array Oper} {pre : List (G × List Nat)} {lu : List Nat} {jG rest : List G} {l : Array Bool} {Q : Exit → Act → World → Prop}
def Down (ops : Array Oper) (l : Array Bool) : Prop := ∀ i (h : i < ops.size), Dn l i → ∀ e ∈ lQ ops[i], Dn l e
theorem Down.VL (hd : Down ops l) (hD : JU ops pre lu jG rest) {i j : Nat} (hb : JR ops j i) : (∀ (h : i < ops.size), ∀ e ∈ lQ ops[i], Dn l e) → Dn l j := by
  induction hb with
  | dir h he => intro hr; exact hr h _ he
  | step h he hj ih =>
    intro hr
    exact ih (fun h' => hd _ h' (hr h _ he))
theorem jN {i : Nat} (hl : l.size = ops.size) : i ∈ Region.ready .any ops l ↔ ∃ (h : i < ops.size), ¬ Dn l i ∧ ∀ e ∈ lQ ops[i], Dn l e := by
  unfold Region.ready
  rw [List.mem_filter, List.mem_range]
  constructor
  · rintro ⟨h, hh⟩
    refine ⟨h, ?_⟩
    rw [Bool.and_eq_true, Array.getElem?_eq_getElem h] at hh
    simp only [Option.map_some, Option.getD_some] at hh
    refine ⟨fun hd => ?_, fun e he => ?_⟩
    · have h1 := hh.1
      unfold Dn at hd
      rw [Array.getD_eq_getD_getElem?, Array.getElem?_eq_getElem (by omega)] at hd h1
      simp only [Option.getD_some] at hd h1
      rw [hd] at h1; cases h1
    · obtain ⟨x, hx, rfl⟩ := List.mem_map.mp he
      obtain ⟨hx1, hx2⟩ := List.mem_filter.mp hx
      have := (Array.all_eq_true_iff_forall_mem.mp hh.2) x (by simpa using hx1)
      rw [hx2] at this
      exact this
  · rintro ⟨h, h1, h2⟩
    refine ⟨h, ?_⟩
    rw [Bool.and_eq_true, Array.getElem?_eq_getElem h]
    simp only [Option.map_some, Option.getD_some]
    constructor
    · unfold Dn at h1
      rw [Array.getD_eq_getD_getElem?, Array.getElem?_eq_getElem (by omega)] at h1 ⊢
      simp only [Option.getD_some] at h1 ⊢
      simpa using h1
    · refine Array.all_eq_true_iff_forall_mem.mpr fun x hx => ?_
      cases hb : Region.binds .any x with
      | false => rfl
      | true => exact h2 x.on (List.mem_map.mpr ⟨x, List.mem_filter.mpr ⟨by simpa using hx, hb⟩, rfl⟩)
theorem Dn.set {i j : Nat} (hi : i < l.size) : Dn (l.setIfInBounds i true) j ↔ j = i ∨ Dn l j := by
  unfold Dn
  rw [Array.getD_eq_getD_getElem?, Array.getD_eq_getD_getElem?, Array.getElem?_setIfInBounds]
  by_cases h : i = j
  · subst h
    rw [if_pos rfl, if_pos hi]
    simp
  · rw [if_neg h]
    constructor
    · exact fun hh => .inr hh
    · rintro (hh | hh)
      · exact absurd hh.symm h
      · exact hh
def left (l : Array Bool) : Nat := (l.toList.filter (!·)).length
theorem nu {i : Nat} (hi : i < l.size) (hn : ¬ Dn l i) : left (l.setIfInBounds i true) + 1 = left l := by
  unfold left
  rw [Array.toList_setIfInBounds]
  have hv : l.toList[i]? = some false := by
    unfold Dn at hn
    rw [Array.getD_eq_getD_getElem?, Array.getElem?_eq_getElem hi] at hn
    simp only [Option.getD_some] at hn
    rw [Array.getElem?_toList, Array.getElem?_eq_getElem hi]
    simpa using hn
  have key : ∀ (l : List Bool) (i : Nat), l[i]? = some false → ((l.set i true).filter (!·)).length + 1 = (l.filter (!·)).length := by
    intro l
    induction l with
    | nil => intro i h; simp at h
    | cons b l ih =>
      intro i h
      cases i with
      | zero => simp at h; subst h; simp
      | succ i =>
        have := ih i (by simpa using h)
        cases b <;> simp_all
  exact key l.toList i hv
theorem rY (hd : Down ops l) {i : Nat} (hl : l.size = ops.size) (hi : i < ops.size) (hr : ∀ e ∈ lQ ops[i], Dn l e) : Down ops (l.setIfInBounds i true) := by
  intro j hj hD e he
  rcases (Dn.set (by omega)).mp hD with rfl | hD
  · exact (Dn.set (by omega)).mpr (.inr (hr e he))
  · exact (Dn.set (by omega)).mpr (.inr (hd j hj hD e he))
theorem oz (hD : JU ops pre lu jG rest) (hl : l.size = ops.size) {i : Nat} (hi : i < ops.size) (hn : ¬ Dn l i) : Region.ready .any ops l ≠ [] := by
  have key : ∀ (n i : Nat), i ≤ n → (hi : i < ops.size) → ¬ Dn l i → ∃ j, j ∈ Region.ready .any ops l := by
    intro n
    induction n with
    | zero =>
      intro i h0 hi hn
      exact ⟨i, (jN hl).mpr ⟨hi, hn, fun e he => by have := hD.lt i hi e he; omega⟩⟩
    | succ n ih =>
      intro i h0 hi hn
      by_cases hall : ∀ e ∈ lQ ops[i], Dn l e
      · exact ⟨i, (jN hl).mpr ⟨hi, hn, hall⟩⟩
      · have : ∃ e, e ∈ lQ ops[i] ∧ ¬ Dn l e := by
          apply Classical.byContradiction
          intro hc
          exact hall (fun e he => Classical.byContradiction fun hne => hc ⟨e, he, hne⟩)
        obtain ⟨e, he, hne⟩ := this
        have := hD.lt i hi e he
        exact ih e (by omega) (by omega) hne
  obtain ⟨j, hj⟩ := key i i (Nat.le_refl _) hi hn
  intro e
  rw [e] at hj
  simp at hj
end
end Go.Proofs.Ytdkkgecdhapfhaa.Ev
namespace Go.Proofs.Ytdkkgecdhapfhaa.Ev
open Go
section
variable {P : Program} {Γ : Env} {bI : Nat → Prop} {w0 w w' : World} {bH : List Nat} {N : Fr} {jr : Nat → Value} {σ σ' : St} {a : Act} {X : Hx} {ops : Array Oper} {pre : List (G × List Nat)} {lu : List Nat} {jG rest : List G} {l : Array Bool} {Q : Exit → Act → World → Prop}
theorem kH : ∀ {l : List Oper} {gs : List G}, lM P X ops N.ok l = some gs → l.length = gs.length ∧ ∀ i (h : i < l.length) (h' : i < gs.length), y7 P X ops N.ok l[i] = some gs[i]
  | [], gs, h => by cases h; exact ⟨rfl, fun i h => by simp at h⟩
  | o :: l, gs, h => by
    obtain ⟨g, h1, h2⟩ := zbm h
    obtain ⟨r, h3, rfl⟩ := zmm h2
    obtain ⟨e1, e2⟩ := kH h3
    refine ⟨by simp [e1], fun i hi hi' => ?_⟩
    cases i with
    | zero => exact h1
    | succ i => exact e2 i (by simpa using hi) (by simpa using hi')
theorem lS {fuel : Nat} : wpAny P .any ops Q (fuel + 1) l a w = ((Region.ready .any ops l = [] → Q .normal a w) ∧ ∀ i ∈ Region.ready .any ops l, wpOp P ops Q i (wpAny P .any ops Q fuel (l.setIfInBounds i true)) a w) := rfl
theorem Rv (hD : JU ops pre lu jG rest) (heq : ∀ t ∈ X.eqs, lD P t) (l9 : iP P Γ) (hC : eO P Γ) (hc : lM P X ops N.ok ops.toList = some (pre.map (·.1) ++ (jG ++ rest))) (hQ : ∀ a' w', Ok bI w0 bH N jr σ' a' w' → Q .normal a' w') :
    ∀ (fuel k : Nat) (l : Array Bool) (σ : St) (a : Act) (w : World), l.size = ops.size → pre.length + jG.length ≤ k → k ≤ ops.size → (∀ i, i < ops.size → (Dn l i ↔ i < k)) → Down ops l → left l ≤ fuel → Ok bI w0 bH N jr σ a w → BR Γ false (rest.drop (k - (pre.length + jG.length))) σ = some σ' → wpAny P .any ops Q fuel l a w := by
  intro fuel
  have hcg := kH hc
  have hlen := hD.len
  have nil : ∀ {k : Nat} {l : Array Bool}, l.size = ops.size → k = ops.size → (∀ i, i < ops.size → (Dn l i ↔ i < k)) → Region.ready .any ops l = [] := by
    intro k l hl hk hd
    refine List.eq_nil_iff_forall_not_mem.mpr fun i hi => ?_
    obtain ⟨h1, h2, _⟩ := (jN hl).mp hi
    exact h2 ((hd i h1).mpr (by omega))
  have pos : ∀ {k : Nat} {l : Array Bool}, l.size = ops.size → k < ops.size → (∀ i, i < ops.size → (Dn l i ↔ i < k)) → 0 < left l := by
    intro k l hl hk hd
    have := nu (l := l) (i := k) (by omega) (fun h => by have := (hd k hk).mp h; omega)
    omega
  induction fuel with
  | zero =>
    intro k l σ a w hl h1 h2 hd hdn hf h hE
    by_cases hk : k = ops.size
    · refine ⟨nil hl hk hd, ?_⟩
      rw [List.drop_eq_nil_of_le (by omega)] at hE
      cases hE
      exact hQ a w h
    · have := pos hl (by omega) hd
      omega
  | succ fuel ih =>
    intro k l σ a w hl h1 h2 hd hdn hf h hE
    rw [lS]
    by_cases hk : k = ops.size
    · have hn := nil hl hk hd
      refine ⟨fun _ => ?_, fun i hi => by rw [hn] at hi; simp at hi⟩
      rw [List.drop_eq_nil_of_le (by omega)] at hE
      cases hE
      exact hQ a w h
    · have hk' : k < ops.size := by omega
      have hnk : ¬ Dn l k := fun hh => by have := (hd k hk').mp hh; omega
      refine ⟨fun hn => absurd hn (oz hD hl hk' hnk), fun i hi => ?_⟩
      obtain ⟨hi1, hi2, hi3⟩ := (jN hl).mp hi
      have hik : i = k := by
        have hge : k ≤ i := by
          apply Classical.byContradiction
          intro hlt
          exact hi2 ((hd i hi1).mpr (by omega))
        apply Classical.byContradiction
        intro hne
        rcases hD.tl i (by omega) hi1 k (by omega) with hb | ⟨_, _, hb⟩
        · exact hnk (hdn.VL hD hb (fun _ => hi3))
        · omega
      subst hik
      unfold wpOp
      rw [Array.getElem?_eq_getElem hi1]
      have ht : i - (pre.length + jG.length) < rest.length := by omega
      rw [List.drop_eq_getElem_cons ht] at hE
      obtain ⟨s, h4, h5⟩ := zbm hE
      have hg := hcg.2 i (by simpa using hi1) (by simp; omega)
      rw [List.getElem_append_right (by simp; omega), List.getElem_append_right (by simp; omega)] at hg
      simp only [List.length_map, Array.getElem_toList, Nat.sub_sub] at hg
      refine Em heq l9 hC hg h h4 fun a' w' h' => ?_
      refine ih (i + 1) _ s a' w' (by simp [hl]) (by omega) (by omega) (fun j hj => ?_) (rY hdn hl hi1 hi3) ?_ h' (by rw [show i + 1 - (pre.length + jG.length) = i - (pre.length + jG.length) + 1 from by omega]; exact h5)
      · rw [Dn.set (by omega)]
        rw [hd j hj]
        omega
      · have := nu (l := l) (i := i) (by omega) hnk
        omega
end
end Go.Proofs.Ytdkkgecdhapfhaa.Ev
namespace Go.Proofs.Ytdkkgecdhapfhaa.Ev
open Go
structure JV (Γ : Env) (pre : List (G × List Nat)) (fH : St) (l : Array Bool) (σ : St) : Prop where
  tg1 : ∀ i pv st (h : Can Γ fH.ob pre fH.tm i pv st), Dn l i → ∀ s, (pre[i]'h.lt).1.dst = some s → get σ.tm s = some pv
  tg2 : ∀ s, (∀ i (h : i < pre.length), Dn l i → pre[i].1.dst ≠ some s) → get σ.tm s = get fH.tm s
  ob1 : ∃ news, σ.ob = news ++ fH.ob ∧ ∀ p ∈ news, ∃ i, ∃ (h : i < pre.length), jA pre[i].1.i = true ∧ p.1 = dB (pre[i].1.dst.getD 999)
  ob2 : ∀ i pv st (h : Can Γ fH.ob pre fH.tm i pv st), Dn l i → jA (pre[i]'h.lt).1.i = true → ∀ p ∈ st.ob.take 1, p ∈ σ.ob
  fr : ∀ i (h : i < pre.length), jA pre[i].1.i = true → ¬ Dn l i → fresh σ (dB (pre[i].1.dst.getD 999)) = true
section
variable {Γ : Env} {σ fH σ' : St} {ops : Array Oper} {pre : List (G × List Nat)} {lu : List Nat} {jG rest : List G} {l : Array Bool}
theorem Can.uniq {qx : List (Nat × Ob)} {yK : List (Nat × PV)} {i : Nat} {pv pv' : PV} {s s' : St} (h : Can Γ qx pre yK i pv s) (h' : Can Γ qx pre yK i pv' s') : pv = pv' ∧ s = s' := by
  have := h.ev.symm.trans h'.ev
  simp only [Option.some.injEq, Prod.mk.injEq] at this
  exact this
theorem oC {d : Option Nat} {tm : List (Nat × PV)} {v : PV} {s : Nat} : get (rF d tm v) s = if d = some s then some v else get tm s := by
  cases d with
  | none => simp [rF]
  | some d =>
    simp only [rF, get_put, Option.some.injEq]
    by_cases h : s = d
    · rw [if_pos h, if_pos h.symm]
    · rw [if_neg h, if_neg (fun e => h e.symm)]
theorem Cu {d : Option Nat} {tm : List (Nat × PV)} {v : PV} {p : Nat × PV} (h : p ∈ rF d tm v) : p.2 = v ∨ p ∈ tm := by
  cases d with
  | none => exact .inr h
  | some d =>
    rcases gZ h with rfl | ⟨h, _⟩
    · exact .inl rfl
    · exact .inr h
theorem rZ (hD : JU ops pre lu jG rest) (hall : ∀ j, j < pre.length → ∃ pv st, Can Γ fH.ob pre fH.tm j pv st) : ∀ i, i ≤ pre.length →
    (∀ j pv st (h : Can Γ fH.ob pre fH.tm j pv st), j < i → ∀ s, (pre[j]'h.lt).1.dst = some s → get (iX Γ fH.ob pre fH.tm i) s = some pv) ∧
    (∀ s, (∀ j (h : j < pre.length), j < i → pre[j].1.dst ≠ some s) → get (iX Γ fH.ob pre fH.tm i) s = get fH.tm s) ∧
    ∀ p ∈ iX Γ fH.ob pre fH.tm i, p ∈ fH.tm ∨ ∃ j pv st, j < i ∧ Can Γ fH.ob pre fH.tm j pv st ∧ p.2 = pv
  | 0, _ => ⟨fun j _ _ _ h => by omega, fun s _ => rfl, fun p hp => .inl hp⟩
  | i + 1, hi => by
    obtain ⟨e1, e2, e3⟩ := rZ hD hall i (by omega)
    obtain ⟨pv, st, hc⟩ := hall i (by omega)
    rw [hc.nx]
    refine ⟨fun j pv' st' h hj s hs => ?_, fun s hs => ?_, fun p hp => ?_⟩
    · rw [oC]
      by_cases hji : j = i
      · subst hji
        rw [if_pos hs, (h.uniq hc).1]
      · rw [if_neg (hD.dst j i h.lt hc.lt hji s hs), e1 j pv' st' h (by omega) s hs]
    · rw [oC, if_neg (hs i hc.lt (by omega))]
      exact e2 s (fun j h hj => hs j h (by omega))
    · rcases Cu hp with h | h
      · exact .inr ⟨i, pv, st, by omega, hc, h⟩
      · rcases e3 p h with h | ⟨j, pv', st', h1, h2, h3⟩
        · exact .inl h
        · exact .inr ⟨j, pv', st', by omega, h2, h3⟩
theorem JR.lt (hD : JU ops pre lu jG rest) {i j : Nat} (h : JR ops j i) : j < i := by
  induction h with
  | dir h he => exact hD.lt _ h _ he
  | step h he hj ih => have := hD.lt _ h _ he; omega
theorem FN {α : Type} {l m : List (Nat × α)} {k : Nat} (h : ∀ p ∈ l, p.1 ≠ k) : get (l ++ m) k = get m k := by
  induction l with
  | nil => rfl
  | cons p l ih =>
    obtain ⟨j, u⟩ := p
    rw [List.cons_append]
    conv => lhs; unfold get
    rw [if_neg (h _ List.mem_cons_self), ih (fun p hp => h p (List.mem_cons_of_mem _ hp))]
theorem AA : ∀ {i : I}, MF i = true → jA i = true → False := by
  intro i h1 h2
  cases i <;> simp [MF, jA] at h1 h2
theorem VN (hD : JU ops pre lu jG rest) (hall : ∀ j, j < pre.length → ∃ pv st, Can Γ fH.ob pre fH.tm j pv st) (hfr : ∀ i (h : i < pre.length), jA pre[i].1.i = true → fresh fH (dB (pre[i].1.dst.getD 999)) = true)
    (hI : JV Γ pre fH l σ) (hl : l.size = ops.size) (hdn : Down ops l) {i : Nat} (hi : i < pre.length) (hi' : i < ops.size) (hn : ¬ Dn l i) (hr : ∀ e ∈ lQ ops[i], Dn l e) :
    ∃ pv σ1, lK Γ true σ pre[i].1 = some (pv, σ1) ∧ JV Γ pre fH (l.setIfInBounds i true) (rE σ1 pre[i].1.dst pv) := by
  obtain ⟨pv, st, hc⟩ := hall i hi
  obtain ⟨c1, c2, c3⟩ := rZ hD hall i (by omega)
  have hset : ∀ {j}, Dn (l.setIfInBounds i true) j ↔ j = i ∨ Dn l j := fun {j} => Dn.set (by omega)
  have hsame : Same (rd pre[i].1) ⟨iX Γ fH.ob pre fH.tm i, fH.ob⟩ σ := by
    intro s hs
    by_cases hw : ∃ j, ∃ (h : j < pre.length), pre[j].1.dst = some s
    · obtain ⟨j, hj, hjs⟩ := hw
      have Zu := hD.data i hi hi' s hs j hj hjs
      obtain ⟨pv', st', hc'⟩ := hall j hj
      rw [hI.tg1 j pv' st' hc' (hr j Zu) s hjs, c1 j pv' st' hc' (hD.lt i hi' j Zu) s hjs]
    · have hw' : ∀ j (h : j < pre.length), pre[j].1.dst ≠ some s := fun j h e => hw ⟨j, h, e⟩
      rw [hI.tg2 s (fun j h _ => hw' j h), c2 s (fun j h _ => hw' j h)]
  have hnk : ∀ j (h : j < pre.length), jA pre[j].1.i = true → ¬ Dn l j → j ≠ i → dB (pre[j].1.dst.getD 999) ∈ pre[i].2 := by
    intro j h hN hdj hji
    rcases hD.nk j i h hi hji hN with h1 | h1
    · exact h1
    · exact absurd (hdn.VL hD h1 (fun _ => hr)) hdj
  obtain ⟨news, ho1, ho2⟩ := hI.ob1
  have hkey : ∀ k o, get fH.ob k = some o → get σ.ob k = some o := by
    intro k o hk
    rw [ho1, FN]
    · exact hk
    · intro p hp e
      obtain ⟨j, hj, hN, hpk⟩ := ho2 p hp
      have := (jv.mp (hfr j hj hN)).1 _ (get_mem hk)
      exact this.1 (by show k = _; rw [← e, hpk])
  have fin : ∀ (σ1 : St) (new : List (Nat × Ob)), σ1.tm = σ.tm → σ1.ob = new ++ σ.ob → (∀ p ∈ new, jA pre[i].1.i = true ∧ p.1 = dB (pre[i].1.dst.getD 999)) → (jA pre[i].1.i = true → new = st.ob.take 1) → JV Γ pre fH (l.setIfInBounds i true) (rE σ1 pre[i].1.dst pv) := by
    intro σ1 new ht fU hnew hst
    have PG : (rE σ1 pre[i].1.dst pv).tm = rF pre[i].1.dst σ.tm pv := by
      unfold rE rF
      cases pre[i].1.dst <;> simp [ht]
    have Rw : (rE σ1 pre[i].1.dst pv).ob = new ++ σ.ob := by
      unfold rE
      cases pre[i].1.dst <;> simp [fU]
    refine ⟨fun j pv' st' h hd s hs => ?_, fun s hs => ?_, ⟨new ++ news, by rw [Rw, ho1, List.append_assoc], fun p hp => ?_⟩, fun j pv' st' h hd hN p hp => ?_, fun j h hN hd => ?_⟩
    · rw [PG, oC]
      rcases hset.mp hd with rfl | hd
      · rw [if_pos hs, (h.uniq hc).1]
      · have hji : j ≠ i := fun e => hn (e ▸ hd)
        rw [if_neg (hD.dst j i h.lt hi hji s hs)]
        exact hI.tg1 j pv' st' h hd s hs
    · rw [PG, oC, if_neg (hs i hi (hset.mpr (.inl rfl)))]
      exact hI.tg2 s (fun j h hd => hs j h (hset.mpr (.inr hd)))
    · rcases List.mem_append.mp hp with hp | hp
      · exact ⟨i, hi, hnew p hp⟩
      · exact ho2 p hp
    · rw [Rw]
      rcases hset.mp hd with rfl | hd
      · refine List.mem_append_left _ ?_
        rw [hst hN, (hc.uniq h).2]; exact hp
      · exact List.mem_append_right _ (hI.ob2 j pv' st' h hd hN p hp)
    · have hji : j ≠ i := fun e => hd (hset.mpr (.inl e))
      have hdj : ¬ Dn l j := fun e => hd (hset.mpr (.inr e))
      have hk := hnk j h hN hdj hji
      obtain ⟨f1, f2⟩ := jv.mp (hI.fr j h hN hdj)
      obtain ⟨g1, g2⟩ := hc.nk _ hk
      refine jv.mpr ⟨fun p hp => ?_, fun p hp => ?_⟩
      · rw [Rw] at hp
        rcases List.mem_append.mp hp with hp | hp
        · have hNi := (hnew p hp).1
          exact g2 hNi p (by rw [← hst hNi]; exact hp)
        · exact f1 p hp
      · rw [PG] at hp
        rcases Cu hp with h | h
        · rw [h]; exact g1
        · exact f2 p h
  rcases hD.cls i hi with hV | ⟨hN, hgd⟩
  · obtain ⟨e1, e2⟩ := rX hV hsame hkey hc.ev
    refine ⟨pv, σ, e2, fin σ [] rfl rfl (fun p hp => by simp at hp) (fun hN => ?_)⟩
    exact (AA hV hN).elim
  · have hfc : fresh ⟨iX Γ fH.ob pre fH.tm i, fH.ob⟩ (dB (pre[i].1.dst.getD 999)) = true := by
      obtain ⟨f1, f2⟩ := jv.mp (hfr i hi hN)
      refine jv.mpr ⟨f1, fun p hp => ?_⟩
      rcases c3 p hp with h | ⟨j, pv', st', h1, h2, h3⟩
      · exact f2 p h
      · rcases hD.nk i j hi h2.lt (by omega) hN with h4 | h4
        · rw [h3]; exact (h2.nk _ h4).1
        · have := h4.lt hD; omega
    obtain ⟨o, e1, e2⟩ := JQ hN hgd hsame hfc (hI.fr i hi hN hn) hc.ev
    refine ⟨pv, _, e2, fin _ [(dB (pre[i].1.dst.getD 999), o)] rfl rfl (fun p hp => by simp at hp; exact ⟨hN, by rw [hp]⟩) (fun _ => by rw [e1]; rfl)⟩
end
end Go.Proofs.Ytdkkgecdhapfhaa.Ev
namespace Go.Proofs.Ytdkkgecdhapfhaa.Ev
open Go
section
variable {P : Program} {Γ : Env} {bI : Nat → Prop} {w0 w w' : World} {bH : List Nat} {N : Fr} {d : Nat} {jr : Nat → Value} {σ fH σ' : St} {a : Act} {X : Hx} {ops : Array Oper} {pre : List (G × List Nat)} {lu : List Nat} {jG rest : List G} {l : Array Bool} {Q : Exit → Act → World → Prop} {pv : PV}
theorem Rx {tm Zv : List (Nat × PV)} {ob : List (Nat × Ob)} {n key off : Nat} {x y : d9} {s : St} (hv : val ⟨tm, ob⟩ x = some (.one (.ptr key off))) (hE : cO Γ true ⟨tm, ob⟩ d (.store n x y) = some (pv, s)) :
    s.tm = tm ∧ (Same (mD (.store n x y)) ⟨tm, ob⟩ ⟨Zv, ob⟩ → ∀ q d, cO Γ q ⟨Zv, ob⟩ d (.store n x y) = some (pv, ⟨Zv, s.ob⟩)) ∧ ∀ k o, k ≠ key → get ob k = some o → get s.ob k = some o := by
  simp only [cO] at hE
  rw [hv] at hE
  simp only [Option.bind_some] at hE
  obtain ⟨u, h1, h2⟩ := zbm hE
  split at h2
  · rename_i hc
    split at h2
    · rename_i xs fU
      obtain ⟨l, h3, h4⟩ := zmm h2
      cases h4
      refine ⟨rfl, fun hs q d => ?_, fun k o hk hg => ?_⟩
      · simp only [cO]
        simp only [mD] at hs
        rw [hs.l.val, hv, Option.bind_some, hs.r.val, h1, Option.bind_some, if_pos hc]
        simp only [fU]
        simp only [h3, Option.map_some, jc]
      · simp only [jc, get_put, if_neg hk]
        exact hg
    · cases h2
  · cases h2
theorem Ry {tm : List (Nat × PV)} {ob ob' : List (Nat × Ob)} {x : d9} : val ⟨tm, ob⟩ x = val ⟨tm, ob'⟩ x := by
  cases x <;> rfl
theorem get_filter {α : Type} {l : List (Nat × α)} {p : Nat → Bool} {k : Nat} {o : α} (h : get (l.filter fun x => p x.1) k = some o) : p k = true ∧ get l k = some o := by
  induction l with
  | nil => cases h
  | cons q l ih =>
    obtain ⟨j, u⟩ := q
    rw [List.filter_cons] at h
    by_cases hp : p j = true
    · rw [if_pos hp] at h
      unfold get at h ⊢
      by_cases hj : j = k
      · rw [if_pos hj] at h ⊢
        exact ⟨hj ▸ hp, h⟩
      · rw [if_neg hj] at h ⊢
        exact ih h
    · rw [if_neg hp] at h
      obtain ⟨h1, h2⟩ := ih h
      refine ⟨h1, ?_⟩
      unfold get
      rw [if_neg (by intro e; subst e; exact hp h1)]
      exact h2
theorem Ok.less (h : Ok bI w0 bH N jr σ a w) (ht : ∀ p ∈ σ'.tm, p ∈ σ.tm) (ho : ∀ p ∈ σ'.ob, p ∈ σ.ob) : Ok bI w0 bH N jr σ' a w := by
  obtain ⟨Fz, κ, hr, hk⟩ := h
  exact ⟨Fz, κ, hr.less ht ho, hk⟩
def Vis (pre : List (G × List Nat)) (l : Array Bool) (s : Nat) : Prop := ∀ j (h : j < pre.length), ¬ Dn l j → pre[j].1.dst ≠ some s
theorem Rz (hD : JU ops pre lu jG rest) (heq : ∀ t ∈ X.eqs, lD P t) (l9 : iP P Γ) (hC : eO P Γ) (hc : lM P X ops N.ok ops.toList = some (pre.map (·.1) ++ (jG ++ rest))) (hQ : ∀ a' w', Ok bI w0 bH N jr σ' a' w' → Q .normal a' w')
    {tm : List (Nat × PV)} {Zw MH : List (Nat × Ob)} (PG : ∀ p ∈ tm, get tm p.1 = some p.2)
    (hpv : ∀ j (h : j < pre.length), j ∈ lu → ∃ pv s, lK Γ true ⟨tm, Zw.filter (fun p => !(jG.flatMap (rG tm)).contains p.1)⟩ pre[j].1 = some (pv, s) ∧ ∀ s, pre[j].1.dst = some s → get tm s = some pv)
    (hE : BR Γ false rest ⟨tm, MH⟩ = some σ') :
    ∀ (fuel m : Nat) (l : Array Bool) (Cv : List (Nat × PV)) (ob : List (Nat × Ob)) (a : Act) (w : World), l.size = ops.size → m ≤ jG.length → (∀ i, i < ops.size → pre.length ≤ i → (Dn l i ↔ i < pre.length + m)) → (∀ j, j < pre.length → j ∉ lu → Dn l j) → Down ops l → left l ≤ fuel →
      Ji Γ tm (jG.drop m) ob = some MH → (∀ k o, (jG.flatMap (rG tm)).contains k = false → get Zw k = some o → get ob k = some o) → (∀ s, Vis pre l s → get Cv s = get tm s) → Ok bI w0 bH N jr ⟨Cv, ob⟩ a w → wpAny P .any ops Q fuel l a w := by
  intro fuel
  have hcg := kH hc
  have hlen := hD.len
  have over : ∀ (fuel m : Nat) (l : Array Bool) (Cv : List (Nat × PV)) (ob : List (Nat × Ob)) (a : Act) (w : World), l.size = ops.size → m = jG.length → (∀ i, i < ops.size → pre.length ≤ i → (Dn l i ↔ i < pre.length + m)) → (∀ j, j < pre.length → Dn l j) → Down ops l → left l ≤ fuel →
      Ji Γ tm (jG.drop m) ob = some MH → (∀ s, Vis pre l s → get Cv s = get tm s) → Ok bI w0 bH N jr ⟨Cv, ob⟩ a w → wpAny P .any ops Q fuel l a w := by
    intro fuel m l Cv ob a w hl hm hd hall hdn hf hL hv h
    subst hm
    rw [List.drop_of_length_le (Nat.le_refl _)] at hL
    cases hL
    refine Rv hD heq l9 hC hc hQ fuel (pre.length + jG.length) l ⟨tm, MH⟩ a w hl (Nat.le_refl _) (by omega) (fun i hi => ?_) hdn hf (h.less (fun p hp => ?_) (fun _ hp => hp)) (by rw [Nat.sub_self, List.drop_zero]; exact hE)
    · by_cases hi' : i < pre.length
      · exact ⟨fun _ => by omega, fun _ => hall i hi'⟩
      · exact hd i hi (by omega)
    · have := hv p.1 (fun j hj hnd => absurd (hall j hj) hnd)
      rw [PG p hp] at this
      exact get_mem this
  induction fuel with
  | zero =>
    intro m l Cv ob a w hl hm hd hfl hdn hf hL fU hv h
    have hdone : ∀ i, i < ops.size → Dn l i := by
      intro i hi
      apply Classical.byContradiction
      intro hn
      have := nu (l := l) (i := i) (by omega) hn
      omega
    refine over 0 m l Cv ob a w hl ?_ hd (fun j hj => hdone j (by omega)) hdn hf hL hv h
    apply Classical.byContradiction
    intro hne
    have := (hd (pre.length + m) (by omega) (by omega)).mp (hdone _ (by omega))
    omega
  | succ fuel ih =>
    intro m l Cv ob a w hl hm hd hfl hdn hf hL fU hv h
    by_cases hfin : m = jG.length ∧ ∀ j, j < pre.length → Dn l j
    · exact over (fuel + 1) m l Cv ob a w hl hfin.1 hd hfin.2 hdn hf hL hv h
    · have hex : ∃ i, i < pre.length + jG.length ∧ i < ops.size ∧ ¬ Dn l i := by
        apply Classical.byContradiction
        intro hno
        have hall : ∀ i, i < pre.length + jG.length → i < ops.size → Dn l i := fun i h1 h2 => Classical.byContradiction fun hn => hno ⟨i, h1, h2, hn⟩
        refine hfin ⟨?_, fun j hj => hall j (by omega) (by omega)⟩
        apply Classical.byContradiction
        intro hne
        have := (hd (pre.length + m) (by omega) (by omega)).mp (hall _ (by omega) (by omega))
        omega
      obtain ⟨i0, hi0, aco, hn0⟩ := hex
      rw [lS]
      refine ⟨fun hn => absurd hn (oz hD hl aco hn0), fun i hi => ?_⟩
      obtain ⟨hi1, hi2, hi3⟩ := (jN hl).mp hi
      have hset : ∀ {j}, Dn (l.setIfInBounds i true) j ↔ j = i ∨ Dn l j := fun {j} => Dn.set (by omega)
      have hleft := nu (l := l) (i := i) (by omega) hi2
      unfold wpOp
      rw [Array.getElem?_eq_getElem hi1]
      have hg := hcg.2 i (by simpa using hi1) (by simp; omega)
      by_cases RA : i < pre.length
      ·
        have hif : i ∈ lu := Classical.byContradiction fun hn => hi2 (hfl i RA hn)
        rw [List.getElem_append_left (by simpa using RA)] at hg
        simp only [List.getElem_map, Array.getElem_toList] at hg
        obtain ⟨pv, s, h1, h2⟩ := hpv i RA hif
        have hsame : Same (rd pre[i].1) ⟨tm, Zw.filter (fun p => !(jG.flatMap (rG tm)).contains p.1)⟩ ⟨Cv, ob⟩ := fun s hs => hv s (fun j hj hnd he => hnd (hi3 j (hD.data i RA hi1 s hs j hj he)))
        obtain ⟨e1, e2⟩ := rX (σ2 := ⟨Cv, ob⟩) (hD.fl i hif RA) hsame (fun k o hk => by
          obtain ⟨g1, g2⟩ := get_filter (p := fun k => !(jG.flatMap (rG tm)).contains k) hk
          exact fU k o (by simpa using g1) g2) h1
        refine vL heq l9 hC hg h e2 fun a' w' h' => ?_
        refine ih m _ (rF pre[i].1.dst Cv pv) ob a' w' (by simp [hl]) hm (fun j hj hj' => ?_) (fun j hj hjf => hset.mpr (.inr (hfl j hj hjf))) (rY hdn hl hi1 hi3) (by omega) hL fU (fun s hs => ?_) ?_
        · rw [hset, hd j hj hj']
          omega
        · rw [oC]
          split
          · rename_i he
            exact (h2 s he).symm
          · rename_i he
            refine hv s (fun j hj hnd hjs => ?_)
            by_cases hji : j = i
            · subst hji; exact he hjs
            · exact hs j hj (fun hdj => by rcases hset.mp hdj with h | h; exact hji h; exact hnd h) hjs
        · cases hdst : pre[i].1.dst with
          | none => rw [hdst] at h'; exact h'
          | some s => rw [hdst] at h'; exact h'
      ·
        have him : i = pre.length + m ∧ m < jG.length := by
          have hge : pre.length + m ≤ i := by
            apply Classical.byContradiction
            intro hlt
            exact hi2 ((hd i hi1 (by omega)).mpr (by omega))
          have hlt' : i < pre.length + jG.length := by
            apply Classical.byContradiction
            intro hnl
            rcases hD.tl i (by omega) hi1 i0 (by omega) with hb | ⟨_, _, hb⟩
            · exact hn0 (hdn.VL hD hb (fun _ => hi3))
            · omega
          refine ⟨?_, by omega⟩
          apply Classical.byContradiction
          intro hne
          have hnm : ¬ Dn l (pre.length + m) := fun hh => by have := (hd (pre.length + m) (by omega) (by omega)).mp hh; omega
          rcases hD.tl i (by omega) hi1 (pre.length + m) (by omega) with hb | ⟨hb, _, _⟩
          · exact hnm (hdn.VL hD hb (fun _ => hi3))
          · omega
        obtain ⟨rfl, hml⟩ := him
        rw [List.getElem_append_right (by simp), List.getElem_append_left (by simpa using hml)] at hg
        simp only [List.length_map, Array.getElem_toList, Nat.add_sub_cancel_left] at hg
        rw [List.drop_eq_getElem_cons hml] at hL
        have Zx := hD.lt' _ (List.getElem_mem hml)
        have hld := hD.ld m hml hi1
        have hkey : ∀ k, k ∈ rG tm jG[m] → (jG.flatMap (rG tm)).contains k = true := fun k hk => by
          rw [List.contains_iff_mem]
          exact List.mem_flatMap.mpr ⟨_, List.getElem_mem hml, hk⟩
        generalize jG[m] = g at hg hL Zx hld hkey
        obtain ⟨gd, gg, gi⟩ := g
        unfold isLt at Zx
        simp only [Bool.and_eq_true] at Zx
        obtain ⟨⟨hl1, hl2⟩, hl3⟩ := Zx
        have hgd : gd = none := by cases gd <;> simp_all
        have hgg : gg = none := by cases gg <;> simp_all
        subst hgd
        subst hgg
        cases gi with
        | store n x y =>
          simp only [Ji] at hL
          split at hL
          · rename_i key off hval
            obtain ⟨p, h1, h2⟩ := zbm hL
            obtain ⟨pv, s⟩ := p
            have hsame : Same (mD (.store n x y)) ⟨tm, ob⟩ ⟨Cv, ob⟩ := fun s hs => hv s (fun j hj hnd he => hnd (hi3 j (hld s (by unfold rd; exact List.mem_append_left _ hs) j hj he)))
            obtain ⟨e1, e2, e3⟩ := Rx (Zv := Cv) hval h1
            have e2' := e2 hsame true 999
            refine vL (q := true) (pv := pv) (σ' := ⟨Cv, s.ob⟩) heq l9 hC hg h (by simp only [lK, yF, Option.bind_some, if_true]; exact e2') fun a' w' h' => ?_
            refine ih (m + 1) _ Cv s.ob a' w' (by simp [hl]) (by omega) (fun j hj hj' => ?_) (fun j hj hjf => hset.mpr (.inr (hfl j hj hjf))) (rY hdn hl hi1 hi3) (by omega) h2 (fun k o hk hg' => ?_) (fun s hs => hv s (fun j hj hnd => hs j hj (fun hdj => by rcases hset.mp hdj with h | h; omega; exact hnd h))) h'
            · rw [hset, hd j hj hj']
              omega
            · refine e3 k o (fun e => ?_) (fU k o hk hg')
              subst e
              have hv0 : val ⟨tm, []⟩ x = some (.one (.ptr k off)) := (Ry (ob' := ob)).trans hval
              have := hkey k (by simp only [rG, hv0, List.mem_singleton])
              rw [this] at hk; cases hk
          · cases hL
        | _ => simp at hl3
end
end Go.Proofs.Ytdkkgecdhapfhaa.Ev
namespace Go.Proofs.Ytdkkgecdhapfhaa.Ev
open Go
section
variable {P : Program} {Γ : Env} {bI : Nat → Prop} {w0 w w' : World} {bH : List Nat} {N : Fr} {jr : Nat → Value} {σ fH σ' : St} {a : Act} {X : Hx} {ops : Array Oper} {pre : List (G × List Nat)} {lu : List Nat} {jG rest : List G} {l : Array Bool} {Q : Exit → Act → World → Prop}
theorem AB {α : Type} {ks : List Nat} {l : List (Nat × α)} {p : Nat × α} (h : p ∈ pick ks l) : get l p.1 = some p.2 := by
  unfold pick at h
  obtain ⟨i, _, h2⟩ := List.mem_filterMap.mp h
  obtain ⟨v, h3, h4⟩ := zmm h2
  subst h4
  exact h3
theorem Cw {α : Type} {l : List (Nat × α)} {s : Nat} : ∀ {ks : List Nat}, get (pick ks l) s = if s ∈ ks then get l s else none
  | [] => rfl
  | k :: ks => by
    have ih := Cw (l := l) (s := s) (ks := ks)
    unfold pick at ih ⊢
    rw [List.filterMap_cons]
    cases hg : get l k with
    | none =>
      simp only [Option.map_none]
      rw [ih]
      by_cases hk : s = k
      · subst hk; simp [hg]
      · simp [hk]
    | some v =>
      simp only [Option.map_some]
      conv => lhs; unfold get
      by_cases hk : k = s
      · subst hk; simp [hg]
      · rw [if_neg hk, ih]
        have : ¬ s = k := fun e => hk e.symm
        simp [this]
theorem get_none {α : Type} {l : List (Nat × α)} {s : Nat} (h : s ∉ l.map (·.1)) : get l s = none := by
  cases hg : get l s with
  | none => rfl
  | some v => exact absurd (List.mem_map.mpr ⟨_, get_mem hg, rfl⟩) h
theorem MI {α : Type} {l : List (Nat × α)} {s : Nat} : get (pick (l.map (·.1)) l) s = get l s := by
  rw [Cw]
  split
  · rfl
  · rename_i h; exact (get_none h).symm
theorem acp (hD : JU ops pre lu jG rest) (hall : ∀ j, j < pre.length → ∃ pv st, Can Γ fH.ob pre fH.tm j pv st) (hfr : ∀ i (h : i < pre.length), jA pre[i].1.i = true → fresh fH (dB (pre[i].1.dst.getD 999)) = true)
    {i : Nat} {pv : PV} {st : St} (hc : Can Γ fH.ob pre fH.tm i pv st) (hN : jA (pre[i]'hc.lt).1.i = true) : ∀ p ∈ st.ob.take 1, p.1 = dB ((pre[i]'hc.lt).1.dst.getD 999) := by
  have hi := hc.lt
  obtain ⟨c1, c2, c3⟩ := rZ hD hall i (by omega)
  have hgd : pre[i].1.gd = none := by
    rcases hD.cls i hi with h | h
    · exact (AA h hN).elim
    · exact h.2
  have hfc : fresh ⟨iX Γ fH.ob pre fH.tm i, fH.ob⟩ (dB (pre[i].1.dst.getD 999)) = true := by
    obtain ⟨f1, f2⟩ := jv.mp (hfr i hi hN)
    refine jv.mpr ⟨f1, fun p hp => ?_⟩
    rcases c3 p hp with h | ⟨j, pv', st', h1, h2, h3⟩
    · exact f2 p h
    · rcases hD.nk i j hi h2.lt (by omega) hN with h4 | h4
      · rw [h3]; exact (h2.nk _ h4).1
      · have := h4.lt hD; omega
  obtain ⟨o, e1, _⟩ := JQ (σ2 := ⟨iX Γ fH.ob pre fH.tm i, fH.ob⟩) hN hgd (fun _ _ => rfl) hfc hfc hc.ev
  intro p hp
  rw [e1] at hp
  simp at hp
  rw [hp]
theorem RB (hD : JU ops pre lu jG rest) (heq : ∀ t ∈ X.eqs, lD P t) (l9 : iP P Γ) (hC : eO P Γ) (hc : lM P X ops N.ok ops.toList = some (pre.map (·.1) ++ (jG ++ rest))) (hQ : ∀ a' w', Ok bI w0 bH N jr σ' a' w' → Q .normal a' w')
    (hall : ∀ j, j < pre.length → ∃ pv st, Can Γ fH.ob pre fH.tm j pv st) (hfr : ∀ i (h : i < pre.length), jA pre[i].1.i = true → fresh fH (dB (pre[i].1.dst.getD 999)) = true)
    {tm : List (Nat × PV)} {sob MH news' : List (Nat × Ob)} (PG : tm = pick ((iX Γ fH.ob pre fH.tm pre.length).map (·.1)) (iX Γ fH.ob pre fH.tm pre.length))
    (VO : sob = news' ++ fH.ob) (hnews : ∀ p ∈ news', ∃ j pv st, ∃ (h : Can Γ fH.ob pre fH.tm j pv st), jA (pre[j]'h.lt).1.i = true ∧ p ∈ st.ob.take 1)
    (MJ : lu.all (fun j => (lK Γ true ⟨tm, fH.ob.filter (fun p => !(jG.flatMap (rG tm)).contains p.1)⟩ (pre.getD j default).1).isSome) = true)
    (hL : Ji Γ tm jG sob = some MH) (hE : BR Γ false rest ⟨tm, MH⟩ = some σ') :
    ∀ (fuel : Nat) (l : Array Bool) (σ : St) (a : Act) (w : World), l.size = ops.size → (∀ i, pre.length ≤ i → ¬ Dn l i) → Down ops l → left l ≤ fuel → Ok bI w0 bH N jr σ a w → JV Γ pre fH l σ → wpAny P .any ops Q fuel l a w := by
  intro fuel
  have hcg := kH hc
  have hlen := hD.len
  obtain ⟨c1, c2, c3⟩ := rZ (Γ := Γ) hD hall pre.length (Nat.le_refl _)
  have Zy : ∀ s, get tm s = get (iX Γ fH.ob pre fH.tm pre.length) s := fun s => by rw [PG]; exact MI
  have acr : ∀ p ∈ tm, get tm p.1 = some p.2 := fun p hp => by
    rw [Zy]
    rw [PG] at hp
    exact AB hp
  have hpv : ∀ j (h : j < pre.length), j ∈ lu → ∃ pv s, lK Γ true ⟨tm, fH.ob.filter (fun p => !(jG.flatMap (rG tm)).contains p.1)⟩ pre[j].1 = some (pv, s) ∧ ∀ s, pre[j].1.dst = some s → get tm s = some pv := by
    intro j h hj
    have h1 := List.all_eq_true.mp MJ j hj
    rw [List.getD_eq_getElem?_getD, List.getElem?_eq_getElem h, Option.getD_some] at h1
    obtain ⟨q, hq⟩ := Option.isSome_iff_exists.mp h1
    obtain ⟨pv', s'⟩ := q
    refine ⟨pv', s', hq, fun s hs => ?_⟩
    obtain ⟨pv, st, hcj⟩ := hall j h
    obtain ⟨d1, d2, d3⟩ := rZ (Γ := Γ) hD hall j (by omega)
    have hV := hD.fl j hj h
    obtain ⟨_, g1⟩ := rX (σ := ⟨tm, fH.ob.filter (fun p => !(jG.flatMap (rG tm)).contains p.1)⟩) (σ2 := ⟨tm, fH.ob⟩) hV (fun _ _ => rfl) (fun k o hk => (get_filter (p := fun k => !(jG.flatMap (rG tm)).contains k) hk).2) hq
    have hsame : Same (rd pre[j].1) ⟨iX Γ fH.ob pre fH.tm j, fH.ob⟩ ⟨tm, fH.ob⟩ := by
      intro s hs
      show get tm s = get (iX Γ fH.ob pre fH.tm j) s
      rw [Zy]
      by_cases hw : ∃ i, ∃ (hi : i < pre.length), pre[i].1.dst = some s
      · obtain ⟨i, hi, his⟩ := hw
        have hie := hD.data j h (by omega) s hs i hi his
        obtain ⟨pv', st', hc'⟩ := hall i hi
        rw [c1 i pv' st' hc' hi s his, d1 i pv' st' hc' (hD.lt j (by omega) i hie) s his]
      · have hw' : ∀ i (h : i < pre.length), pre[i].1.dst ≠ some s := fun i h e => hw ⟨i, h, e⟩
        rw [c2 s (fun i h _ => hw' i h), d2 s (fun i h _ => hw' i h)]
    obtain ⟨_, g2⟩ := rX (σ2 := ⟨tm, fH.ob⟩) hV hsame (fun k o hk => hk) hcj.ev
    rw [g1] at g2
    simp only [Option.some.injEq, Prod.mk.injEq] at g2
    rw [Zy, c1 j pv st hcj h s hs, g2.1]
  have over : ∀ (fuel : Nat) (l : Array Bool) (σ : St) (a : Act) (w : World), l.size = ops.size → (∀ i, pre.length ≤ i → ¬ Dn l i) → Down ops l → left l ≤ fuel → Ok bI w0 bH N jr σ a w → JV Γ pre fH l σ → (∀ i, i < pre.length → i ∉ lu → Dn l i) → wpAny P .any ops Q fuel l a w := by
    intro fuel l σ a w hl hno hdn hf h hI hdone
    refine Rz (tm := tm) (Zw := fH.ob) (MH := MH) hD heq l9 hC hc hQ acr hpv hE fuel 0 l σ.tm sob a w hl (Nat.zero_le _) (fun i hi RA => ⟨fun hd => absurd hd (hno i RA), fun hd => by omega⟩) hdone hdn hf (by rw [List.drop_zero]; exact hL) (fun k o _ hk => ?_) (fun s hs => ?_) (h.less (fun _ hp => hp) (fun p hp => ?_))
    · rw [VO, FN]
      · exact hk
      · intro p hp e
        obtain ⟨j, pv, st, hcj, hN, hpt⟩ := hnews p hp
        have hk' := acp hD hall hfr hcj hN p hpt
        have := (jv.mp (hfr j hcj.lt hN)).1 _ (get_mem hk)
        exact this.1 (by show k = _; rw [← e, hk'])
    · rw [Zy]
      by_cases hw : ∃ j, ∃ (h : j < pre.length), pre[j].1.dst = some s
      · obtain ⟨j, hj, hjs⟩ := hw
        obtain ⟨pv, st, hcj⟩ := hall j hj
        have hdj : Dn l j := Classical.byContradiction fun hn => hs j hj hn hjs
        rw [c1 j pv st hcj hj s hjs]
        exact hI.tg1 j pv st hcj hdj s hjs
      · have hw' : ∀ j (h : j < pre.length), pre[j].1.dst ≠ some s := fun j h e => hw ⟨j, h, e⟩
        rw [c2 s (fun j h _ => hw' j h)]
        exact hI.tg2 s (fun j h _ => hw' j h)
    · rw [VO] at hp
      rcases List.mem_append.mp hp with hp | hp
      · obtain ⟨j, pv, st, hcj, hN, hpt⟩ := hnews p hp
        refine hI.ob2 j pv st hcj (hdone j hcj.lt (fun hj => ?_)) hN p hpt
        exact AA (hD.fl j hj hcj.lt) hN
      · obtain ⟨news, ho, _⟩ := hI.ob1
        rw [ho]
        exact List.mem_append_right _ hp
  induction fuel with
  | zero =>
    intro l σ a w hl hno hdn hf h hI
    refine over 0 l σ a w hl hno hdn hf h hI fun i hi _ => ?_
    apply Classical.byContradiction
    intro hn
    have := nu (l := l) (i := i) (by omega) hn
    omega
  | succ fuel ih =>
    intro l σ a w hl hno hdn hf h hI
    by_cases hdone : ∀ i, i < pre.length → i ∉ lu → Dn l i
    · exact over (fuel + 1) l σ a w hl hno hdn hf h hI hdone
    · have : ∃ i, i < pre.length ∧ i ∉ lu ∧ ¬ Dn l i := by
        apply Classical.byContradiction
        intro hc
        exact hdone fun i hi hif => Classical.byContradiction fun hn => hc ⟨i, hi, hif, hn⟩
      obtain ⟨i0, hi0, acs, hn0⟩ := this
      rw [lS]
      refine ⟨fun hn => absurd hn (oz hD hl (by omega) hn0), fun i hi => ?_⟩
      obtain ⟨hi1, hi2, hi3⟩ := (jN hl).mp hi
      have him : i < pre.length := by
        apply Classical.byContradiction
        intro hge
        rcases hD.tl i (by omega) hi1 i0 (by omega) with hb | ⟨_, hb, _⟩
        · exact hn0 (hdn.VL hD hb (fun _ => hi3))
        · exact acs hb
      obtain ⟨pv, σ1, h1, h2⟩ := VN hD hall hfr hI hl hdn him hi1 hi2 hi3
      unfold wpOp
      rw [Array.getElem?_eq_getElem hi1]
      have hg := hcg.2 i (by simpa using hi1) (by simp; omega)
      rw [List.getElem_append_left (by simpa using him)] at hg
      simp only [List.getElem_map, Array.getElem_toList] at hg
      refine vL heq l9 hC hg h h1 fun a' w' h' => ?_
      refine ih _ _ a' w' (by simp [hl]) (fun j hj hd => ?_) (rY hdn hl hi1 hi3) ?_ h' h2
      · rcases (Dn.set (by omega)).mp hd with rfl | hd
        · omega
        · exact hno j hj hd
      · have := nu (l := l) (i := i) (by omega) hi2
        omega
theorem RD {id : Nat} (hm : P.follows .mixedOrders = true) (hD : JU ops pre lu jG rest) (heq : ∀ t ∈ X.eqs, lD P t) (l9 : iP P Γ) (hC : eO P Γ) (hc : lM P X ops N.ok ops.toList = some (pre.map (·.1) ++ (jG ++ rest))) (h : Ok bI w0 bH N jr σ a w) (hE : Un Γ pre lu jG rest σ = some σ')
    (hQ : ∀ a' w', Ok bI w0 bH N jr σ' a' w' → Q .normal a' w') : (Code.region id ops true).wp P Q a w := by
  refine wp_region_any hm ?_
  unfold Un at hE
  split at hE
  · rename_i hfr
    obtain ⟨s, h1, h2⟩ := zbm hE
    split at h2
    · rename_i MJ
      obtain ⟨ob, h3, h4⟩ := zbm h2
      obtain ⟨e1, e2, news, e3, e4⟩ := Ct (Γ := Γ) (qx := σ.ob) (pre := pre) (yK := σ.tm) pre.length 0 σ.ob s (by omega) (by rw [List.drop_zero]; exact h1)
      have hall : ∀ j, j < pre.length → ∃ pv st, Can Γ σ.ob pre σ.tm j pv st := fun j hj => e1 j (by omega) hj
      have VP : ∀ i (h : i < pre.length), jA pre[i].1.i = true → fresh σ (dB (pre[i].1.dst.getD 999)) = true := by
        intro i hi hN
        have := List.all_eq_true.mp hfr pre[i] (List.getElem_mem hi)
        rw [hN] at this
        exact this
      have hoff : ∀ i, ¬ Dn (Array.replicate ops.size false) i := by
        intro i hd
        unfold Dn at hd
        rw [Array.getD_eq_getD_getElem?, Array.getElem?_replicate] at hd
        split at hd <;> simp at hd
      rw [e2] at MJ h3 h4
      refine RB (fH := σ) hD heq l9 hC hc hQ hall VP rfl e3 (fun p hp => ?_) MJ h3 h4 ops.size _ σ a _ (by simp) (fun i _ => hoff i) (fun i hi hd => absurd hd (hoff i)) ?_ ?_ ⟨fun i pv st h hd => absurd hd (hoff i), fun s _ => rfl, ⟨[], rfl, fun p hp => by simp at hp⟩, fun i pv st h hd => absurd hd (hoff i), fun i hi hN _ => VP i hi hN⟩
      · obtain ⟨j, pv, st, _, _, h5, h6, h7⟩ := e4 p hp
        exact ⟨j, pv, st, h5, h6, h7⟩
      · unfold left
        exact Nat.le_trans (List.length_filter_le _ _) (by simp)
      · obtain ⟨Fz, κ, hr, hk⟩ := h
        exact ⟨Fz, κ, hr.grow (w' := { w with drawn := w.drawn + 1 }) (Nat.le_refl _) (fun _ _ => rfl) ⟨rfl, rfl⟩, hk⟩
    · cases h2
  · cases hE
end
end Go.Proofs.Ytdkkgecdhapfhaa.Ev
namespace Go.Proofs.Ytdkkgecdhapfhaa.Ev
open Go
def qB : List (List Nat) → List (List Nat) → List (List Nat)
  | acc, [] => acc
  | acc, es :: l => qB (acc ++ [(List.range acc.length).filter fun x => es.any fun e => e == x || (acc.getD e []).contains x]) l
def AJ : List G → Nat
  | [] => 0
  | g :: l => if MF g.i || (jA g.i && g.gd.isNone) then AJ l + 1 else 0
def frc {α : Type} (n : Nat) (k : Nat → α) : α := match n with
  | 0 => k 0
  | j + 1 => k (j + 1)
theorem RF {α : Type} {n : Nat} {k : Nat → α} : frc n k = k n := by cases n <;> rfl
def VQ : Nat → List (List Nat) → Nat
  | i, [] => i
  | i, es :: l => frc (VQ (i + 1) l) fun r => if r == i + 1 && es.length == i then i else r
def VR (C : List (List Nat)) (gs : List G) : Nat := min (AJ gs) (VQ 0 C)
def JW (gs : List G) (C : List (List Nat)) (m j : Nat) : List Nat := ((List.range m).filter fun i => i != j && jA (gs.getD i default).i && !(C.getD j []).contains i).map fun i => dB ((gs.getD i default).dst.getD 999)
def PI : List G → Nat
  | [] => 0
  | g :: l => if isLt g then PI l + 1 else 0
def VT (C : List (List Nat)) (m nl : Nat) : List Nat := (List.range m).filter fun j => (List.range nl).any fun t => !(C.getD (m + t) []).contains j
def acu (lu : List Nat) (n : Nat) : Nat := if lu.isEmpty then 0 else n
def RG (E C : List (List Nat)) (gs : List G) (n m : Nat) (lu : List Nat) (nl : Nat) : Bool :=
  (List.range n).all (fun i => (E.getD i []).all (· < i)) &&
  (List.range m).all (fun i => (rd (gs.getD i default)).all fun s => (List.range m).all fun j => !((gs.getD j default).dst == some s) || (E.getD i []).contains j) &&
  (List.range m).all (fun i => (List.range m).all fun j => i == j || (gs.getD i default).dst.isNone || !((gs.getD i default).dst == (gs.getD j default).dst)) &&
  (List.range m).all (fun i => MF (gs.getD i default).i || (jA (gs.getD i default).i && (gs.getD i default).gd.isNone)) &&
  (List.range n).all (fun k => k < m || (List.range k).all fun j => (C.getD k []).contains j || (j < m && lu.contains j && k < m + nl)) &&
  lu.all (fun j => MF (gs.getD j default).i) &&
  ((gs.drop m).take nl).all isLt &&
  (List.range nl).all (fun t => (rd (gs.getD (m + t) default)).all fun s => (List.range m).all fun j => !((gs.getD j default).dst == some s) || (E.getD (m + t) []).contains j)
structure Hi where
  ks : List Nat
  BK : List Nat
  rws : List (Nat × Nat)
def VU (k : Array Bool → Option (List (List Nat))) (l : Array Bool) : List Nat → Option (List (List Nat))
  | [] => some []
  | i :: is => (k (l.setIfInBounds i true)).bind fun a => (VU k l is).map fun b => a.map (i :: ·) ++ b
def RH (ops : Array Oper) (i : Nat) : Bool := match ops[i]? with
  | some o => (match o.op with
    | .move _ => true
    | .assign _ => true
    | .fieldAddr _ _ _ => true
    | _ => false)
  | none => false
def exts (ops : Array Oper) : Nat → Array Bool → Option (List (List Nat))
  | 0, l => if Region.ready .any ops l = [] then some [[]] else none
  | n + 1, l => match Region.ready .any ops l with
    | [] => some [[]]
    | i :: is => match (i :: is).find? (fun j => RH ops j && Region.free .any ops l j) with
      | some j => (exts ops n (l.setIfInBounds j true)).map fun a => a.map (j :: ·)
      | none => VU (exts ops n) l (i :: is)
def VW (P : Program) (X : Hx) (N : Nat → Bool) (ops : Array Oper) (draw : Bool) (ks BK : List Nat) : Option CC :=
  (lM P X ops N ops.toList).bind fun gs => match draw with
    | false => some (.reg gs ks)
    | true => match BK with
      | _ :: _ => if Region.noSelect ops then (exts ops ops.size (Array.replicate ops.size false)).map fun o => .any gs o ks BK else none
      | [] =>
      let E := ops.toList.map lQ
      let C := qB [] E
      frc (VR C gs) fun m =>
      let nl0 := PI (gs.drop m)
      let lu := VT C m nl0
      let nl := acu lu nl0
      if RG E C gs ops.size m lu nl then some (.tN ((List.range m).map fun j => (gs.getD j default, JW gs C m j)) lu ((gs.drop m).take nl) ((gs.drop m).drop nl) ks) else none
def comp (P : Program) (X : Hx) (N : Nat → Bool) : Code → List Hi → Option (CC × List Hi)
  | .skip, h => some (.skip, h)
  | .region _ ops draw, h => match h with
    | [] => none
    | k :: h => (VW P X N ops draw k.ks k.BK).map fun c => (c, h)
  | .seq x y, h => (comp P X N x h).bind fun p => (comp P X N y p.2).map fun r => (.seq p.1 r.1, r.2)
  | .cond c x y, h => (fJ c).bind fun o => (comp P X N x h).bind fun p => (comp P X N y p.2).map fun r => (.cond o p.1 r.1, r.2)
  | .block id c, h => (comp P X N c h).map fun p => (.block id p.1, p.2)
  | .loop c, h => match h with
    | [] => none
    | k :: h => (comp P X N c h).map fun p => (.loop k.ks k.BK k.rws p.1, p.2)
  | .exit id, h => some (.exit id, h)
  | .ret, h => some (.ret, h)
  | .scope c, h => comp P X N c h
  | .label _, h => some (.skip, h)
  | _, _ => none
section
variable {P : Program} {Γ : Env} {bI : Nat → Prop} {w0 w w' : World} {bH : List Nat} {N : Fr} {F : Nat} {jr : Nat → Value} {σ fH σ' : St} {a : Act} {X : Hx} {ops : Array Oper} {gs : List G} {Q : Exit → Act → World → Prop}
theorem Cx : ∀ (l acc : List (List Nat)), (∀ j, ∀ x ∈ acc.getD j [], JR ops x j) → (∀ k, k < l.length → ∃ h : acc.length + k < ops.size, l[k]? = some (lQ ops[acc.length + k])) → ∀ j, ∀ x ∈ (qB acc l).getD j [], JR ops x j
  | [], acc, h, _ => h
  | es :: l, acc, h, hl => by
    unfold qB
    obtain ⟨h0, h1⟩ := hl 0 (by simp)
    simp only [List.getElem?_cons_zero, Option.some.injEq, Nat.add_zero] at h1
    refine Cx l _ (fun j x hx => ?_) (fun k hk => ?_)
    · rw [List.getD_eq_getElem?_getD, List.getElem?_append] at hx
      split at hx
      · rename_i hj
        exact h j x (by rw [List.getD_eq_getElem?_getD]; exact hx)
      · by_cases hj : j - acc.length = 0
        · have Zu : j = acc.length := by omega
          subst Zu
          simp only [Nat.sub_self, List.getElem?_cons_zero, Option.getD_some] at hx
          obtain ⟨_, hx⟩ := List.mem_filter.mp hx
          obtain ⟨e, he, hor⟩ := List.any_eq_true.mp hx
          rw [h1] at he
          rw [Bool.or_eq_true] at hor
          rcases hor with hor | hor
          · have : e = x := by simpa using hor
            subst this
            exact .dir h0 he
          · exact .step h0 he (h e x (by simpa using hor))
        · rw [List.getElem?_eq_none (by simp; omega)] at hx
          simp at hx
    · obtain ⟨h2, h3⟩ := hl (k + 1) (by simpa using hk)
      simp only [List.length_append, List.length_cons, List.length_nil]
      refine ⟨by omega, ?_⟩
      simp only [List.getElem?_cons_succ] at h3
      rw [h3]
      congr 3
      omega
theorem zo : ∀ (gs : List G), AJ gs ≤ gs.length
  | [] => Nat.le_refl _
  | g :: l => by
    unfold AJ
    have := zo l
    split <;> simp <;> omega
theorem MK (C : List (List Nat)) (gs : List G) : VR C gs ≤ gs.length := by
  exact Nat.le_trans (Nat.min_le_left _ _) (zo gs)
theorem Ho {lu : List Nat} {nl m : Nat} (hm : m ≤ gs.length) (h : lM P X ops N.ok ops.toList = some gs) (hb : RG (ops.toList.map lQ) (qB [] (ops.toList.map lQ)) gs ops.size m lu nl = true) :
    JU ops ((List.range m).map fun j => (gs.getD j default, JW gs (qB [] (ops.toList.map lQ)) m j)) lu ((gs.drop m).take nl) ((gs.drop m).drop nl) ∧
    ((List.range m).map fun j => (gs.getD j default, JW gs (qB [] (ops.toList.map lQ)) m j)).map (·.1) ++ ((gs.drop m).take nl ++ (gs.drop m).drop nl) = gs := by
  obtain ⟨hlen, _⟩ := kH h
  rw [Array.length_toList] at hlen
  unfold RG at hb
  simp only [Bool.and_eq_true] at hb
  obtain ⟨⟨⟨⟨⟨⟨⟨b1, b2⟩, b3⟩, b4⟩, b5⟩, b6⟩, b7⟩, b8⟩ := hb
  have hE : ∀ i (hi : i < ops.size), (ops.toList.map lQ).getD i [] = lQ ops[i] := by
    intro i hi
    rw [List.getD_eq_getElem?_getD, List.getElem?_map, Array.getElem?_toList, Array.getElem?_eq_getElem hi]
    rfl
  have hC : ∀ j, ∀ x ∈ (qB [] (ops.toList.map lQ)).getD j [], JR ops x j := Cx _ _ (fun j x hx => by simp at hx) (fun k hk => by
    have hk' : k < ops.size := by simpa using hk
    refine ⟨by simpa using hk', ?_⟩
    rw [List.getElem?_map, Array.getElem?_toList, Array.getElem?_eq_getElem hk']
    simp)
  refine ⟨⟨?_, fun i hi e he => ?_, fun i hi hi' s hs j hj hjs => ?_, fun i j hi hj hne s h1 h2 => ?_, fun i hi => ?_, fun i j hi hj hne hN => ?_, fun k h1 h2 j hj => ?_, fun j hj h => ?_, fun g hg => List.all_eq_true.mp b7 g hg, fun t ht ht' s hs j hj hjs => ?_⟩, ?_⟩
  · simp only [List.length_map, List.length_range, List.length_drop, List.length_take]
    omega
  · have := List.all_eq_true.mp b1 i (List.mem_range.mpr hi)
    rw [hE i hi] at this
    have := List.all_eq_true.mp this e he
    simpa using this
  · simp only [List.length_map, List.length_range] at hi hj
    simp only [List.getElem_map, List.getElem_range] at hs hjs
    have := List.all_eq_true.mp b2 i (List.mem_range.mpr hi)
    have := List.all_eq_true.mp this s hs
    have := List.all_eq_true.mp this j (List.mem_range.mpr hj)
    rw [hjs, hE i hi'] at this
    simpa using this
  · simp only [List.length_map, List.length_range] at hi hj
    simp only [List.getElem_map, List.getElem_range] at h1 h2
    have := List.all_eq_true.mp b3 i (List.mem_range.mpr hi)
    have := List.all_eq_true.mp this j (List.mem_range.mpr hj)
    rw [h1, h2] at this
    simp [hne] at this
  · simp only [List.length_map, List.length_range] at hi
    have := List.all_eq_true.mp b4 i (List.mem_range.mpr hi)
    simp only [List.getElem_map, List.getElem_range]
    rw [Bool.or_eq_true, Bool.and_eq_true] at this
    rcases this with h | h
    · exact .inl h
    · exact .inr ⟨h.1, by simpa using h.2⟩
  · simp only [List.length_map, List.length_range] at hi hj
    simp only [List.getElem_map, List.getElem_range] at hN ⊢
    cases hcc : ((qB [] (ops.toList.map lQ)).getD j []).contains i with
    | true => exact .inr (hC j i (by simpa using hcc))
    | false =>
      left
      unfold JW
      refine List.mem_map.mpr ⟨i, List.mem_filter.mpr ⟨List.mem_range.mpr hi, ?_⟩, rfl⟩
      rw [hN, hcc]
      simp [hne]
  · simp only [List.length_map, List.length_range] at h1 ⊢
    have := List.all_eq_true.mp b5 k (List.mem_range.mpr h2)
    rw [Bool.or_eq_true] at this
    rcases this with h | h
    · have : k < m := by simpa using h
      omega
    · have := List.all_eq_true.mp h j (List.mem_range.mpr hj)
      rw [Bool.or_eq_true, Bool.and_eq_true, Bool.and_eq_true] at this
      rcases this with h | ⟨⟨g1, g2⟩, g3⟩
      · exact .inl (hC k j (by simpa using h))
      · refine .inr ⟨by simpa using g1, by simpa using g2, ?_⟩
        have g3' : k < m + nl := by simpa using g3
        simp only [List.length_take, List.length_drop]
        omega
  · simp only [List.length_map, List.length_range] at h
    simp only [List.getElem_map, List.getElem_range]
    exact List.all_eq_true.mp b6 j hj
  · simp only [List.length_map, List.length_range] at hj ht' ⊢
    simp only [List.length_take, List.length_drop] at ht
    simp only [List.getElem_map, List.getElem_range] at hjs
    have h1 := List.all_eq_true.mp b8 t (List.mem_range.mpr (by omega))
    have hgt : ((gs.drop m).take nl)[t]'(by simp only [List.length_take, List.length_drop]; omega) = gs.getD (m + t) default := by
      rw [List.getElem_take, List.getElem_drop, List.getD_eq_getElem?_getD, List.getElem?_eq_getElem (by omega)]
      rfl
    rw [hgt] at hs
    have h2 := List.all_eq_true.mp h1 s hs
    have h3 := List.all_eq_true.mp h2 j (List.mem_range.mpr hj)
    rw [hjs, hE _ ht'] at h3
    simpa using h3
  · rw [List.map_map]
    have : ((List.range m).map ((fun x : G × List Nat => x.1) ∘ fun j => (gs.getD j default, JW gs (qB [] (ops.toList.map lQ)) m j))) = gs.take m := by
      refine List.ext_getElem (by simp; omega) fun i h1 h2 => ?_
      simp only [List.length_map, List.length_range] at h1
      simp only [List.getElem_map, List.getElem_range, Function.comp, List.getElem_take]
      rw [List.getD_eq_getElem?_getD, List.getElem?_eq_getElem (by omega)]
      rfl
    rw [this, List.take_append_drop, List.take_append_drop]
def Ep : Out → Exit
  | .jo => .normal
  | .ext id => .exit id
  | .ret => .ret
theorem Rel.put' {Fz : Nat → Prop} {κ : Nat → Value} (h : Rel bI w0 bH N Fz κ σ a w) {d : Nat} {pv : PV} (hv : jq Fz κ w pv (a.tmps.getD d undef)) : Rel bI w0 bH N Fz κ ⟨Ev.put σ.tm d pv, σ.ob⟩ a w where
  tm := fun p hp => by
    rcases gZ hp with rfl | ⟨hp, _⟩
    · exact hv
    · exact h.tm p hp
  sz := h.sz
  mZ := h.mZ
  fs := h.fs
  ob := h.ob
  uO := h.uO
  pos := h.pos
  fz := h.fz
  yB := h.yB
  big := h.big
  ext := h.ext
  kp := h.kp
theorem Ok.keep (h : Ok bI w0 bH N jr σ a w) (ks : List Nat) : Ok bI w0 bH N jr ⟨pick ks σ.tm, σ.ob⟩ a w := h.less (fun _ hp => jS hp) (fun _ hp => hp)
theorem Ok.jo : ∀ (l : List (Nat × Nat)) {σ : St}, Ok bI w0 bH N jr σ a w → Ok bI w0 bH N jr (Ev.jo σ l) a w
  | [], σ, h => h
  | (s, sz) :: l, σ, h => by
    unfold Ev.jo
    split
    · rename_i hg
      split
      · exact Ok.jo l h
      · rename_i hz
        split
        · rename_i t hn
          refine Ok.jo l ?_
          obtain ⟨Fz, κ, hr, hk⟩ := h
          have hv : a.tmps.getD s undef = .slice none 0 0 := hr.val hg
          have hnew := hr.new (w' := w) (v := .slice none 0 0) hn (Nat.le_refl _) (fun _ _ => rfl) (fun b hb => by cases hb) ⟨rfl, rfl⟩ ⟨by omega, 0, [], none, 0, by rw [bS]; rfl, by rw [bS]; exact World.ownsRow_nil w _ _ _, rfl⟩
          refine ⟨Fz, nY κ (dB s) (.slice none 0 0), hnew.put' ⟨?_, none, 0, hv⟩, fun k hk' => ?_⟩
          · rw [bS]; exact hv
          · rw [eu (fun e => by unfold dB at e; omega)]; exact hk k hk'
        · exact Ok.jo l h
    · exact Ok.jo l h
theorem Ok.res (h : Ok bI w0 bH N jr σ a w) (ks os : List Nat) (rws : List (Nat × Nat)) : Ok bI w0 bH N jr (Ev.res ks os rws σ) a w :=
  (Ok.jo rws h).less (fun _ hp => jS hp) (fun _ hp => jS hp)
theorem vM : ∀ (n : Nat) (l : Array Bool), exts ops n l ≠ some []
  | 0, l, h => by unfold exts at h; split at h <;> simp at h
  | n + 1, l, h => by
    unfold exts at h
    split at h
    · simp at h
    · split at h
      · obtain ⟨A, h1, h2⟩ := zmm h
        have : A = [] := by
          cases A with
          | nil => rfl
          | cons _ _ => simp at h2
        subst this
        exact vM n _ h1
      · obtain ⟨A, h1, h2⟩ := zbm h
        obtain ⟨B, _, h3⟩ := zmm h2
        have : A = [] := by
          cases A with
          | nil => rfl
          | cons _ _ => simp at h3
        subst this
        exact vM n _ h1
theorem nU.app {ks qZ : List Nat} {r : St} : ∀ {A B : List (List Nat)}, nU Γ gs ks qZ σ r (A ++ B) → nU Γ gs ks qZ σ r A ∧ nU Γ gs ks qZ σ r B
  | [], _, h => ⟨trivial, h⟩
  | _ :: A, _, h => ⟨⟨h.1, (nU.app (A := A) h.2).1⟩, (nU.app (A := A) h.2).2⟩
theorem nU.step {ks qZ : List Nat} {r : St} {i : Nat} : ∀ {A : List (List Nat)}, nU Γ gs ks qZ σ r (A.map (i :: ·)) → A ≠ [] → ∃ s, Pw Γ false σ (gs.getD i default) = some s ∧ nU Γ gs ks qZ s r A
  | [], _, h => absurd rfl h
  | x :: A, h, _ => by
    obtain ⟨⟨s, h1, h2⟩, h3⟩ := h
    obtain ⟨s1, h4, h5⟩ := zbm h1
    refine ⟨s1, h4, ⟨s, h5, h2⟩, ?_⟩
    by_cases hA : A = []
    · subst hA; trivial
    · obtain ⟨s2, g1, g2⟩ := nU.step h3 hA
      rw [h4] at g1; cases g1
      exact g2
theorem ML {i : Nat} {o : Oper} {g : G} (ho : ops[i]? = some o) (hp : RH ops i = true) (hg : y7 P X ops N.ok o = some g) (h : Ok bI w0 bH N jr σ a w) (hE : Pw Γ false σ g = some σ') : ∃ v, Yields P ops o v a ∧ Ok bI w0 bH N jr σ' (a.put o.dst v) w := by
  obtain ⟨Fz, κ, hr, hk⟩ := h
  obtain ⟨p, h1, rfl⟩ := zmm hE
  obtain ⟨i', hi, h2⟩ := zbm hg
  split at h2
  · rename_i hd
    cases h2
    have hput : ∀ {pv v}, jq Fz κ w pv v → Ok bI w0 bH N jr (rE σ o.dst pv) (a.put o.dst v) w := by
      intro pv v hv
      refine ⟨Fz, κ, ?_, hk⟩
      cases hdst : o.dst with
      | none => exact hr.Py v
      | some d =>
        rw [hdst] at hd
        exact hr.put (by simpa using hd) hv
    obtain ⟨t, h3, h4⟩ := zbm h1
    cases t with
    | false =>
      rw [if_neg (by decide)] at h4
      cases h4
      exact ⟨undef, .inr ⟨JM hr h3, rfl⟩, hput rfl⟩
    | true =>
      rw [if_pos rfl] at h4
      have hw := JM hr h3
      unfold RH at hp
      rw [ho] at hp
      simp only at hp
      have mv : ∀ x, (o.op = .move x ∨ o.op = .assign x) → ∃ v, Yields P ops o v a ∧ Ok bI w0 bH N jr (rE p.2 o.dst p.1) (a.put o.dst v) w := by
        intro x hx
        have hi2 : (fJ x).map I.mv = some i' := by
          unfold BU BS tX at hi
          rcases hx with hx | hx <;> simp only [hx] at hi <;> (split at hi <;> first | (split at hi <;> first | (cases hi; assumption) | cases hi) | cases hi)
        obtain ⟨y, h5, rfl⟩ := zmm hi2
        obtain ⟨v, h6, h7⟩ := zmm h4
        cases h7
        refine ⟨a.eval x, .inl ⟨hw, fun w' => ?_⟩, hput (hr.Jp h5 h6)⟩
        unfold execOp
        rcases hx with hx | hx <;> simp only [hx] <;> rfl
      split at hp
      · rename_i x hx; exact mv x (.inl hx)
      · rename_i x hx; exact mv x (.inr hx)
      · rename_i s x f hx
        have hi2 : tX P X o = some i' := by
          unfold BU BS at hi
          simp only [hx] at hi
          split at hi
          · split at hi
            · cases hi
            · cases hi; assumption
          · cases hi
        unfold tX at hi2
        simp only [hx] at hi2
        obtain ⟨fl, h5, hi2⟩ := zbm hi2
        obtain ⟨n, h6, hi2⟩ := zbm hi2
        split at hi2
        · cases hi2
        · rename_i h0
          obtain ⟨y, h7, rfl⟩ := zmm hi2
          obtain ⟨v, h8, h9⟩ := zbm h4
          have hv := hr.eval h7 h8
          obtain ⟨fs, hu, hfi⟩ := Ah h5
          have run : ∀ b o' (w' : World), a.eval x = .pointer (some ⟨b, o', none⟩) → (execOp a.eval o).run P w' = .ok (.value (.pointer (some ⟨b, o' + fl.offset, none⟩))) w' := by
            intro b o' w' he
            unfold execOp
            simp only [hx, he]
            unfold Instr.fieldAt
            simp only [Sem.run_bind, run_underlying hu, Result.andThen_ok, hfi]
            simp only [Instr.sureAddr, Sem.run_bind, Sem.run_pure, Result.andThen_ok, oh h6 h0]
          split at h9
          · cases h9; obtain ⟨b, e1, e2⟩ := hv; exact ⟨_, .inl ⟨hw, fun w' => run _ _ w' e2⟩, hput ⟨b, e1, rfl⟩⟩
          · cases h9; obtain ⟨b, o', e1, e2, e3⟩ := hv; exact ⟨_, .inl ⟨hw, fun w' => run _ _ w' e1⟩, hput ⟨b, _, rfl, e2, e3.drop _⟩⟩
          · cases h9; obtain ⟨b, n', c, e1, e2⟩ := hv; exact ⟨_, .inl ⟨hw, fun w' => run _ _ w' e2⟩, hput ⟨b, n', c, e1, by rw [Nat.add_assoc]⟩⟩
          · cases h9
      · cases hp
  · cases h2
theorem Er (heq : ∀ t ∈ X.eqs, lD P t) (l9 : iP P Γ) (hC : eO P Γ) {ks qZ : List Nat} {r : St} {Q : Exit → Act → World → Prop} (hns : Region.noSelect ops = true) (hg : lM P X ops N.ok ops.toList = some gs) (hQp : ∀ c a w, ¬ Q (.panic c) a w) (hQ : ∀ a' w', Ok bI w0 bH N jr r a' w' → Q .normal a' w') : ∀ (n : Nat) (l : Array Bool) (os : List (List Nat)) {σ : St} {a : Act} {w : World}, l.size = ops.size → exts ops n l = some os → nU Γ gs ks qZ σ r os → Ok bI w0 bH N jr σ a w → wpAny P .any ops Q n l a w
  | 0, l, os, σ, a, w, hl, he, hA, hO => by
    unfold exts at he
    split at he
    · rename_i hn
      cases he
      obtain ⟨⟨s, h1, h2⟩, _⟩ := hA
      cases h1
      exact ⟨hn, hQ a w (h2 ▸ hO.less (fun _ hp => jS hp) (fun _ hp => jS hp))⟩
    · cases he
  | n + 1, l, os, σ, a, w, hl, he, hA, hO => by
    unfold exts at he
    obtain ⟨e1, e2⟩ := kH hg
    have hgd : ∀ i (hi1 : i < ops.size), y7 P X ops N.ok ops[i] = some (gs.getD i default) := by
      intro i hi1
      have hgi := e2 i (by simpa using hi1) (by rw [← e1]; simpa using hi1)
      rw [List.getD_eq_getElem?_getD, List.getElem?_eq_getElem (by rw [← e1]; simpa using hi1)]
      simpa using hgi
    split at he
    · rename_i hn
      cases he
      obtain ⟨⟨s, h1, h2⟩, _⟩ := hA
      cases h1
      rw [lS]
      exact ⟨fun _ => hQ a w (h2 ▸ hO.less (fun _ hp => jS hp) (fun _ hp => jS hp)), fun i hi => by rw [hn] at hi; simp at hi⟩
    · rename_i i0 is0 hn
      split at he
      · rename_i j hf
        obtain ⟨A, h1, rfl⟩ := zmm he
        have hj := List.find?_some hf
        rw [Bool.and_eq_true] at hj
        have hjr : j ∈ Region.ready .any ops l := by rw [hn]; exact List.mem_of_find?_eq_some hf
        obtain ⟨hj1, hj2, hj3⟩ := (jN hl).mp hjr
        obtain ⟨s, g1, g2⟩ := hA.step (fun e => vM n _ (e ▸ h1))
        obtain ⟨v, hy, Cy⟩ := ML (Array.getElem?_eq_getElem hj1) hj.1 (hgd j hj1) hO g1
        exact wpAny_take (Array.getElem?_eq_getElem hj1) hns hj.2 (by simpa using hjr) (fun c a w h => absurd h (hQp c _ w)) hy (Er heq l9 hC hns hg hQp hQ n _ A (by simp [hl]) h1 g2 Cy)
      · rw [lS]
        refine ⟨fun h => (by rw [hn] at h; cases h), ?_⟩
        rw [hn]
        have hall : ∀ i ∈ i0 :: is0, i ∈ Region.ready .any ops l := fun i hi => by rw [hn]; exact hi
        rename_i hfn
        clear hfn
        generalize i0 :: is0 = is at he hall
        clear hn
        induction is generalizing os with
        | nil => intro i hi; simp at hi
        | cons j is ih =>
          obtain ⟨A, h1, h2⟩ := zbm he
          obtain ⟨B, h3, rfl⟩ := zmm h2
          obtain ⟨hA1, hA2⟩ := hA.app
          intro i hi
          rcases List.mem_cons.mp hi with rfl | hi
          · obtain ⟨hi1, hi2, hi3⟩ := (jN hl).mp (hall i (by simp))
            obtain ⟨s, g1, g2⟩ := hA1.step (fun e => vM n _ (e ▸ h1))
            unfold wpOp
            rw [Array.getElem?_eq_getElem hi1]
            exact Em heq l9 hC (hgd i hi1) hO g1 fun a' w' h' => Er heq l9 hC hns hg hQp hQ n _ A (by simp [hl]) h1 g2 h'
          · exact ih B hA2 h3 (fun i hi => hall i (List.mem_cons_of_mem _ hi)) i hi
theorem RI (hm : P.follows .mixedOrders = true) (heq : ∀ t ∈ X.eqs, lD P t) (l9 : iP P Γ) (hC : eO P Γ) {ks qZ : List Nat} {os : List (List Nat)} {o : Out} {id : Nat} (hns : Region.noSelect ops = true) (hg : lM P X ops N.ok ops.toList = some gs) (he : exts ops ops.size (Array.replicate ops.size false) = some os) (hO : Ok bI w0 bH N jr σ a w) (hE : evO Γ gs ks qZ σ os = some (o, σ')) (hQ : ∀ a' w', Ok bI w0 bH N jr σ' a' w' → Q (Ep o) a' w') : (Code.region id ops true).wp P Q a w := by
  refine wp_mono (Q := fun e a w => e = .normal ∧ Q e a w) ?_ (fun _ _ _ h => h.2)
  refine wp_region_any hm ?_
  replace hO : Ok bI w0 bH N jr σ a { w with drawn := w.drawn + 1 } := by
    obtain ⟨Fz, κ, hr, hk⟩ := hO
    exact ⟨Fz, κ, hr.grow (w' := { w with drawn := w.drawn + 1 }) (Nat.le_refl _) (fun _ _ => rfl) ⟨rfl, rfl⟩, hk⟩
  cases os with
  | nil => cases hE
  | cons o1 os =>
    obtain ⟨s, h1, h2⟩ := zbm hE
    split at h2
    · rename_i hA
      cases h2
      exact Er heq l9 hC hns hg (fun c a w h => by cases h.1) (fun a' w' h => ⟨rfl, hQ a' w' h⟩) ops.size _ (o1 :: os) (by simp) he ⟨⟨s, h1, rfl⟩, hA⟩ hO
    · cases h2
theorem Cz (hm : P.follows .mixedOrders = true) (heq : ∀ t ∈ X.eqs, lD P t) (l9 : iP P Γ) (hC : eO P Γ) : ∀ (c : Code) {h h' : List Hi} {cc : CC} {σ σ' : St} {o : Out} {a : Act} {w : World} {Q : Exit → Act → World → Prop}, comp P X N.ok c h = some (cc, h') → Ok bI w0 bH N jr σ a w → ev Γ F cc σ = some (o, σ') →
    (∀ a' w', Ok bI w0 bH N jr σ' a' w' → Q (Ep o) a' w') → c.wp P Q a w := by
  intro c
  induction c with
  | skip =>
    intro h h' cc σ σ' o a w Q hc hO hE hQ
    cases hc
    cases hE
    exact wp_skip (hQ a w hO)
  | region id ops draw =>
    intro h h' cc σ σ' o a w Q hc hO hE hQ
    cases h with
    | nil => cases hc
    | cons k h =>
    obtain ⟨cr, h1, h2⟩ := zmm hc
    cases h2
    obtain ⟨gs, h3, h4⟩ := zbm h1
    cases draw with
    | false =>
      cases h4
      obtain ⟨s, h5, h6⟩ := zmm hE
      cases h6
      exact wp_region_list (JN heq l9 hC h3 hO h5 fun a' w' h => hQ a' w' (h.keep _))
    | true =>
      simp only [RF] at h4
      split at h4
      · split at h4
        · rename_i hns
          obtain ⟨os, h5, h6⟩ := zmm h4
          cases h6
          exact RI hm heq l9 hC hns h3 h5 hO hE hQ
        · cases h4
      split at h4
      · rename_i hb
        cases h4
        obtain ⟨s, h5, h6⟩ := zmm hE
        cases h6
        obtain ⟨g1, g2⟩ := Ho (MK _ _) h3 hb
        exact RD hm g1 heq l9 hC (by rw [g2]; exact h3) hO h5 fun a' w' h => hQ a' w' (h.keep _)
      · cases h4
  | seq x y ihx ihy =>
    intro h h' cc σ σ' o a w Q hc hO hE hQ
    obtain ⟨p, h1, h2⟩ := zbm hc
    obtain ⟨r, h3, h4⟩ := zmm h2
    cases h4
    obtain ⟨s, h5, h6⟩ := zbm hE
    refine wp_seq (ihx h1 hO h5 fun a' w' Cy => ?_)
    cases hs : s.1 with
    | jo => rw [hs] at h6; exact ihy h3 Cy h6 hQ
    | ext id => rw [hs] at h6; cases h6; exact hQ a' w' Cy
    | ret => rw [hs] at h6; cases h6; exact hQ a' w' Cy
  | cond c x y ihx ihy =>
    intro h h' cc σ σ' o a w Q hc hO hE hQ
    obtain ⟨co, h0, hc⟩ := zbm hc
    obtain ⟨p, h1, h2⟩ := zbm hc
    obtain ⟨r, h3, h4⟩ := zmm h2
    cases h4
    obtain ⟨v, h5, h6⟩ := zbm hE
    obtain ⟨t, h7, h8⟩ := zbm h6
    have hv : a.eval c = .bool t := by
      obtain ⟨Fz, κ, hr, _⟩ := hO
      exact Af h7 (hr.eval h0 h5)
    refine wp_cond hv ?_
    cases t with
    | true => exact ihx h1 hO h8 hQ
    | false => exact ihy h3 hO h8 hQ
  | block id c ih =>
    intro h h' cc σ σ' o a w Q hc hO hE hQ
    obtain ⟨p, h1, h2⟩ := zmm hc
    cases h2
    obtain ⟨s, h3, h4⟩ := zmm hE
    refine wp_block (ih h1 hO h3 fun a' w' Cy => ?_)
    cases hs : s.1 with
    | jo => rw [hs] at h4; cases h4; exact hQ a' w' Cy
    | ret => rw [hs] at h4; cases h4; exact hQ a' w' Cy
    | ext i =>
      rw [hs] at h4
      simp only [Ep, Exit.inBlock]
      by_cases hi : i = id
      · simp only [if_pos hi] at h4
        cases h4; rw [if_pos hi]; exact hQ a' w' Cy
      · simp only [if_neg hi] at h4
        cases h4; rw [if_neg hi]; exact hQ a' w' Cy
  | loop c ih =>
    intro h h' cc σ σ' o a w Q hc hO hE hQ
    cases h with
    | nil => cases hc
    | cons k h =>
      obtain ⟨p, h1, h2⟩ := zmm hc
      cases h2
      have key : ∀ (n : Nat) (σ : St) (a : Act) (w : World), Ok bI w0 bH N jr σ a w → iter (ev Γ F p.1) (Ev.res k.ks k.BK k.rws) n σ = some (o, σ') → Code.rounds P c Q n a w := by
        intro n
        induction n with
        | zero => intro σ a w _ hE; cases hE
        | succ n ihn =>
          intro σ a w hO hE
          obtain ⟨s, h3, h4⟩ := zbm hE
          rw [rounds_succ]
          refine ih h1 (hO.res k.ks k.BK k.rws) h3 fun a' w' Cy => ?_
          cases hs : s.1 with
          | jo => rw [hs] at h4; exact ihn s.2 a' w' Cy h4
          | ext id => rw [hs] at h4; cases h4; exact hQ a' w' Cy
          | ret => rw [hs] at h4; cases h4; exact hQ a' w' Cy
      exact wp_loop_rounds F (key F σ a w hO hE)
  | exit id =>
    intro h h' cc σ σ' o a w Q hc hO hE hQ
    cases hc
    cases hE
    exact wp_exit (hQ a w hO)
  | ret =>
    intro h h' cc σ σ' o a w Q hc hO hE hQ
    cases hc
    cases hE
    exact wp_ret (hQ a w hO)
  | scope c ih =>
    intro h h' cc σ σ' o a w Q hc hO hE hQ
    refine wp_scope_straight (ih hc hO hE fun a' w' h' => ?_)
    have := hQ a' w' h'
    cases o <;> exact this
  | label l =>
    intro h h' cc σ σ' o a w Q hc hO hE hQ
    cases hc
    cases hE
    exact wp_label (hQ a w hO)
  | _ => intro h h' cc σ σ' o a w Q hc; cases hc
end
end Go.Proofs.Ytdkkgecdhapfhaa.Ev
namespace Go.Proofs.Ytdkkgecdhapfhaa.Ev
open Go
section
variable {P : Program} {Γ : Env} {bI Fz bK : Nat → Prop} {w0 w w' : World} {bH bs : List Nat} {N : Fr} {F : Nat} {κ jr : Nat → Value} {σ fH σ' : St} {a : Act} {X : Hx}
theorem CB {bo : List Nat} : ∀ {gH : List AV} {vals : List Value} {bx bs : List Nat} {i : Nat} {pend : List PL} {jw : List Value} {mV : List CV} {κ : Nat → Value} {σ σ' : St}, bW bI w0 bH N (bx ++ bs) Fz κ σ a w → fK Fz w gH vals bx → (∀ j v, vals[j]? = some v → a.tmps.getD (i + j) undef = v) → bA Fz κ w pend jw → enter bo i pend σ gH = some (mV, σ') →
    ∃ eZ, bW bI w0 bH N bs Fz eZ σ' a w ∧ dP Fz eZ w mV vals ∧ bA Fz eZ w pend jw
  | [], [], bx, bs, i, pend, jw, mV, κ, σ, σ', h, hx, ht, hp, hs => by cases hs; cases hx; exact ⟨κ, h, trivial, hp⟩
  | [], _ :: _, _, _, _, _, _, _, _, _, _, _, hx, _, _, _ => hx.elim
  | _ :: _, [], _, _, _, _, _, _, _, _, _, _, hx, _, _, _ => hx.elim
  | x :: gH, v :: vals, bx, bs, i, pend, jw, mV, κ, σ, σ', h, hx, ht, hp, hs => by
    obtain ⟨b1, b2, h1, h2, rfl⟩ := hx
    obtain ⟨p, h3, h4⟩ := zbm hs
    obtain ⟨r, h5, h6⟩ := zmm h4
    cases h6
    obtain ⟨yJ, e1, e2, e3, _⟩ := JG (Kp := fun _ => True) (fun _ _ => trivial) (fun _ _ _ => trivial) trivial (bs := b2 ++ bs) (by rw [← List.append_assoc]; exact h) h1 hp h3
    have hv : a.tmps.getD i undef = v := by have := ht 0 v rfl; rwa [Nat.add_zero] at this
    have hrel : bW bI w0 bH N (b2 ++ bs) Fz yJ ⟨Ev.put p.2.tm i (.c p.1), p.2.ob⟩ a w := ⟨e1.rel.put' (by rw [hv]; exact e2), e1.mZ, e1.ap⟩
    obtain ⟨Eh, g1, g2, g3⟩ := CB hrel h2 (fun j u hj => by have := ht (j + 1) u (by simpa using hj); rwa [show i + 1 + j = i + (j + 1) from by omega]) (show bA Fz yJ w (Ev.cells p.1 ++ pend) (Ev.Cn p.1 v ++ jw) from e2.Cn.app e3) h5
    obtain ⟨g5, g6⟩ := g3.Ay (by have := e2.Cn.length; omega)
    exact ⟨Eh, g1, ⟨fT.JH (fun xs hx => by rw [hx] at e2; obtain ⟨cs, h, _⟩ := e2; exact ⟨cs, h⟩) g5, g2⟩, g6⟩
theorem vN (h : bW bI w0 bH N bs Fz κ σ a w) {x : PL} {y : TV} {v : Value} (hx : dZ Fz κ w x v) (hs : outT σ x = some (y, σ')) : ∃ bK bx, bW bI w0 bH N (bx ++ bs) bK κ σ' a w ∧ (∀ b, Fz b → bK b) ∧ ni bK w y v bx := by
  cases x with
  | f x => cases hs; exact ⟨Fz, [], h, fun _ h => h, hx, rfl⟩
  | fG => cases hs; exact ⟨Fz, [], h, fun _ h => h, by simp only [fA]; exact ⟨none, 0, hx, Nat.le_refl _, by simp, .inl trivial⟩, rfl⟩
  | iO => cases hs; exact ⟨Fz, [], h, fun _ h => h, hx, rfl⟩
  | fu => cases hs; exact ⟨Fz, [], h, fun _ h => h, hx, rfl⟩
  | fp cs => cases hs; exact ⟨Fz, [], h, fun _ h => h, dZ.mono (κ := κ) (eZ := fun _ => undef) (fun _ h => h) (fun _ _ => rfl) (fun k hk => by cases hk) hx, rfl⟩
  | fn f cs => cases hs; exact ⟨Fz, [], h, fun _ h => h, dZ.mono (κ := κ) (eZ := fun _ => undef) (fun _ h => h) (fun _ _ => rfl) (fun k hk => by cases hk) hx, rfl⟩
  | own key n =>
    obtain ⟨p, h1, h2⟩ := zmm hs
    cases h2
    obtain ⟨bK, g1, g2, g3⟩ := h.vX hx h1
    exact ⟨bK, [], g1, g2, g3, rfl⟩
  | mp key =>
    simp only [outT] at hs
    split at hs
    · rename_i sh ents fU
      cases hs
      obtain ⟨b, h1, h2⟩ := h.rel.obj fU
      exact ⟨Fz, [b], h.take fU (by rw [h1]; rfl), fun _ h => h, b, by rw [hx.1, h1], h2, rfl⟩
    · cases hs
  | ptr key off =>
    cases off with
    | succ n => cases hs
    | zero =>
      simp only [outT] at hs
      split at hs
      · rename_i xs fU
        obtain ⟨p, h1, h2⟩ := zmm hs
        cases h2
        obtain ⟨b, cs, e, g1, g2, g3⟩ := h.rel.obj fU
        obtain ⟨b', g4, g5⟩ := hx
        rw [g1] at g4
        cases g4
        obtain ⟨F1, bx, e1, e2, e3⟩ := Aq (h.take fU (by rw [g1]; rfl)) g3 h1
        exact ⟨F1, b :: bx, e1.perm List.perm_middle, e2, b, cs, e, bx, g5, g2, e3, rfl⟩
      · cases hs
  | _ => cases hs
theorem CG : ∀ {xs : List PL} {ys : List TV} {vs : List Value} {bs : List Nat} {Fz : Nat → Prop} {σ σ' : St}, bW bI w0 bH N bs Fz κ σ a w → bA Fz κ w xs vs → uN σ xs = some (ys, σ') → ∃ bK bx, bW bI w0 bH N (bx ++ bs) bK κ σ' a w ∧ (∀ b, Fz b → bK b) ∧ lg bK w ys vs bx
  | [], ys, [], bs, Fz, σ, σ', h, _, hs => by cases hs; exact ⟨Fz, [], h, fun _ h => h, rfl⟩
  | x :: xs, ys, v :: vs, bs, Fz, σ, σ', h, hx, hs => by
    obtain ⟨p, h1, h2⟩ := zbm hs
    obtain ⟨r, h3, h4⟩ := zmm h2
    cases h4
    obtain ⟨F1, b1, e1, e2, e3⟩ := vN h hx.1 h1
    obtain ⟨F2, b2, e4, e5, e6⟩ := CG e1 (bA.mono e2 (fun _ _ => rfl) xs (fun _ _ => rfl) vs hx.2) h3
    refine ⟨F2, b1 ++ b2, e4.perm ?_, fun b hb => e5 b (e2 b hb), b1, b2, e3.mono e5 (fun _ _ => rfl) (fun _ _ => rfl), e6, rfl⟩
    rw [← List.append_assoc]
    exact List.perm_append_comm.append_right bs
  | [], _, _ :: _, _, _, _, _, _, h, _ => h.elim
  | _ :: _, _, [], _, _, _, _, _, h, _ => h.elim
theorem MN (h : bW bI w0 bH N bs Fz κ σ a w) {x : CV} {y : AV} {v : Value} (hx : fT Fz κ w x v) (hs : Mh σ x = some (y, σ')) : ∃ bK bx, bW bI w0 bH N (bx ++ bs) bK κ σ' a w ∧ (∀ b, Fz b → bK b) ∧ qc bK w y v bx := by
  cases x with
  | one x =>
    obtain ⟨p, h1, h2⟩ := zmm hs
    cases h2
    exact vN h hx h1
  | agg xs =>
    obtain ⟨p, h1, h2⟩ := zmm hs
    cases h2
    obtain ⟨cs, rfl, hx⟩ := hx
    obtain ⟨F1, b1, e1, e2, e3⟩ := CG h hx h1
    exact ⟨F1, b1, e1, e2, cs, rfl, e3⟩
theorem MO (h : bW bI w0 bH N bs Fz κ σ a w) {sz : Nat} {x : PL} {y : TV} {v : Value} (hx : dZ Fz κ w x v) (hs : Aa sz σ x = some (y, σ')) : ∃ bx, bW bI w0 bH N (bx ++ bs) Fz κ σ' a w ∧ ni Fz w y v bx := by
  cases x with
  | own key n =>
    simp only [Aa] at hs
    split at hs
    · rename_i z rows fU
      split at hs
      · rename_i hz
        subst hz
        cases hs
        obtain ⟨g1, g2⟩ := h.Fv fU
        exact ⟨_, g1, by rw [hx.1]; exact g2⟩
      · cases hs
    · cases hs
  | fG =>
    simp only [Aa] at hs
    split at hs
    · cases hs
    · rename_i hz
      cases hs
      have hv : v = .slice none 0 0 := hx
      subst hv
      exact ⟨[], h, by omega, 0, [], none, 0, rfl, World.ownsRow_nil w _ _ _, rfl, rfl⟩
  | _ => cases hs
theorem MP (h : bW bI w0 bH N bs Fz κ σ a w) {fl : Option Nat} {x : CV} {y : AV} {v : Value} (hx : fT Fz κ w x v) (hs : Ab fl σ x = some (y, σ')) : ∃ bK bx, bW bI w0 bH N (bx ++ bs) bK κ σ' a w ∧ (∀ b, Fz b → bK b) ∧ qc bK w y v bx := by
  cases fl with
  | none => exact MN h hx (by cases x <;> exact hs)
  | some sz =>
    cases x with
    | one x =>
      obtain ⟨p, h1, h2⟩ := zmm hs
      cases h2
      obtain ⟨bx, e1, e2⟩ := MO h hx h1
      exact ⟨Fz, bx, e1, fun _ h => h, e2⟩
    | agg xs => cases hs
theorem CJ : ∀ {xs : List CV} {ys : List AV} {vs : List Value} {fl : List (Option Nat)} {bs : List Nat} {Fz : Nat → Prop} {σ σ' : St}, bW bI w0 bH N bs Fz κ σ a w → dP Fz κ w xs vs → mW fl σ xs = some (ys, σ') → ∃ bK bx, bW bI w0 bH N (bx ++ bs) bK κ σ' a w ∧ (∀ b, Fz b → bK b) ∧ fK bK w ys vs bx
  | [], ys, [], fl, bs, Fz, σ, σ', h, _, hs => by cases hs; exact ⟨Fz, [], h, fun _ h => h, rfl⟩
  | x :: xs, ys, v :: vs, fl, bs, Fz, σ, σ', h, hx, hs => by
    obtain ⟨p, h1, h2⟩ := zbm hs
    obtain ⟨r, h3, h4⟩ := zmm h2
    cases h4
    obtain ⟨F1, b1, e1, e2, e3⟩ := MP h hx.1 h1
    obtain ⟨F2, b2, e4, e5, e6⟩ := CJ e1 (dP.mono e2 (fun _ _ => rfl) xs (fun _ _ => rfl) vs hx.2) h3
    refine ⟨F2, b1 ++ b2, e4.perm ?_, fun b hb => e5 b (e2 b hb), b1, b2, e3.mono e5 (fun _ _ => rfl) (fun _ _ => rfl), e6, rfl⟩
    rw [← List.append_assoc]
    exact List.perm_append_comm.append_right bs
  | [], _, _ :: _, _, _, _, _, _, _, h, _ => h.elim
  | _ :: _, _, [], _, _, _, _, _, _, h, _ => h.elim
theorem CK {x : PL} {y z : TV} {v : Value} {D5 : List Nat} {F0 : Nat → Prop} {u0 : World} (h : bW bI w0 bH N bs Fz κ σ a w) {JX : Nat → Value} (hx : dZ F0 JX u0 x v) (I8 : ∀ k, k % 2 = 1 → κ k = JX k) (hy : ni F0 u0 y v D5) (hf : ∀ b, F0 b → Fz b) (hw : ∀ b, F0 b → w.heap[b]? = u0.heap[b]?) (hs : jH σ x y = some (z, σ')) :
    ∃ bK bx, bW bI w0 bH N (bx ++ bs) bK κ σ' a w ∧ (∀ b, Fz b → bK b) ∧ ni bK w z v bx := by
  have plain : D5 = [] → some (y, σ) = some (z, σ') → ∃ bK bx, bW bI w0 bH N (bx ++ bs) bK κ σ' a w ∧ (∀ b, Fz b → bK b) ∧ ni bK w z v bx := by
    intro hb hs
    cases hs
    subst hb
    exact ⟨Fz, [], h, fun _ h => h, hy.mono hf hw (fun b hb => by simp at hb)⟩
  cases y with
  | ptr cs =>
    cases x with
    | ptr key off =>
      cases off with
      | succ n => cases hs
      | zero =>
        simp only [jH] at hs
        split at hs
        · rename_i hk
          exact vN h (show dZ Fz κ w (.ptr key 0) v by obtain ⟨b, h1, h2⟩ := hx; exact ⟨b, (I8 key hk).trans h1, h2⟩) hs
        · cases hs
    | _ => cases hs
  | mp sh ents =>
    cases x with
    | mp key =>
      simp only [jH] at hs
      split at hs
      · rename_i hk
        exact vN h (show dZ Fz κ w (.mp key) v by obtain ⟨h1, h2⟩ := hx; exact ⟨h1.trans (I8 key hk).symm, h2⟩) hs
      · cases hs
    | ptr key off => cases off <;> cases hs
    | _ => cases hs
  | own sz rows =>
    have g : z = .any → σ' = σ → ∃ bK bx, bW bI w0 bH N (bx ++ bs) bK κ σ' a w ∧ (∀ b, Fz b → bK b) ∧ ni bK w z v bx := by
      rintro rfl rfl
      exact ⟨Fz, [], h, fun _ h => h, rfl⟩
    cases x with
    | ptr key off => cases off <;> (cases hs; exact g rfl rfl)
    | own key n =>
      simp only [jH] at hs
      split at hs
      · rename_i hk
        split at hs
        · rename_i z' rows' fU
          cases hs
          obtain ⟨g1, g2⟩ := h.Fv fU
          refine ⟨Fz, _, g1, fun _ h => h, ?_⟩
          rw [hx.1, ← I8 key hk]
          exact g2
        · cases hs
      · cases hs; exact g rfl rfl
    | _ => cases hs; exact g rfl rfl
  | fp cs =>
    cases x with
    | ptr key off => cases off <;> exact plain hy.2 hs
    | _ => exact plain hy.2 hs
  | fn f cs =>
    cases x with
    | ptr key off => cases off <;> exact plain hy.2 hs
    | _ => exact plain hy.2 hs
  | any =>
    cases x with
    | ptr key off => cases off <;> exact plain hy hs
    | _ => exact plain hy hs
  | f y =>
    cases x with
    | ptr key off => cases off <;> exact plain hy.2 hs
    | _ => exact plain hy.2 hs
  | iO =>
    cases x with
    | ptr key off => cases off <;> exact plain hy.2 hs
    | _ => exact plain hy.2 hs
  | fu =>
    cases x with
    | ptr key off => cases off <;> exact plain hy.2 hs
    | _ => exact plain hy.2 hs
theorem zq {F0 : Nat → Prop} {u0 : World} {JX : Nat → Value} (I8 : ∀ k, k % 2 = 1 → κ k = JX k) : ∀ {xs : List PL} {ys zs : List TV} {vs : List Value} {bs D5 : List Nat} {Fz : Nat → Prop} {σ σ' : St}, bW bI w0 bH N bs Fz κ σ a w → bA F0 JX u0 xs vs → lg F0 u0 ys vs D5 → (∀ b, F0 b → Fz b) → (∀ b, F0 b → w.heap[b]? = u0.heap[b]?) → nJ σ xs ys = some (zs, σ') →
    ∃ bK bx, bW bI w0 bH N (bx ++ bs) bK κ σ' a w ∧ (∀ b, Fz b → bK b) ∧ lg bK w zs vs bx
  | [], [], zs, [], bs, D5, Fz, σ, σ', h, hx, hy, hf, hw, hs => by cases hs; exact ⟨Fz, [], h, fun _ h => h, rfl⟩
  | x :: xs, y :: ys, zs, v :: vs, bs, D5, Fz, σ, σ', h, hx, hy, hf, hw, hs => by
    obtain ⟨y1, y2, h1, h2, _⟩ := hy
    obtain ⟨p, h3, h4⟩ := zbm hs
    obtain ⟨r, h5, h6⟩ := zmm h4
    cases h6
    obtain ⟨F1, b1, e1, e2, e3⟩ := CK h hx.1 I8 h1 hf hw h3
    obtain ⟨F2, b2, e4, e5, e6⟩ := zq I8 e1 hx.2 h2 (fun b hb => e2 b (hf b hb)) hw h5
    refine ⟨F2, b1 ++ b2, e4.perm ?_, fun b hb => e5 b (e2 b hb), b1, b2, e3.mono e5 (fun _ _ => rfl) (fun _ _ => rfl), e6, rfl⟩
    rw [← List.append_assoc]
    exact List.perm_append_comm.append_right bs
  | [], [], _, _ :: _, _, _, _, _, _, _, hx, _, _, _, _ => hx.elim
  | _ :: _, _ :: _, _, [], _, _, _, _, _, _, hx, _, _, _, _ => hx.elim
  | [], _ :: _, _, _, _, _, _, _, _, _, _, _, _, _, hs => by cases hs
  | _ :: _, [], _, _, _, _, _, _, _, _, _, _, _, _, hs => by cases hs
theorem JY {F0 : Nat → Prop} {u0 : World} {JX : Nat → Value} (I8 : ∀ k, k % 2 = 1 → κ k = JX k) {x : CV} {y z : AV} {v : Value} {D5 : List Nat} (h : bW bI w0 bH N bs Fz κ σ a w) (hx : fT F0 JX u0 x v) (hy : qc F0 u0 y v D5) (hf : ∀ b, F0 b → Fz b) (hw : ∀ b, F0 b → w.heap[b]? = u0.heap[b]?) (hs : wz σ x y = some (z, σ')) :
    ∃ bK bx, bW bI w0 bH N (bx ++ bs) bK κ σ' a w ∧ (∀ b, Fz b → bK b) ∧ qc bK w z v bx := by
  cases x with
  | one x =>
    cases y with
    | one y =>
      obtain ⟨p, h1, h2⟩ := zmm hs
      cases h2
      exact CK h hx I8 hy hf hw h1
    | agg ys => cases hs
  | agg xs =>
    cases y with
    | one y => cases hs
    | agg ys =>
      obtain ⟨p, h1, h2⟩ := zmm hs
      cases h2
      obtain ⟨cs, rfl, hx⟩ := hx
      obtain ⟨cs', hcs, hy⟩ := hy
      cases hcs
      obtain ⟨F1, b1, e1, e2, e3⟩ := zq I8 h hx hy hf hw h1
      exact ⟨F1, b1, e1, e2, cs, rfl, e3⟩
theorem zu {F0 : Nat → Prop} {u0 : World} {JX : Nat → Value} (I8 : ∀ k, k % 2 = 1 → κ k = JX k) : ∀ {xs : List CV} {ys zs : List AV} {vs : List Value} {bs D5 : List Nat} {Fz : Nat → Prop} {σ σ' : St}, bW bI w0 bH N bs Fz κ σ a w → dP F0 JX u0 xs vs → fK F0 u0 ys vs D5 → (∀ b, F0 b → Fz b) → (∀ b, F0 b → w.heap[b]? = u0.heap[b]?) → kG σ xs ys = some (zs, σ') →
    ∃ bK bx, bW bI w0 bH N (bx ++ bs) bK κ σ' a w ∧ (∀ b, Fz b → bK b) ∧ fK bK w zs vs bx
  | [], [], zs, [], bs, D5, Fz, σ, σ', h, hx, hy, hf, hw, hs => by cases hs; exact ⟨Fz, [], h, fun _ h => h, rfl⟩
  | x :: xs, y :: ys, zs, v :: vs, bs, D5, Fz, σ, σ', h, hx, hy, hf, hw, hs => by
    obtain ⟨y1, y2, h1, h2, _⟩ := hy
    obtain ⟨p, h3, h4⟩ := zbm hs
    obtain ⟨r, h5, h6⟩ := zmm h4
    cases h6
    obtain ⟨F1, b1, e1, e2, e3⟩ := JY I8 h hx.1 h1 hf hw h3
    obtain ⟨F2, b2, e4, e5, e6⟩ := zu I8 e1 hx.2 h2 (fun b hb => e2 b (hf b hb)) hw h5
    refine ⟨F2, b1 ++ b2, e4.perm ?_, fun b hb => e5 b (e2 b hb), b1, b2, e3.mono e5 (fun _ _ => rfl) (fun _ _ => rfl), e6, rfl⟩
    rw [← List.append_assoc]
    exact List.perm_append_comm.append_right bs
  | [], [], _, _ :: _, _, _, _, _, _, _, hx, _, _, _, _ => hx.elim
  | _ :: _, _ :: _, _, [], _, _, _, _, _, _, hx, _, _, _, _ => hx.elim
  | [], _ :: _, _, _, _, _, _, _, _, _, _, _, _, _, hs => by cases hs
  | _ :: _, [], _, _, _, _, _, _, _, _, _, _, _, _, hs => by cases hs
end
end Go.Proofs.Ytdkkgecdhapfhaa.Ev
namespace Go.Proofs.Ytdkkgecdhapfhaa.Ev
open Go
def mE (P : Program) : List ResultVar → Option (List Rs)
  | [] => some []
  | .tmp t :: l => (mE P l).map fun r => .t t :: r
  | .cell a t :: l => (wD P t).bind fun g => (mQ P t).bind fun n => (mE P l).map fun r => .cell a (if g then n else 1) g :: r
section
variable {P : Program} {Γ : Env} {bI Fz bK : Nat → Prop} {w0 w w' : World} {bH bs : List Nat} {N : Fr} {F : Nat} {κ jr : Nat → Value} {σ fH σ' : St} {a : Act} {X : Hx}
def zw (tmps : Array Value) (r : ResultVar) : Sem Value := match r with
  | .tmp t => pure (tmps.getD t undef)
  | .cell a t => do loadVar t (← asAddr (tmps.getD a undef))
theorem wT (h : Rel bI w0 bH N Fz κ σ a w) : ∀ {rv : List ResultVar} {rs : List Rs} {mV : List CV}, mE P rv = some rs → slots σ rs = some mV → ∃ vs, (rv.mapM (zw a.tmps)).run P w = .ok vs w ∧ dP Fz κ w mV vs
  | [], rs, mV, hc, hs => by cases hc; cases hs; exact ⟨[], by simp, trivial⟩
  | .tmp t :: l, rs, mV, hc, hs => by
    obtain ⟨r, h1, rfl⟩ := zmm hc
    obtain ⟨x, h2, hs⟩ := zbm hs
    obtain ⟨m, h3, rfl⟩ := zmm hs
    obtain ⟨vs, e1, e2⟩ := wT h h1 h3
    have hv := h.eval (x := .tmp t) (y := .t t) rfl h2
    refine ⟨a.tmps.getD t undef :: vs, ?_, hv, e2⟩
    rw [List.mapM_cons]
    simp [zw, e1]
  | .cell ad t :: l, rs, mV, hc, hs => by
    obtain ⟨g, hg, hc⟩ := zbm hc
    obtain ⟨n, hn, hc⟩ := zbm hc
    obtain ⟨r, h1, rfl⟩ := zmm hc
    obtain ⟨x, h2, hs⟩ := zbm hs
    obtain ⟨m, h3, rfl⟩ := zmm hs
    obtain ⟨vs, e1, e2⟩ := wT h h1 h3
    simp only [slot] at h2
    split at h2
    · rename_i key off hk
      split at h2
      · rename_i xs fU
        obtain ⟨sg, h5, h6⟩ := zbm h2
        have hv : jq Fz κ w (.c (.one (.ptr key off))) (a.tmps.getD ad undef) := h.val hk
        obtain ⟨b, g1, g2⟩ := hv
        obtain ⟨b', cs, e, g3, g4, g5⟩ := h.obj fU
        rw [g1] at g3
        cases g3
        obtain ⟨e6, e7, e8⟩ := g5.seg h5
        obtain ⟨v, e9, e10⟩ := mq (P := P) (b := b) (o := off) hg hn e6 (fun j v hj => by
          have := pz (w := w) (b := b) (o := 0) (off := off) (vs := cs.toList) (n := if g then n else 1) (fun j v hj => by
            rw [Nat.zero_add]
            simp only [World.cell?, g4]
            simpa using hj) j v hj
          rwa [Nat.zero_add] at this) e7 h6
        refine ⟨v :: vs, ?_, e10, e2⟩
        have ha : (asAddr (a.tmps.getD ad undef)).run P w = .ok ⟨b, off, none⟩ w := by rw [g2]; rfl
        have hro : (zw a.tmps (.cell ad t)).run P w = .ok v w := by
          simp only [zw, Sem.run_bind, ha, Result.andThen_ok]
          exact e9
        rw [List.mapM_cons]
        simp only [Sem.run_bind, hro, e1, Result.andThen_ok, Sem.run_pure]
      · cases h2
    · cases h2
theorem Es (h : Rel bI w0 bH N Fz κ σ a w) {fn : Func} {rs : List Rs} {mV : List CV} (hc : mE P fn.results.toList = some rs) (hs : slots σ rs = some mV) : ∃ vs, (results fn a.tmps).run P w = .ok (ret vs) w ∧ dP Fz κ w mV vs := by
  obtain ⟨vs, h1, h2⟩ := wT h hc hs
  refine ⟨vs, ?_, h2⟩
  have he : results fn a.tmps = (do let vs ← fn.results.mapM (zw a.tmps); pure (if h : vs.size = 1 then vs[0] else .tuple vs)) := by
    unfold results zw
    congr 1
  rw [he, Array.mapM_eq_mapM_toList]
  simp only [Sem.run_bind, Sem.run_map, h1, Result.andThen_ok, Sem.run_pure]
  match vs with
  | [] => rfl
  | [x] => rfl
  | x :: y :: l => simp [ret]
theorem JZ {fn : Func} {cf : CF} {gH rs q8 : List AV} {vals : List Value} {mV : List CV} {N : Fr} (hr : mE P fn.results.toList = some cf.res) (ha : fK Fz w gH vals bs) (hap : ∀ b ∈ bs, ¬ Fz b ∧ b < w.heap.size) (hfz : ∀ b, Fz b → b < w.heap.size) (g2 : dP Fz jr w mV vals) :
    ∀ a' w', Ok Fz w bs N jr σ a' w' → ((kG σ mV gH).bind fun b => (slots b.2 cf.res).bind fun l => (mW cf.ro b.2 l).map fun r => (r.1, b.1)) = some (rs, q8) →
        a'.defers = N.ds ∧ ∃ v, (results fn a'.tmps).run P w' = .ok v w' ∧ ∃ bK ug b1 b2, Ending.returned v = .returned (ret ug) ∧ Post Fz w vals bs rs q8 bK w' ug b1 b2 := by
  rintro a' w' ⟨F1, κ, hr1, hk⟩ hE
  obtain ⟨b, h3, hE⟩ := zbm hE
  obtain ⟨l, h4, hE⟩ := zbm hE
  obtain ⟨r, h5, h6⟩ := zmm hE
  cases h6
  have hmv : ∀ b, Fz b → w'.heap[b]? = w.heap[b]? := fun b hb => hr1.ext b (hfz b hb) (fun hm => (hap b hm).1 hb)
  obtain ⟨F2, b1, e1, e2, e3⟩ := zu hk hr1.x g2 ha (fun b hb => hr1.yB b hb) hmv h3
  rw [List.append_nil] at e1
  obtain ⟨ug, e4, e5⟩ := Es e1.rel hr h4
  obtain ⟨F3, b2, e6, e7, e8⟩ := CJ e1 e5 h5
  have hpm := e6.perm List.perm_append_comm
  refine ⟨hr1.mZ, ret ug, e4, F3, ug, b1, b2, rfl, fun b hb => e7 b (e2 b (hr1.yB b hb)), fun b hb => e6.rel.fz b hb, hr1.big, hr1.ext, hr1.kp, e3.mono e7 (fun _ _ => rfl) (fun _ _ => rfl), e8, hpm.mZ, fun b hb => ?_⟩
  have := hpm.ap b hb
  exact ⟨this.1, this.2.1, this.2.2.1⟩
theorem fK.len : ∀ {xs : List AV} {vs : List Value} {b : List Nat}, fK Fz w xs vs b → vs.length = xs.length
  | [], [], _, _ => rfl
  | [], _ :: _, _, h => h.elim
  | _ :: _, [], _, h => h.elim
  | x :: xs, v :: vs, _, ⟨_, _, _, h2, _⟩ => by simp [fK.len h2]
theorem entered {bo : List Nat} {n : Nat} {gH : List AV} {vals : List Value} {mV : List CV} (ha : fK Fz w gH vals bs) (hnd : bs.Nodup) (hap : ∀ b ∈ bs, ¬ Fz b ∧ b < w.heap.size) (hfz : ∀ b, Fz b → b < w.heap.size)
    (hsz : (vals.toArray ++ Array.replicate (n - vals.toArray.size) undef).size = n) (h1 : enter bo 0 [] ⟨[], []⟩ gH = some (mV, σ)) :
    ∃ jr, Ok Fz w bs (Fr.of n) jr σ { tmps := vals.toArray ++ Array.replicate (n - vals.toArray.size) undef, defers := [] } w ∧ dP Fz jr w mV vals := by
  have VX : bW Fz w bs (Fr.of n) (bs ++ []) Fz (fun _ => undef) ⟨[], []⟩ { tmps := vals.toArray ++ Array.replicate (n - vals.toArray.size) undef, defers := [] } w :=
    ⟨⟨fun p hp => by simp at hp, hsz, rfl, fun d hd => by
      rw [Array.getD_eq_getD_getElem?, Array.getElem?_eq_none (by rw [hsz]; simpa [Fr.of, Q0] using hd)]; rfl, fun p hp => by simp at hp, fun p hp => by simp at hp, fun p hp => by simp at hp, fun b hb => ⟨hfz b hb, .inl hb⟩, fun _ h => h, Nat.le_refl _, fun _ _ _ => rfl, rfl, rfl⟩, by rw [List.append_nil]; exact hnd, fun b hb => by
      rw [List.append_nil] at hb
      exact ⟨(hap b hb).1, (hap b hb).2, .inl hb, fun p hp => by simp at hp⟩⟩
  obtain ⟨jr, g1, g2, _⟩ := CB VX ha (fun j v hj => by
    rw [Nat.zero_add, Array.getD_eq_getD_getElem?, Array.getElem?_append_left (by
      have := (List.getElem?_eq_some_iff.mp hj).1
      simpa using this)]
    simp [hj]) (show bA Fz (fun _ => undef) w [] [] from trivial) h1
  exact ⟨jr, ⟨Fz, jr, g1.rel, fun _ _ => rfl⟩, g2⟩
theorem zx (hm : P.follows .mixedOrders = true) (heq : ∀ t ∈ X.eqs, lD P t) (l9 : iP P Γ) (hC : eO P Γ) {f : FuncId} {fn : Func} {c : Code} (hf : P.funcs[f]? = some fn) (hb : fn.body = some c) {cf : CF} {hints rest : List Hi}
    (hc : comp P X (Q0 fn.ntmps) c hints = some (cf.body, rest)) (hr : mE P fn.results.toList = some cf.res) (hnp : cf.np ≤ fn.ntmps) (F : Nat) : Sat P f (I7 Γ F cf) := by
  intro gH rs q8 hE Fz w vals bs ha hnd hap hfz
  unfold I7 at hE
  split at hE
  · cases hE
  · rename_i hlen
    have hlen' : gH.length = cf.np := Decidable.not_not.mp hlen
    have hvl : vals.length = gH.length := ha.len
    obtain ⟨e, h1, hE⟩ := zbm hE
    obtain ⟨p, h2, hE⟩ := zbm hE
    refine calls_of_wp hf hb ?_
    have hsz : (vals.toArray ++ Array.replicate (fn.ntmps - vals.toArray.size) undef).size = fn.ntmps := by simp; omega
    obtain ⟨jr, hok, g2⟩ := entered ha hnd hap hfz hsz h1
    have fin := fun a' w' => JZ (σ := p.2) (N := Fr.of fn.ntmps) (rs := rs) (q8 := q8) (cf := cf) hr ha hap hfz g2 a' w'
    refine Cz hm heq l9 hC c hc hok h2 fun a' w' hO => ?_
    cases hp : p.1 with
    | jo => rw [hp] at hE; exact fin a' w' hO hE
    | ret => rw [hp] at hE; exact fin a' w' hO hE
    | ext id => rw [hp] at hE; cases hE
end
end Go.Proofs.Ytdkkgecdhapfhaa.Ev
namespace Go.Proofs.Ytdkkgecdhapfhaa.Ev
open Go
structure Tok {α : Type} (k : α → Prop) : Type where
def W {α : Type} (k : α → Prop) (_ : Tok k) (x : Option α) : Prop := ∃ a, x = some a ∧ k a
section
variable {α β : Type} {k : α → Prop} {u : Tok k}
theorem gI {a : α} : W k u (some a) ↔ k a := by simp [W]
theorem uh : W k u none ↔ False := by simp [W]
theorem Et {x : Option β} {f : β → Option α} : W k u (x.bind f) ↔ W (fun a => W k ⟨⟩ (f a)) ⟨⟩ x := by
  cases x <;> simp [W]
theorem J2 {x : Option β} {f : β → α} : W k u (x.map f) ↔ W (fun a => k (f a)) ⟨⟩ x := by
  cases x <;> simp [W]
theorem VY {c : Prop} [Decidable c] {a b : Option α} : W k u (if c then a else b) ↔ (c → W k u a) ∧ (¬ c → W k u b) := by
  by_cases h : c <;> simp [h]
theorem Eu {c : Prop} [Decidable c] {a : Option α} : W k u (if c then a else none) ↔ c ∧ W k u a := by
  by_cases h : c <;> simp [h, uh]
theorem Ew {c : Prop} [Decidable c] {a : Option α} : W k u (if c then none else a) ↔ ¬ c ∧ W k u a := by
  by_cases h : c <;> simp [h, uh]
theorem uj {j : α → Prop} {x : Option α} (h : W j ⟨⟩ x) (hi : ∀ a, j a → k a) : W k u x := by
  obtain ⟨a, h1, h2⟩ := h; exact ⟨a, h1, hi a h2⟩
end
def V {α : Type} (k : α → Prop) (x : Option α) : Prop := ∃ a, x = some a ∧ k a
section
variable {α β : Type} {k : α → Prop} {u : Tok k}
theorem dR {x : Option α} : W k u x ↔ V k x := Iff.rfl
theorem bJ {a : α} : V k (some a) ↔ k a := by simp [V]
theorem jU : V k none ↔ False := by simp [V]
theorem bB {x : Option β} {f : β → Option α} : V k (x.bind f) ↔ V (fun a => V k (f a)) x := by
  cases x <;> simp [V]
theorem bY {x : Option β} {f : β → α} : V k (x.map f) ↔ V (fun a => k (f a)) x := by
  cases x <;> simp [V]
theorem bO {c : Prop} [Decidable c] {a : Option α} : V k (if c then a else none) ↔ c ∧ V k a := by
  by_cases h : c <;> simp [h, jU]
theorem dF {c : Prop} [Decidable c] {a : Option α} : V k (if c then none else a) ↔ ¬ c ∧ V k a := by
  by_cases h : c <;> simp [h, jU]
theorem bZ {j : β → Prop} : V k none ↔ V j none := jU.trans jU.symm
theorem kX {j : β → Prop} {a : α} {b : β} (h : k a ↔ j b) : V k (some a) ↔ V j (some b) := bJ.trans (h.trans bJ.symm)
theorem dG {x : Option α} {j : α → Prop} (h : ∀ a, j a ↔ k a) : V j x ↔ V k x := by
  have : j = k := funext fun a => propext (h a)
  rw [this]
end
structure VZ (A B : Unit → Prop) : Type where
def Br (b : Bool) (A B : Unit → Prop) (_ : VZ A B) : Prop := (b = true → A ()) ∧ (b = false → B ())
theorem MQ {A B : Unit → Prop} {u : VZ A B} : Br true A B u ↔ A () := by simp [Br]
theorem J3 {A B : Unit → Prop} {u : VZ A B} : Br false A B u ↔ B () := by simp [Br]
theorem RJ {b : Bool} {A B : Unit → Prop} {u : VZ A B} : Br (!b) A B u ↔ Br b B A ⟨⟩ := by cases b <;> simp [Br]
theorem dL {b : Bool} {A B : Unit → Prop} {u : VZ A B} (h1 : b = true → A ()) (h2 : b = false → B ()) : Br b A B u := ⟨h1, h2⟩
theorem J4 {α : Type} {x : Option α} {a : α} (h : W (fun b => b = a) ⟨⟩ x) : x = some a := by
  obtain ⟨b, h1, rfl⟩ := h; exact h1
theorem AL {body : St → Option (Out × St)} {rs : St → St} {k : Out × St → Prop} {u : Tok k} (I : Nat → St → Prop)
    (hstep : ∀ m σ, I m σ → W (fun p => match p.1 with
      | .jo => ∃ j, j < m ∧ I j p.2
      | o => k (o, p.2)) ⟨⟩ (body (rs σ))) : ∀ (F m : Nat) (σ : St), m < F → I m σ → W k u (iter body rs F σ)
  | 0, m, σ, h, _ => by omega
  | F + 1, m, σ, h, hI => by
    obtain ⟨p, h1, h2⟩ := hstep m σ hI
    unfold iter
    rw [h1, Option.bind_some]
    obtain ⟨o, s⟩ := p
    cases o with
    | jo =>
      obtain ⟨j, hj, hI'⟩ := h2
      exact AL I hstep F j s (by omega) hI'
    | ext i => exact gI.mpr h2
    | ret => exact gI.mpr h2
theorem J5 {body : St → Option (Out × St)} {rs : St → St} {k : Out × St → Prop} {u : Tok k} {F : Nat} (N : Nat) (S : Nat → St) (P : Nat → Prop) (hF : N < F) (h0 : P 0)
    (step : ∀ i, i < N → P i → W (fun p => match p.1 with
      | .jo => p.2 = S (i + 1) ∧ P (i + 1)
      | o => k (o, p.2)) ⟨⟩ (body (rs (S i))))
    (last : P N → W (fun p => match p.1 with
      | .jo => False
      | o => k (o, p.2)) ⟨⟩ (body (rs (S N)))) : W k u (iter body rs F (S 0)) := by
  refine AL (fun m σ => ∃ i, i ≤ N ∧ m = N - i ∧ σ = S i ∧ P i) ?_ F N (S 0) hF ⟨0, Nat.zero_le _, rfl, rfl, h0⟩
  rintro m σ ⟨i, hi, rfl, rfl, hP⟩
  by_cases hlt : i < N
  · refine uj (step i hlt hP) fun p hp => ?_
    obtain ⟨o, s⟩ := p
    cases o with
    | jo => exact ⟨N - (i + 1), by omega, i + 1, by omega, rfl, hp.1, hp.2⟩
    | ext j => exact hp
    | ret => exact hp
  · have : i = N := by omega
    subst this
    refine uj (last hP) fun p hp => ?_
    obtain ⟨o, s⟩ := p
    cases o with
    | jo => exact hp.elim
    | ext j => exact hp
    | ret => exact hp
def look : List (FuncId × CF) → FuncId → Option CF
  | [], _ => none
  | (k, c) :: l, f => if k = f then some c else look l f
noncomputable def Gm (wU : List (FuncId × CF)) (ext : Env) (F : Nat) : Nat → Env
  | 0 => fun _ _ => none
  | n + 1 => fun f gH => match look wU f with
    | some cf => I7 (Gm wU ext F n) F cf gH
    | none => ext f gH
structure l8 (P : Program) (f : FuncId) (cf : CF) : Prop where
  ok : ∃ fn c X hints rest, P.funcs[f]? = some fn ∧ (fn.name == "runtime.NumGoroutine") = false ∧ fn.body = some c ∧ (∀ t ∈ X.eqs, lD P t) ∧ comp P X (Q0 fn.ntmps) c hints = some (cf.body, rest) ∧ mE P fn.results.toList = some cf.res ∧ cf.np ≤ fn.ntmps
theorem wV : ∀ {l : List (FuncId × CF)} {f : FuncId} {c : CF}, look l f = some c → (f, c) ∈ l
  | [], _, _, h => by cases h
  | (k, d) :: l, f, c, h => by
    unfold look at h
    split at h
    · rename_i e; subst e; cases h; simp
    · exact List.mem_cons_of_mem _ (wV h)
theorem J6 {P : Program} {wU : List (FuncId × CF)} {ext : Env} {F : Nat} (hm : P.follows .mixedOrders = true) (ht : ∀ p ∈ wU, l8 P p.1 p.2) (he : iP P ext) (hec : eO P ext) : ∀ n, iP P (Gm wU ext F n) ∧ eO P (Gm wU ext F n)
  | 0 => ⟨fun f gH rs q8 h => by simp [Gm] at h, fun f gH r h => by simp [Gm] at h⟩
  | n + 1 => by
    obtain ⟨h1, h2⟩ := J6 hm ht he hec n
    constructor
    · intro f
      cases hl : look wU f with
      | none =>
        have : Gm wU ext F (n + 1) f = ext f := by funext gH; simp only [Gm, hl]
        rw [this]; exact he f
      | some cf =>
        have : Gm wU ext F (n + 1) f = I7 (Gm wU ext F n) F cf := by funext gH; simp only [Gm, hl]
        rw [this]
        obtain ⟨fn, c, X, hints, rest, e1, _, e2, e3, e4, e5, e6⟩ := (ht _ (wV hl)).ok
        exact zx hm e3 h1 h2 e1 e2 e4 e5 e6 F
    · intro f gH r h
      cases hl : look wU f with
      | none => exact hec f gH r (by simpa only [Gm, hl] using h)
      | some cf =>
        obtain ⟨fn, c, X, hints, rest, e1, e0, e2, _⟩ := (ht _ (wV hl)).ok
        exact ⟨fn, e1, e0, by rw [e2]; rfl⟩
theorem gB {wU : List (FuncId × CF)} {ext : Env} {F n : Nat} {f : FuncId} {cf : CF} {gH : List AV} {r : List AV × List AV} (hl : look wU f = some cf) (h : W (fun z => z = r) ⟨⟩ (I7 (Gm wU ext F n) F cf gH)) : Gm wU ext F (n + 1) f gH = some r := by
  simp only [Gm, hl]
  exact J4 h
theorem oD {wU : List (FuncId × CF)} {ext : Env} {F n : Nat} {f : FuncId} (hl : look wU f = none) : Gm wU ext F (n + 1) f = ext f := by
  funext gH; simp only [Gm, hl]
end Go.Proofs.Ytdkkgecdhapfhaa.Ev

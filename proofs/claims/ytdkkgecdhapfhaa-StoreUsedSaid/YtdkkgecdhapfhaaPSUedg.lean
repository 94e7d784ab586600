/- A part of the proof of StoreUsed: cut, joined and given short names by a program of this session (wip/tools/pack.py); Lean checks it. No condition. -/
import Derived.Test.YtdkkgecdhapfhaaPSUedf
import Derived.Test.YtdkkgecdhapfhaaPSUedd
set_option linter.unusedSectionVars false
set_option linter.unusedSimpArgs false
set_option linter.unusedVariables false
namespace Go.Proofs.Ytdkkgecdhapfhaa.Ev
open Go
attribute [go_sem ↓] Ew JV uj Ey Ez
attribute [go_sem] gI
attribute [go_sem ↓] MG JW RF
section
variable {α β : Type} {k : α → Prop} {u : Tok k}
@[go_sem ↓] theorem acu {c : Prop} [Decidable c] {a b : Option α} : W k u (if c then a else b) ↔ (c → W k u a) ∧ (¬ c → W k u b) := VT
end
def Hr : CV → Option (Nat × Nat)
  | .one (.ptr k o) => some (k, o)
  | _ => none
def qg : CV → Option ByteArray
  | .one (.f (.str s)) => some s
  | _ => none
def JZ : CV → Option (List PL)
  | .agg l => some l
  | _ => none
def RG : PV → Option (List CV)
  | .tQ l => some l
  | _ => none
@[go_sem] theorem VX {l : List CV} : RG (.tQ l) = some l := rfl
def Zy (off : Nat) : CV → Option CV
  | .one (.ptr key o) => some (.one (.ptr key (o + off)))
  | .one (.fp cs) => some (.one (.fp (cs.drop off)))
  | .one (.rp key z i o) => some (.one (.rp key z i (o + off)))
  | _ => none
@[go_sem] theorem Zz {off k o : Nat} : Zy off (.one (.ptr k o)) = some (.one (.ptr k (o + off))) := rfl
@[go_sem] theorem acv {off : Nat} {cs : List FV} : Zy off (.one (.fp cs)) = some (.one (.fp (cs.drop off))) := rfl
@[go_sem] theorem acw {off k z i o : Nat} : Zy off (.one (.rp k z i o)) = some (.one (.rp k z i (o + off))) := rfl
def RH : CV → Option Bool
  | .one .fH => some true
  | .one (.f (.sl (_ :: _))) => some false
  | _ => none
@[go_sem] theorem acy : RH (.one .fH) = some true := rfl
@[go_sem] theorem acz {r : List FV} {l : List (List FV)} : RH (.one (.f (.sl (r :: l)))) = some false := rfl
section
variable {α : Type}
@[go_sem] theorem get_nil {i : Nat} : get ([] : List (Nat × α)) i = none := rfl
@[go_sem] theorem VY {k : Nat} {v : α} {l : List (Nat × α)} {i : Nat} : get ((k, v) :: l) i = if k = i then some v else get l i := rfl
@[go_sem] theorem ZA {i : Nat} : rem ([] : List (Nat × α)) i = [] := rfl
@[go_sem] theorem VZ {k : Nat} {v : α} {l : List (Nat × α)} {i : Nat} : rem ((k, v) :: l) i = if k = i then rem l i else (k, v) :: rem l i := rfl
@[go_sem] theorem ZB {i : Nat} {v : α} : put ([] : List (Nat × α)) i v = [(i, v)] := rfl
@[go_sem] theorem V3 {k : Nat} {w : α} {l : List (Nat × α)} {i : Nat} {v : α} : put ((k, w) :: l) i v = if k = i then (i, v) :: rem l i else (k, w) :: put l i v := rfl
def J2 (k : Nat) (r : List (Nat × α)) : Option α → List (Nat × α)
  | some v => (k, v) :: r
  | none => r
@[go_sem] theorem RI {k : Nat} {v : α} {r : List (Nat × α)} : J2 k r (some v) = (k, v) :: r := rfl
@[go_sem] theorem RJ {k : Nat} {r : List (Nat × α)} : J2 k r none = r := rfl
@[go_sem] theorem V4 {l : List (Nat × α)} : pick [] l = [] := rfl
@[go_sem] theorem Ul {k : Nat} {ks : List Nat} {l : List (Nat × α)} : pick (k :: ks) l = J2 k (pick ks l) (get l k) := by
  unfold pick
  rw [List.filterMap_cons]
  cases get l k <;> rfl
end
section
variable {Γ : Env} {F d : Nat} {q : Bool} {σ : St}
section
variable {k : Out × St → Prop} {u : Tok k}
@[go_sem ↓] theorem acA : W k u (ev Γ F .skip σ) ↔ k (.jr, σ) := by simp only [ev]; exact gI
@[go_sem ↓] theorem adT {is : List G} {ks : List Nat} : W k u (ev Γ F (.reg is ks) σ) ↔ W (fun s => W k ⟨⟩ (some (.jr, ⟨pick ks s.tm, s.ob⟩))) ⟨⟩ (BN Γ false is σ) := by simp only [ev, dR, bY, bJ]
@[go_sem ↓] theorem adU {pre : List (G × List Nat)} {lC : List Nat} {jH rest : List G} {ks : List Nat} : W k u (ev Γ F (.tT pre lC jH rest ks) σ) ↔ W (fun s => W k ⟨⟩ (some (.jr, ⟨pick ks s.tm, s.ob⟩))) ⟨⟩ (Uj Γ pre lC jH rest σ) := by simp only [ev, dR, bY, bJ]
@[go_sem ↓] theorem V5 {gs : List G} {ks q9 : List Nat} {r : St} : nV Γ gs ks q9 σ r [] ↔ True := Iff.rfl
@[go_sem ↓] theorem Um {gs : List G} {ks q9 : List Nat} {r : St} {o : List Nat} {os : List (List Nat)} : nV Γ gs ks q9 σ r (o :: os) ↔ W (fun s => W (fun t => t = r) ⟨⟩ (some (⟨pick ks s.tm, pick q9 s.ob⟩ : St))) ⟨⟩ (BN Γ false (o.map fun i => gs.getD i default) σ) ∧ nV Γ gs ks q9 σ r os := by
  conv => lhs; unfold nV
  simp only [dR, V, Option.some.injEq, exists_eq_left']
@[go_sem ↓] theorem adV {gs : List G} {o : List Nat} {os : List (List Nat)} {ks q9 : List Nat} : W k u (ev Γ F (.any gs (o :: os) ks q9) σ) ↔ W (fun s => W (fun r => nV Γ gs ks q9 σ r os ∧ W k ⟨⟩ (some (.jr, r))) ⟨⟩ (some (⟨pick ks s.tm, pick q9 s.ob⟩ : St))) ⟨⟩ (BN Γ false (o.map fun i => gs.getD i default) σ) := by
  simp only [ev, evO, dR, bB, bO, bJ]
@[go_sem ↓] theorem adW {a b : CC} : W k u (ev Γ F (.seq a b) σ) ↔ W (fun p => match p.1 with
    | .jr => W k ⟨⟩ (ev Γ F b p.2)
    | o => k (o, p.2)) ⟨⟩ (ev Γ F a σ) := by
  simp only [ev, dR, bB]
  refine dH fun p => ?_
  obtain ⟨o, s⟩ := p
  cases o <;> first | rfl | exact bJ
@[go_sem ↓] theorem acB {c : dZ} {a b : CC} : W k u (ev Γ F (.cond c a b) σ) ↔ W (fun v => W (fun t => Br t (fun _ => W k ⟨⟩ (ev Γ F a σ)) (fun _ => W k ⟨⟩ (ev Γ F b σ)) ⟨⟩) ⟨⟩ (bool? v)) ⟨⟩ (val σ c) := by
  simp only [ev, dR, bB]
  refine dH fun v => dH fun t => ?_
  cases t <;> simp [Br, dR]
@[go_sem ↓] theorem ZC {id : Nat} {c : CC} : W k u (ev Γ F (.block id c) σ) ↔ W (fun p => match p.1 with
    | .ext i => if i = id then k (.jr, p.2) else k (.ext i, p.2)
    | o => k (o, p.2)) ⟨⟩ (ev Γ F c σ) := by
  simp only [ev, dR, bY]
  refine dH fun p => ?_
  obtain ⟨o, s⟩ := p
  cases o with
  | ext i => by_cases hi : i = id <;> simp [hi]
  | _ => exact Iff.rfl
@[go_sem ↓] theorem wT {keep BJ : List Nat} {rws : List (Nat × Nat)} {c : CC} : W k u (ev Γ F (.loop keep BJ rws c) σ) ↔ W k u (iter (ev Γ F c) (res keep BJ rws) F σ) := by simp only [ev]
@[go_sem ↓] theorem acC {id : Nat} : W k u (ev Γ F (.exit id) σ) ↔ k (.ext id, σ) := by simp only [ev]; exact gI
@[go_sem ↓] theorem adX : W k u (ev Γ F .ret σ) ↔ k (.ret, σ) := by simp only [ev]; exact gI
end
section
variable {k : St → Prop} {u : Tok k}
@[go_sem ↓] theorem Un : W k u (BN Γ q [] σ) ↔ k σ := gI
@[go_sem ↓] theorem RL {g : G} {l : List G} : W k u (BN Γ q (g :: l) σ) ↔ W (fun s => W k ⟨⟩ (BN Γ q l s)) ⟨⟩ (Pn Γ q σ g) := by
  show W k u ((Pn Γ q σ g).bind (BN Γ q l)) ↔ _
  rw [Ew]
@[go_sem ↓] theorem adY {g : G} : W k u (Pn Γ q σ g) ↔ W (fun p => W k ⟨⟩ (some (rG p.2 g.dst p.1))) ⟨⟩ (lM Γ q σ g) := by simp only [Pn, dR, bY, bJ]
def RN (f : Nat → Option (PV × St)) : List Nat → Prop
  | [] => True
  | j :: l => W (fun _ => True) ⟨⟩ (f j) ∧ RN f l
theorem FQ {f : Nat → Option (PV × St)} : ∀ {l : List Nat}, l.all (fun j => (f j).isSome) = true ↔ RN f l
  | [] => by simp [RN]
  | j :: l => by
    rw [List.all_cons, Bool.and_eq_true, FQ (l := l)]
    refine and_congr_left fun _ => ?_
    cases h : f j with
    | none => simp [uj]
    | some y => simp [gI]
@[go_sem ↓] theorem ZE {f : Nat → Option (PV × St)} : RN f [] ↔ True := Iff.rfl
@[go_sem ↓] theorem V6 {f : Nat → Option (PV × St)} {j : Nat} {l : List Nat} : RN f (j :: l) ↔ W (fun _ => True) ⟨⟩ (f j) ∧ RN f l := Iff.rfl
def wkv : Option CV → List Nat
  | some (.one (.ptr k _)) => [k]
  | _ => []
@[go_sem] theorem ZF {k o : Nat} : wkv (some (.one (.ptr k o))) = [k] := rfl
@[go_sem] theorem ZG {tm : List (Nat × PV)} {dst : Option Nat} {gd : Option (Option Nat × Bool)} {n : Nat} {x y : dZ} : rJ tm ⟨dst, gd, .store n x y⟩ = wkv (val ⟨tm, []⟩ x) := by
  show (match val ⟨tm, []⟩ x with | some (.one (.ptr k _)) => [k] | _ => []) = _
  cases val ⟨tm, []⟩ x with
  | none => rfl
  | some v => cases v with
    | one y => cases y <;> rfl
    | agg _ => rfl
@[go_sem ↓] theorem adZ {pre : List (G × List Nat)} {lC : List Nat} {jH rest : List G} : W k u (Uj Γ pre lC jH rest σ) ↔ pre.all (fun g => !jC g.1.i || fresh σ (dA (g.1.dst.getD 999))) = true ∧ W (fun s => W (fun tm => RN (fun j => lM Γ true ⟨tm, σ.ob.filter (fun p => !(jH.flatMap (rJ tm)).contains p.1)⟩ (pre.getD j default).1) lC ∧ W (fun ob => W (fun s => W k ⟨⟩ (BN Γ false rest s)) ⟨⟩ (some ⟨tm, ob⟩)) ⟨⟩ (Jd Γ tm jH s.ob)) ⟨⟩ (some (pick (s.tm.map (·.1)) s.tm))) ⟨⟩ (LZ Γ σ.ob pre σ) := by
  simp only [Uj, dR, bB, bO, bJ, ← FQ]
@[go_sem ↓] theorem Uo {qz : List (Nat × Ob)} : W k u (LZ Γ qz [] σ) ↔ k σ := gI
@[go_sem ↓] theorem RO {qz : List (Nat × Ob)} {g : G} {nk : List Nat} {l : List (G × List Nat)} : W k u (LZ Γ qz ((g, nk) :: l) σ) ↔ W (fun p => nk.any (fun k => qy k p.1 || (jC g.i && (p.2.ob.take 1).any (fun r => r.1 == k || lK k r.2))) = false ∧ W (fun s => W k ⟨⟩ (LZ Γ qz l s)) ⟨⟩ (some ⟨rH g.dst σ.tm p.1, if jC g.i then p.2.ob.take 1 ++ σ.ob else σ.ob⟩)) ⟨⟩ (lM Γ true ⟨σ.tm, qz⟩ g) := by
  conv => lhs; unfold LZ
  simp only [dR, bB, dF, bJ, Bool.not_eq_true]
end
section
variable {k : List (Nat × Ob) → Prop} {u : Tok k} {tm : List (Nat × PV)} {ob : List (Nat × Ob)}
@[go_sem ↓] theorem Uq : W k u (Jd Γ tm [] ob) ↔ k ob := gI
@[go_sem ↓] theorem RP {n : Nat} {x y : dZ} {dst : Option Nat} {gd : Option (Option Nat × Bool)} {l : List G} : W k u (Jd Γ tm (⟨dst, gd, .store n x y⟩ :: l) ob) ↔ W (fun v => W (fun _ => W (fun p => W k ⟨⟩ (Jd Γ tm l p.2.ob)) ⟨⟩ (cK Γ true ⟨tm, ob⟩ 999 (.store n x y))) ⟨⟩ (Hr v)) ⟨⟩ (val ⟨tm, ob⟩ x) := by
  conv => lhs; unfold Jd
  simp only
  cases hv : val ⟨tm, ob⟩ x with
  | none => simp only [uj]
  | some v =>
    rw [gI]
    cases v with
    | one y => cases y <;> simp only [Hr, dR, jW, bJ, bB]
    | agg xs => simp only [Hr, uj]
end
section
variable {i : Nat}
def vl : Option PV → Option CV
  | some (.c x) => some x
  | _ => none
@[go_sem] theorem ZH {x : CV} : vl (some (.c x)) = some x := rfl
@[go_sem] theorem V7 : val σ (.t i) = vl (get σ.tm i) := by simp only [val]; cases get σ.tm i with | none => rfl | some v => cases v <;> rfl
@[go_sem] theorem ad1 {x : CV} : val σ (.k x) = some x := rfl
@[go_sem] theorem acD : rF σ (.t i) = get σ.tm i := rfl
@[go_sem] theorem acE {x : CV} : rF σ (.k x) = some (.c x) := rfl
@[go_sem] theorem V8 {k : IntKind} {n : Int} : int? (.one (.f (.int k n))) = some (k, n) := rfl
@[go_sem] theorem RQ {b : Bool} : bool? (.one (.f (.bool b))) = some b := rfl
@[go_sem] theorem V9 {k o : Nat} : Hr (.one (.ptr k o)) = some (k, o) := rfl
@[go_sem] theorem Wd {s : ByteArray} : qg (.one (.f (.str s))) = some s := rfl
@[go_sem] theorem Wh {l : List PL} : JZ (.agg l) = some l := rfl
@[go_sem] theorem cells_one {x : PL} : cells (.one x) = [x] := rfl
@[go_sem] theorem Ur {xs : List PL} : cells (.agg xs) = xs := rfl
def oc : Option Ob → Option (List PL)
  | some (.mR xs) => some xs
  | _ => none
def J3 : Option Ob → Option (Nat × List (List FV))
  | some (.row sz rows) => some (sz, rows)
  | _ => none
def om : Option Ob → Option (KS × List (KV × FC))
  | some (.map sh ents) => some (sh, ents)
  | _ => none
@[go_sem] theorem acF {xs : List PL} : oc (some (.mR xs)) = some xs := rfl
@[go_sem] theorem ZI {sz : Nat} {rows : List (List FV)} : J3 (some (.row sz rows)) = some (sz, rows) := rfl
@[go_sem] theorem acG {sh : KS} {ents : List (KV × FC)} : om (some (.map sh ents)) = some (sh, ents) := rfl
def gb (want : Bool) : Option PV → Option Bool
  | some (.c (.one (.f (.bool b)))) => some (b == want)
  | some (.c (.one .und)) => some false
  | _ => none
@[go_sem] theorem ZJ {b : Bool} : gb true (some (.c (.one (.f (.bool b))))) = some b := by cases b <;> rfl
@[go_sem] theorem Wi {b : Bool} : gb false (some (.c (.one (.f (.bool b))))) = some (!b) := by cases b <;> rfl
@[go_sem] theorem acH {w : Bool} : gb w (some (.c (.one .und))) = some false := rfl
@[go_sem] theorem Us {v : PV} : rG σ (some i) v = ⟨put σ.tm i v, σ.ob⟩ := rfl
@[go_sem] theorem Ut {v : PV} : rG σ none v = σ := rfl
@[go_sem] theorem Uu {tm : List (Nat × PV)} {v : PV} : rH (some i) tm v = put tm i v := rfl
@[go_sem] theorem Uv {tm : List (Nat × PV)} {v : PV} : rH none tm v = tm := rfl
end
section
variable {α : Type} {n off : Nat} {x : α} {xs ys : List α}
@[go_sem] theorem Wj : seg 0 0 xs = some [] := by simp [seg]
@[go_sem] theorem Wm : seg (n + 1) 0 (x :: xs) = (seg n 0 xs).map (x :: ·) := by
  unfold seg
  simp only [Nat.zero_add, List.length_cons, Nat.add_le_add_iff_right, List.drop_zero, List.take_succ_cons]
  split <;> rfl
@[go_sem] theorem Wn : seg n (off + 1) (x :: xs) = seg n off xs := by
  unfold seg
  simp only [List.length_cons, List.drop_succ_cons]
  by_cases h : off + n ≤ xs.length
  · rw [if_pos h, if_pos (by omega)]
  · rw [if_neg h, if_neg (by omega)]
@[go_sem] theorem ZK : lay 0 ([] : List α) xs = some xs := by simp [lay]
@[go_sem] theorem ZL {y : α} : lay 0 (y :: ys) (x :: xs) = (lay 0 ys xs).map (y :: ·) := by
  unfold lay
  simp only [Nat.zero_add, List.length_cons, Nat.add_le_add_iff_right, List.take_zero, List.drop_succ_cons, List.nil_append, List.cons_append]
  split <;> rfl
@[go_sem] theorem Wo : lay (off + 1) ys (x :: xs) = (lay off ys xs).map (x :: ·) := by
  unfold lay
  simp only [List.length_cons, List.take_succ_cons]
  rw [show off + 1 + ys.length = off + ys.length + 1 from by omega]
  by_cases h : off + ys.length ≤ xs.length
  · rw [if_pos h, if_pos (by omega)]; rfl
  · rw [if_neg h, if_neg (by omega)]; rfl
end
@[go_sem] theorem acI {xs : List PL} : mk true xs = some (.agg xs) := rfl
@[go_sem] theorem mk_one {x : PL} : mk false [x] = some (.one x) := rfl
def nW (σ : St) (key : Nat) : Option (List PL) := oc (get σ.ob key)
def iq (σ : St) (key : Nat) : Option (Nat × List (List FV)) := J3 (get σ.ob key)
def nK (σ : St) (key : Nat) : Option (KS × List (KV × FC)) := om (get σ.ob key)
attribute [go_sem] nW iq nK Option.map_some Option.map_none Option.bind_some Option.bind_none
def jX (σ : St) (n : Nat) : CV → Option (List PL)
  | .one (.ptr key off) => (nW σ key).bind (seg n off)
  | .one (.fp cs) => (seg n 0 cs).map (·.map .f)
  | .one (.rp key z i off) => (iq σ key).bind fun p => if p.1 ≠ z then none else p.2[i]?.bind fun r => (seg n off r).map (·.map .f)
  | _ => none
@[go_sem ↓] theorem Py {n key off : Nat} : jX σ n (.one (.ptr key off)) = (nW σ key).bind (seg n off) := rfl
@[go_sem] theorem RS {n : Nat} {cs : List FV} : jX σ n (.one (.fp cs)) = (seg n 0 cs).map (·.map .f) := rfl
section
variable {k : List PL → Prop} {u : Tok k}
@[go_sem ↓] theorem Pz {n key off : Nat} : W k u (jX σ n (.one (.ptr key off))) ↔ W (fun xs => W k ⟨⟩ (seg n off xs)) ⟨⟩ (nW σ key) := Ew
@[go_sem ↓] theorem RU {n : Nat} {cs : List FV} : W k u (jX σ n (.one (.fp cs))) ↔ W (fun l => k (l.map .f)) ⟨⟩ (seg n 0 cs) := JV
@[go_sem ↓] theorem RV {n key z i off : Nat} : W k u (jX σ n (.one (.rp key z i off))) ↔ W (fun p => p.1 = z ∧ W (fun r => W (fun l => k (l.map .f)) ⟨⟩ (seg n off r)) ⟨⟩ (p.2[i]?)) ⟨⟩ (iq σ key) := by
  simp only [jX, dR, bB, bY, dF, ne_eq, Decidable.not_not]
end
section
variable {k : PV × St → Prop} {u : Tok k} {x y c : dZ}
@[go_sem ↓] theorem acJ {dst : Option Nat} {i : I} : W k u (lM Γ q σ ⟨dst, none, i⟩) ↔ W k u (cK Γ q σ (dst.getD 999) i) := Iff.rfl
@[go_sem ↓] theorem Uw {dst : Option Nat} {s : Nat} {want : Bool} {i : I} : W k u (lM Γ q σ ⟨dst, some (some s, want), i⟩) ↔ W (fun w => Br w (fun _ => W k ⟨⟩ (cK Γ q σ (dst.getD 999) i)) (fun _ => k (.c (.one .und), σ)) ⟨⟩) ⟨⟩ (gb want (get σ.tm s)) := by
  have h : yB σ (some (some s, want)) = gb want (get σ.tm s) := by
    simp only [yB]
    cases get σ.tm s with
    | none => rfl
    | some v =>
      cases v with
      | tQ l => rfl
      | c x =>
        cases x with
        | agg l => rfl
        | one p =>
          cases p with
          | f z => cases z <;> rfl
          | _ => rfl
  simp only [lM, dR, bB, h]
  refine dH fun t => ?_
  cases t <;> simp [bJ, Br, dR]
@[go_sem ↓] theorem afS : W k u (cK Γ q σ d (.mv x)) ↔ W (fun v => k (v, σ)) ⟨⟩ (rF σ x) := by simp only [cK]; exact JV
@[go_sem ↓] theorem acK : W k u (cK Γ q σ d (.pick c x y)) ↔ W (fun v => W (fun t => Br t (fun _ => W (fun z => k (.c z, σ)) ⟨⟩ (val σ x)) (fun _ => W (fun z => k (.c z, σ)) ⟨⟩ (val σ y)) ⟨⟩) ⟨⟩ (bool? v)) ⟨⟩ (val σ c) := by
  simp only [cK, dR, bB, bY]
  refine dH fun v => dH fun t => ?_
  cases t <;> simp [Br, dR]
@[go_sem ↓] theorem ZM {e : TypeId} {z : List PL} : W k u (cK Γ q σ d (.alloc e z)) ↔ z.any (dW (dA d)) = false ∧ W (fun s => k (.c (.one (.ptr (dA d) 0)), s)) ⟨⟩ (new σ (dA d) (.mR z)) := by
  simp only [cK, dR, dF, gX, bY, Bool.not_eq_true]
@[go_sem ↓] theorem ad2 {e : TypeId} : W k u (cK Γ q σ d (.box e x)) ↔ W (fun v => ((cells v).any og || (cells v).any (dW (dA d))) = false ∧ W (fun s => k (.c (.one (.ptr (dA d) 0)), s)) ⟨⟩ (new σ (dA d) (.mR (cells v)))) ⟨⟩ (val σ x) := by
  simp only [cK, dR, bB, dF, gX, bY, Bool.not_eq_true]
@[go_sem ↓] theorem ZN {z : List PL} {ps : List (Nat × Nat × dZ)} : W k u (cK Γ q σ d (.build z ps)) ↔ W (fun l => W (fun z => k (.c (.agg z), σ)) ⟨⟩ (fill z l)) ⟨⟩ (vals σ ps) := by
  simp only [cK, dR, bB, bY]
@[go_sem ↓] theorem ad3 {e : TypeId} {sz len : Nat} {z : List PL} {ps : List (Nat × Nat × dZ)} : W k u (cK Γ q σ d (.DY e sz len z ps)) ↔ W (fun l => W (fun z => (q && z.any gy) = false ∧ W (fun p => W (fun s => k (.c (.one (.own (dA d) len)), s)) ⟨⟩ (new p.2 (dA d) (.row sz (rowsOf sz len p.1)))) ⟨⟩ (kH σ z)) ⟨⟩ (fill z l)) ⟨⟩ (vals σ ps) := by
  simp only [cK, dR, bB, dF, gX, bY, Bool.not_eq_true]
@[go_sem ↓] theorem acL {n : Nat} {agg : Bool} : W k u (cK Γ q σ d (.load n agg x)) ↔ W (fun v => W (fun l => W (fun z => k (.c z, σ)) ⟨⟩ (mk agg l)) ⟨⟩ (jX σ n v)) ⟨⟩ (val σ x) := by
  have h : cK Γ q σ d (.load n agg x) = (val σ x).bind fun v => (jX σ n v).bind fun l => (mk agg l).map fun z => (.c z, σ) := by
    simp only [cK]
    congr 1
    funext v
    cases v with
    | agg l => rfl
    | one p =>
      cases p with
      | ptr key off => simp only [jX, nW]; cases get σ.ob key with | none => rfl | some o => cases o <;> rfl
      | fp cs => simp only [jX]; cases seg n 0 cs <;> rfl
      | rp key z i off =>
        simp only [jX, iq]
        cases get σ.ob key with
        | none => rfl
        | some o =>
          cases o with
          | row sz rows =>
            simp only [J3, Option.bind_some]
            split
            · rfl
            · cases rows[i]? with
              | none => rfl
              | some r => simp only [Option.bind_some]; cases seg n off r <;> rfl
          | _ => rfl
      | _ => rfl
  rw [h]
  simp only [dR, bB, bY]
def CB (q : Bool) (σ : St) (ys : List PL) : CV → Option St
  | .one (.ptr key off) => (nW σ key).bind fun xs => (lay off ys xs).map fun l => jc σ key (.mR l)
  | .one (.rp key z i off) => if q && ys.any gy then none else (kH σ ys).bind fun p => (iq p.2 key).bind fun o => if o.1 ≠ z then none else o.2[i]?.bind fun r => (lay off p.1 r).map fun l => jc p.2 key (.row o.1 (o.2.set i l))
  | _ => none
@[go_sem ↓] theorem ZO {n : Nat} : W k u (cK Γ q σ d (.store n x y)) ↔ W (fun v => W (fun z => ((cells z).length = n ∧ (cells z).any og = false) ∧ W (fun s => k (.c (.one .und), s)) ⟨⟩ (CB q σ (cells z) v)) ⟨⟩ (val σ y)) ⟨⟩ (val σ x) := by
  have h : cK Γ q σ d (.store n x y) = (val σ x).bind fun v => (val σ y).bind fun z => if (cells z).length = n ∧ (cells z).any og = false then (CB q σ (cells z) v).map fun s => (.c (.one .und), s) else none := by
    simp only [cK]
    congr 1
    funext v
    congr 1
    funext z
    split
    · cases v with
      | agg l => rfl
      | one p =>
        cases p with
        | ptr key off =>
          simp only [CB, nW]
          cases get σ.ob key with
          | none => rfl
          | some o => cases o <;> first | rfl | (simp only [oc, Option.bind_some, Option.map_map]; rfl)
        | rp key zz i off =>
          simp only [CB, iq]
          split
          · rfl
          · cases kH σ (cells z) with
            | none => rfl
            | some p =>
              simp only [Option.bind_some]
              cases get p.2.ob key with
              | none => rfl
              | some o =>
                cases o with
                | row sz rows =>
                  simp only [J3, Option.bind_some]
                  split
                  · rfl
                  · cases rows[i]? with
                    | none => rfl
                    | some r => simp only [Option.bind_some, Option.map_map]; rfl
                | _ => rfl
        | _ => rfl
    · rfl
  rw [h]
  simp only [dR, bB, bO, bY]
end
section
variable {k : St → Prop} {u : Tok k}
@[go_sem ↓] theorem RX {ys : List PL} {key off : Nat} : W k u (CB q σ ys (.one (.ptr key off))) ↔ W (fun xs => W (fun l => k (jc σ key (.mR l))) ⟨⟩ (lay off ys xs)) ⟨⟩ (nW σ key) := by
  simp only [CB, dR, bB, bY]
@[go_sem ↓] theorem Ux {ys : List PL} {key z i off : Nat} : W k u (CB q σ ys (.one (.rp key z i off))) ↔ (q && ys.any gy) = false ∧ W (fun p => W (fun o => o.1 = z ∧ W (fun r => W (fun l => k (jc p.2 key (.row o.1 (o.2.set i l)))) ⟨⟩ (lay off p.1 r)) ⟨⟩ (o.2[i]?)) ⟨⟩ (iq p.2 key)) ⟨⟩ (kH σ ys) := by
  simp only [CB, dR, dF, bB, bY, ne_eq, Decidable.not_not, Bool.not_eq_true]
end
end
end Go.Proofs.Ytdkkgecdhapfhaa.Ev
namespace Go.Proofs.Ytdkkgecdhapfhaa.Ev
open Go
section
variable {Γ : Env} {F d : Nat} {q : Bool} {σ : St} {k : PV × St → Prop} {u : Tok k} {x y z : dZ}
def MH : CV → Option CV
  | .one (.ptr k o) => some (.one (.ptr k o))
  | .one (.fp cs) => some (.one (.fp cs))
  | .one (.rp k z i o) => some (.one (.rp k z i o))
  | _ => none
@[go_sem] theorem Wp {k o : Nat} : MH (.one (.ptr k o)) = some (.one (.ptr k o)) := rfl
@[go_sem] theorem ZP {cs : List FV} : MH (.one (.fp cs)) = some (.one (.fp cs)) := rfl
@[go_sem] theorem ZR {k z i o : Nat} : MH (.one (.rp k z i o)) = some (.one (.rp k z i o)) := rfl
@[go_sem ↓] theorem acM : W k u (cK Γ q σ d (.kX x)) ↔ W (fun v => W (fun w => k (.c w, σ)) ⟨⟩ (MH v)) ⟨⟩ (val σ x) := by
  simp only [cK, dR, bB]
  refine dH fun v => ?_
  cases v with
  | agg l => exact bZ
  | one p => cases p <;> first | exact bZ | exact kZ Iff.rfl
def Wq : CV → Option Bool
  | .one .jq => some true
  | .one (.ptr _ _) => some false
  | .one (.fp _) => some false
  | .one (.rp _ _ _ _) => some false
  | _ => none
@[go_sem] theorem ZT : Wq (.one .jq) = some true := rfl
@[go_sem] theorem ZU {k o : Nat} : Wq (.one (.ptr k o)) = some false := rfl
@[go_sem] theorem acN {cs : List FV} : Wq (.one (.fp cs)) = some false := rfl
@[go_sem] theorem acO {k z i o : Nat} : Wq (.one (.rp k z i o)) = some false := rfl
@[go_sem ↓] theorem acP {neg : Bool} : W k u (cK Γ q σ d (.mV neg x)) ↔ W (fun v => W (fun b => k (.c (.one (.f (.bool (if neg then !b else b)))), σ)) ⟨⟩ (Wq v)) ⟨⟩ (val σ x) := by
  simp only [cK, dR, bB]
  refine dH fun v => ?_
  cases v with
  | agg l => exact bZ
  | one p => cases p <;> first | exact bZ | (cases neg <;> exact kZ Iff.rfl)
@[go_sem ↓] theorem afT {off : Nat} : W k u (cK Γ q σ d (.fa off x)) ↔ W (fun v => W (fun w => k (.c w, σ)) ⟨⟩ (Zy off v)) ⟨⟩ (val σ x) := by
  simp only [cK, dR, bB]
  refine dH fun v => ?_
  cases v with
  | agg l => exact bZ
  | one p => cases p <;> first | exact bZ | exact kZ Iff.rfl
@[go_sem ↓] theorem afU {o : Ar} : W k u (cK Γ q σ d (.ar o x y)) ↔ W (fun a => W (fun b => W (fun a => W (fun b => a.1 = b.1 ∧ W (fun n => k (.c (.one (.f (.int a.1 n))), σ)) ⟨⟩ (IW o a.1 a.2 b.2)) ⟨⟩ (int? b)) ⟨⟩ (int? a)) ⟨⟩ (val σ y)) ⟨⟩ (val σ x) := by
  simp only [cK, dR, bB, bO, one, bJ]
@[go_sem ↓] theorem ad4 {o : Uf} : W k u (cK Γ q σ d (.cmp o x y)) ↔ W (fun a => W (fun b => W (fun a => W (fun b => a.1 = b.1 ∧ k (.c (.one (.f (.bool (vX o a.2 b.2)))), σ)) ⟨⟩ (int? b)) ⟨⟩ (int? a)) ⟨⟩ (val σ y)) ⟨⟩ (val σ x) := by
  simp only [cK, dR, bB, bO, one, bJ]
@[go_sem] theorem ZV {k : IntKind} {a b : Int} : IW .add k a b = some (k.wrap (a + b)) := rfl
@[go_sem] theorem ZW {k : IntKind} {a b : Int} : IW .sub k a b = some (k.wrap (a - b)) := rfl
@[go_sem] theorem ZX {k : IntKind} {a b : Int} : IW .mul k a b = some (k.wrap (a * b)) := rfl
section
variable {k : Int → Prop} {u : Tok k} {kk : IntKind} {a b : Int}
@[go_sem ↓] theorem ad5 : W k u (IW .quo kk a b) ↔ ¬ b = 0 ∧ k (kk.wrap (a.tdiv b)) := by simp only [IW, dR, dF, bJ]
@[go_sem ↓] theorem ad6 : W k u (IW .rem kk a b) ↔ ¬ b = 0 ∧ k (a.tmod b) := by simp only [IW, dR, dF, bJ]
end
section
variable {a b : Int}
@[go_sem] theorem ZY : vX .eq a b = decide (a = b) := rfl
@[go_sem] theorem Z0 : vX .ne a b = !decide (a = b) := rfl
@[go_sem] theorem Z4 : vX .lt a b = decide (a < b) := rfl
@[go_sem] theorem Z5 : vX .le a b = decide (a ≤ b) := rfl
@[go_sem] theorem Z6 : vX .gt a b = decide (b < a) := rfl
@[go_sem] theorem Z7 : vX .ge a b = decide (b ≤ a) := rfl
end
@[go_sem ↓] theorem ad7 {sh : KS} {neg : Bool} : W k u (cK Γ q σ d (.u7 sh neg x y)) ↔ W (fun a => W (fun b => W (fun a => W (fun b => (a.ks = sh ∧ b.ks = sh) ∧ k (.c (.one (.f (.bool (if neg then !decide (a = b) else decide (a = b))))), σ)) ⟨⟩ (keyOf b)) ⟨⟩ (keyOf a)) ⟨⟩ (val σ y)) ⟨⟩ (val σ x) := by
  simp only [cK, dR, bB, bO, one, bJ]
@[go_sem ↓] theorem ad8 : W k u (cK Γ q σ d (.cat x y)) ↔ W (fun a => W (fun b => W (fun a => W (fun b => a.size + b.size ≤ 9223372036854775807 ∧ k (.c (.one (.f (.str (a ++ b)))), σ)) ⟨⟩ (qg b)) ⟨⟩ (qg a)) ⟨⟩ (val σ y)) ⟨⟩ (val σ x) := by
  simp only [cK, dR, bB]
  refine dH fun v => dH fun w => ?_
  have no : V k none ↔ False := jW
  have nb : ∀ {g : ByteArray → Prop}, V g none ↔ False := jW
  have nn : ∀ {x : Option ByteArray}, V (fun _ : ByteArray => False) x ↔ False := by intro x; cases x <;> simp [V]
  cases v with
  | agg l => simp only [qg, no, nb]
  | one p =>
    cases p with
    | f a =>
      cases a with
      | str s =>
        cases w with
        | agg l => simp only [qg, no, nb, bJ]
        | one p =>
          cases p with
          | f b =>
            cases b with
            | str t => simp only [qg, bJ, bO, one]
            | _ => simp only [qg, no, nb, bJ]
          | _ => simp only [qg, no, nb, bJ]
      | _ => simp only [qg, no, nb]
    | _ => simp only [qg, no, nb]
@[go_sem ↓] theorem afV : W k u (cK Γ q σ d (.no x)) ↔ W (fun v => W (fun b => k (.c (.one (.f (.bool (!b)))), σ)) ⟨⟩ (bool? v)) ⟨⟩ (val σ x) := by
  simp only [cK, dR, bB, one, bJ]
@[go_sem ↓] theorem afW {kk : IntKind} : W k u (cK Γ q σ d (.ci kk x)) ↔ W (fun v => W (fun a => k (.c (.one (.f (.int kk (kk.wrap a.2)))), σ)) ⟨⟩ (int? v)) ⟨⟩ (val σ x) := by
  simp only [cK, dR, bB, one, bJ]
@[go_sem ↓] theorem ad9 : W k u (cK Γ q σ d (.mW x)) ↔ W (fun v => W (fun s => k (.c (.one (.f (.str s))), σ)) ⟨⟩ (qg v)) ⟨⟩ (val σ x) := by
  simp only [cK, dR, bB]
  refine dH fun v => ?_
  cases v with
  | agg l => exact bZ
  | one p => cases p with
    | f a => cases a <;> first | exact bZ | exact kZ Iff.rfl
    | _ => exact bZ
@[go_sem ↓] theorem Z8 {sh : KS} : W k u (cK Γ q σ d (.rz sh)) ↔ W (fun s => k (.c (.one (.mp (dA d))), s)) ⟨⟩ (new σ (dA d) (.map sh [])) := by
  simp only [cK, gX, dR, bY]
@[go_sem ↓] theorem afX : W k u (cK Γ q σ d (.mn x y)) ↔ W (fun a => W (fun b => W (fun a => W (fun b => a.1 = b.1 ∧ k (.c (.one (.f (.int a.1 (if b.2 < a.2 then b.2 else a.2)))), σ)) ⟨⟩ (int? b)) ⟨⟩ (int? a)) ⟨⟩ (val σ y)) ⟨⟩ (val σ x) := by
  simp only [cK, dR, bB, bO, one, bJ]
@[go_sem ↓] theorem afY : W k u (cK Γ q σ d (.mx x y)) ↔ W (fun a => W (fun b => W (fun a => W (fun b => a.1 = b.1 ∧ k (.c (.one (.f (.int a.1 (if a.2 < b.2 then b.2 else a.2)))), σ)) ⟨⟩ (int? b)) ⟨⟩ (int? a)) ⟨⟩ (val σ y)) ⟨⟩ (val σ x) := by
  simp only [cK, dR, bB, bO, one, bJ]
@[go_sem ↓] theorem aea {o : BinOp} : W k u (cK Γ q σ d (.bit o x y)) ↔ W (fun a => W (fun b => W (fun a => W (fun b => a.1 = b.1 ∧ k (.c (.one (.f (.int a.1 (Go.bits o a.1 a.2 b.2)))), σ)) ⟨⟩ (int? b)) ⟨⟩ (int? a)) ⟨⟩ (val σ y)) ⟨⟩ (val σ x) := by
  simp only [cK, dR, bB, bO, one, bJ]
@[go_sem ↓] theorem aeb {l : Bool} : W k u (cK Γ q σ d (.QK l x y)) ↔ W (fun a => W (fun b => W (fun a => W (fun b => 0 ≤ b.2 ∧ k (.c (.one (.f (.int a.1 (if l then a.1.wrap (a.2 * 2 ^ (min b.2.toNat a.1.bits)) else a.2.fdiv (2 ^ (min b.2.toNat a.1.bits)))))), σ)) ⟨⟩ (int? b)) ⟨⟩ (int? a)) ⟨⟩ (val σ y)) ⟨⟩ (val σ x) := by
  simp only [cK, dR, bB, bO, one, bJ]
@[go_sem ↓] theorem acQ {lo hi : Option dZ} : W k u (cK Γ q σ d (.GV x lo hi)) ↔ W (fun v => W (fun s => W (fun p => k (.c (.one (.f (.str (s.extract p.1 p.2)))), σ)) ⟨⟩ (rng s.size σ lo hi)) ⟨⟩ (qg v)) ⟨⟩ (val σ x) := by
  simp only [cK, dR, bB]
  refine dH fun v => ?_
  cases v with
  | agg l => exact bZ
  | one p => cases p with
    | f a =>
      cases a with
      | str s => simp only [qg, bJ, bB, one]
      | _ => exact bZ
    | _ => exact bZ
section
variable {k : Nat × Nat → Prop} {u : Tok k} {len : Nat} {lo hi : Option dZ}
@[go_sem ↓] theorem aec : W k u (rng len σ lo hi) ↔ W (fun h => W (fun l => k (l, h)) ⟨⟩ (bnd σ h lo 0)) ⟨⟩ (bnd σ len hi len) := by
  simp only [rng, dR, bB, bY]
end
section
variable {k : Nat → Prop} {u : Tok k} {len dd : Nat}
@[go_sem ↓] theorem RY : W k u (bnd σ len none dd) ↔ k dd := gI
@[go_sem ↓] theorem RZ : W k u (bnd σ len (some x) dd) ↔ W (fun v => W (fun p => (0 ≤ p.2 ∧ p.2 ≤ (len : Int)) ∧ k p.2.toNat) ⟨⟩ (int? v)) ⟨⟩ (val σ x) := by
  simp only [bnd, dR, bB, bO, bJ]
end
def CG (q : Bool) (σ : St) (sz : Nat) (lo hi : Option dZ) : CV → Option (PV × St)
  | .one (.f (.sl rows)) => if rows.all (fun r => r.length == sz) = false then none else (rng rows.length σ lo hi).bind fun p => one (.sl ((rows.drop p.1).take (p.2 - p.1))) σ
  | .one .fH => (rng 0 σ lo hi).bind fun p => one (.sl []) σ
  | .one (.own key _) => (iq σ key).bind fun o => if o.1 ≠ sz then none else (rng o.2.length σ lo hi).bind fun p => if q then none else (yt σ key).bind fun s => one (.sl ((o.2.drop p.1).take (p.2 - p.1))) s
  | _ => none
@[go_sem ↓] theorem aed {sz : Nat} {lo hi : Option dZ} : W k u (cK Γ q σ d (.cut sz x lo hi)) ↔ W (fun v => W k ⟨⟩ (CG q σ sz lo hi v)) ⟨⟩ (val σ x) := by
  simp only [cK, dR, bB]
  refine dH fun v => ?_
  cases v with
  | agg l => exact Iff.rfl
  | one p => cases p with
    | f a => cases a <;> exact Iff.rfl
    | own key n => simp only [CG, iq]; cases get σ.ob key with | none => exact Iff.rfl | some o => cases o <;> exact Iff.rfl
    | _ => exact Iff.rfl
@[go_sem ↓] theorem Ws {sz : Nat} {lo hi : Option dZ} {rows : List (List FV)} : W k u (CG q σ sz lo hi (.one (.f (.sl rows)))) ↔ rows.all (fun r => r.length == sz) = true ∧ W (fun p => k (.c (.one (.f (.sl ((rows.drop p.1).take (p.2 - p.1))))), σ)) ⟨⟩ (rng rows.length σ lo hi) := by
  simp only [CG, dR, bB, dF, one, bJ, Bool.not_eq_false]
@[go_sem ↓] theorem Wt {sz : Nat} {lo hi : Option dZ} : W k u (CG q σ sz lo hi (.one .fH)) ↔ W (fun p => k (.c (.one (.f (.sl []))), σ)) ⟨⟩ (rng 0 σ lo hi) := by
  simp only [CG, dR, bB, one, bJ]
@[go_sem ↓] theorem Wu {sz key n : Nat} {lo hi : Option dZ} : W k u (CG q σ sz lo hi (.one (.own key n))) ↔ W (fun o => o.1 = sz ∧ W (fun p => q = false ∧ W (fun s => k (.c (.one (.f (.sl ((o.2.drop p.1).take (p.2 - p.1))))), s)) ⟨⟩ (yt σ key)) ⟨⟩ (rng o.2.length σ lo hi)) ⟨⟩ (iq σ key) := by
  simp only [CG, dR, bB, dF, one, bJ, ne_eq, Decidable.not_not, Bool.not_eq_true]
@[go_sem ↓] theorem aee {off n : Nat} {agg : Bool} : W k u (cK Γ q σ d (.LU off n agg x)) ↔ W (fun v => W (fun l => W (fun l => W (fun z => k (.c z, σ)) ⟨⟩ (mk agg l)) ⟨⟩ (seg n off l)) ⟨⟩ (JZ v)) ⟨⟩ (val σ x) := by
  simp only [cK, dR, bB]
  refine dH fun v => ?_
  cases v with
  | agg l => simp only [JZ, bJ, bB, bY]
  | one p => exact bZ
def R3 (σ : St) (sz : Nat) (i : Int) : CV → Option PL
  | .one (.f (.sl rows)) => rows[i.toNat]?.bind fun r => if r.length = sz then some (.fp r) else none
  | .one (.own key n) => (iq σ key).bind fun o => if o.1 = sz ∧ i < n ∧ n = o.2.length then some (.rp key sz i.toNat 0) else none
  | _ => none
@[go_sem ↓] theorem afZ {sz : Nat} : W k u (cK Γ q σ d (.ia sz x y)) ↔ W (fun v => W (fun j => W (fun p => 0 ≤ p.2 ∧ W (fun l => k (.c (.one l), σ)) ⟨⟩ (R3 σ sz p.2 v)) ⟨⟩ (int? j)) ⟨⟩ (val σ y)) ⟨⟩ (val σ x) := by
  simp only [cK, dR, bB, bO]
  refine dH fun v => dH fun j => dH fun p => and_congr Iff.rfl ?_
  cases v with
  | agg l => exact bZ
  | one a =>
    cases a with
    | f a =>
      cases a with
      | sl rows => simp only [R3, bB, bO, bJ]
      | _ => exact bZ
    | own key n =>
      simp only [R3, iq]
      cases get σ.ob key with
      | none => exact bZ
      | some o =>
        cases o with
        | row sz' rows => simp only [J3, Option.bind_some, bO, bJ]
        | _ => exact bZ
    | _ => exact bZ
section
variable {k : PL → Prop} {u : Tok k} {sz : Nat} {i : Int}
@[go_sem ↓] theorem Z9 {rows : List (List FV)} : W k u (R3 σ sz i (.one (.f (.sl rows)))) ↔ W (fun r => r.length = sz ∧ k (.fp r)) ⟨⟩ (rows[i.toNat]?) := by
  simp only [R3, dR, bB, bO, bJ]
@[go_sem ↓] theorem aac {key n : Nat} : W k u (R3 σ sz i (.one (.own key n))) ↔ W (fun o => (o.1 = sz ∧ i < n ∧ n = o.2.length) ∧ k (.rp key sz i.toNat 0)) ⟨⟩ (iq σ key) := by
  simp only [R3, dR, bB, bO, bJ]
end
@[go_sem ↓] theorem aef {sz len : Nat} {agg : Bool} : W k u (cK Γ q σ d (.idx sz len agg x y)) ↔ W (fun v => W (fun j => W (fun p => (0 ≤ p.2 ∧ p.2 < (len : Int)) ∧ W (fun l => W (fun l => W (fun z => k (.c z, σ)) ⟨⟩ (mk agg l)) ⟨⟩ (seg sz (p.2.toNat * sz) l)) ⟨⟩ (JZ v)) ⟨⟩ (int? j)) ⟨⟩ (val σ y)) ⟨⟩ (val σ x) := by
  simp only [cK, dR, bB, bO]
  refine dH fun v => dH fun j => dH fun p => and_congr Iff.rfl ?_
  cases v with
  | agg l => simp only [JZ, bJ, bB, bY]
  | one p => exact bZ
@[go_sem ↓] theorem aeg : W k u (cK Γ q σ d (.chr x y)) ↔ W (fun v => W (fun j => W (fun p => W (fun s => 0 ≤ p.2 ∧ W (fun b => k (.c (.one (.f (.int .u8 b.toNat))), σ)) ⟨⟩ (s.data[p.2.toNat]?)) ⟨⟩ (qg v)) ⟨⟩ (int? j)) ⟨⟩ (val σ y)) ⟨⟩ (val σ x) := by
  simp only [cK, dR, bB]
  refine dH fun v => dH fun j => dH fun p => ?_
  cases v with
  | agg l => exact bZ
  | one p => cases p with
    | f a =>
      cases a with
      | str s => simp only [qg, bJ, bO, bB, one]
      | _ => exact bZ
    | _ => exact bZ
@[go_sem ↓] theorem aeh {i : Nat} : W k u (cK Γ q σ d (.ext x i)) ↔ W (fun v => W (fun l => W (fun w => k (.c w, σ)) ⟨⟩ (l[i]?)) ⟨⟩ (RG v)) ⟨⟩ (rF σ x) := by
  simp only [cK, dR]
  cases rF σ x with
  | none => exact bZ
  | some v =>
    rw [bJ]
    cases v with
    | c y => exact bZ
    | tQ l => simp only [RG, bJ, bY]
@[go_sem ↓] theorem acR : W k u (cK Γ q σ d (.GX x)) ↔ W (fun v => W (fun s => k (.c (.one (.f (.int .i64 s.size))), σ)) ⟨⟩ (qg v)) ⟨⟩ (val σ x) := by
  simp only [cK, dR, bB]
  refine dH fun v => ?_
  cases v with
  | agg l => exact bZ
  | one p => cases p with
    | f a => cases a <;> first | exact bZ | exact kZ Iff.rfl
    | _ => exact bZ
def MI (σ : St) : CV → Option Nat
  | .one .fu => some 0
  | .one (.mp key) => (nK σ key).map fun o => o.2.length
  | _ => none
@[go_sem] theorem Wv : MI σ (.one .fu) = some 0 := rfl
@[go_sem] theorem aad {key : Nat} : MI σ (.one (.mp key)) = (nK σ key).map fun o => o.2.length := rfl
def MJ : CV → Option Nat
  | .one (.f (.sl rows)) => some rows.length
  | .one .fH => some 0
  | .one (.own _ n) => some n
  | _ => none
@[go_sem] theorem acS {rows : List (List FV)} : MJ (.one (.f (.sl rows))) = some rows.length := rfl
@[go_sem] theorem acT : MJ (.one .fH) = some 0 := rfl
@[go_sem] theorem acU {k n : Nat} : MJ (.one (.own k n)) = some n := rfl
@[go_sem ↓] theorem acV : W k u (cK Γ q σ d (.kG x)) ↔ W (fun v => W (fun n : Nat => k (.c (.one (.f (.int .i64 (n : Int)))), σ)) ⟨⟩ (MJ v)) ⟨⟩ (val σ x) := by
  simp only [cK, dR, bB]
  refine dH fun v => ?_
  cases v with
  | agg l => exact bZ
  | one p => cases p with
    | f a => cases a <;> first | exact bZ | exact kZ Iff.rfl
    | _ => first | exact bZ | exact kZ Iff.rfl
@[go_sem ↓] theorem acW {neg : Bool} : W k u (cK Γ q σ d (.zT neg x)) ↔ W (fun v => W (fun b => k (.c (.one (.f (.bool (if neg then !b else b)))), σ)) ⟨⟩ (RH v)) ⟨⟩ (val σ x) := by
  simp only [cK, dR, bB]
  refine dH fun v => ?_
  cases v with
  | agg l => exact bZ
  | one p => cases p with
    | f a =>
      cases a with
      | sl rows => cases rows <;> first | exact bZ | (cases neg <;> exact kZ Iff.rfl)
      | _ => exact bZ
    | fH => cases neg <;> exact kZ Iff.rfl
    | _ => exact bZ
end
end Go.Proofs.Ytdkkgecdhapfhaa.Ev
namespace Go.Proofs.Ytdkkgecdhapfhaa.Ev
open Go
section
variable {Γ : Env} {F d : Nat} {q : Bool} {σ : St} {k : PV × St → Prop} {u : Tok k} {x y z : dZ}
def J4 (σ : St) (sh : KS) : CV → Option (Option (Nat × List (KV × FC)))
  | .one .fu => some none
  | .one (.mp key) => (nK σ key).bind fun o => if o.1 = sh then some (some (key, o.2)) else none
  | _ => none
@[go_sem] theorem Ww {sh : KS} : J4 σ sh (.one .fu) = some none := rfl
section
variable {k : Option (Nat × List (KV × FC)) → Prop} {u : Tok k}
@[go_sem ↓] theorem acX {sh : KS} {key : Nat} : W k u (J4 σ sh (.one (.mp key))) ↔ W (fun o => o.1 = sh ∧ k (some (key, o.2))) ⟨⟩ (nK σ key) := by
  simp only [J4, dR, bB, bO, bJ]
end
def rM (m : Option (Nat × List (KV × FC))) (a : KV) : Option FC := m.bind fun m => BM m.2 a
def cnt (m : Option (Nat × List (KV × FC))) : Nat := match m with
  | none => 0
  | some m => m.2.length
@[go_sem] theorem Wx {a : KV} : rM none a = none := rfl
@[go_sem] theorem Wy {key : Nat} {l : List (KV × FC)} {a : KV} : rM (some (key, l)) a = BM l a := rfl
@[go_sem] theorem Wz : cnt none = 0 := rfl
@[go_sem] theorem WA {key : Nat} {l : List (KV × FC)} : cnt (some (key, l)) = l.length := rfl
def lkv (z : FC) (ok : Bool) (r : Option FC) : PV := if ok then .tQ [vW (r.getD z), .one (.f (.bool r.isSome))] else .c (vW (r.getD z))
@[go_sem] theorem acY {z : FC} {r : Option FC} : lkv z true r = .tQ [vW (r.getD z), .one (.f (.bool r.isSome))] := rfl
@[go_sem] theorem acZ {z : FC} {r : Option FC} : lkv z false r = .c (vW (r.getD z)) := rfl
@[go_sem] theorem WB {x : FV} : vW (.one x) = .one (.f x) := rfl
@[go_sem] theorem WC {xs : List FV} : vW (.agg xs) = .agg (xs.map .f) := rfl
@[go_sem ↓] theorem ac0 {sh : KS} {z : FC} {ok : Bool} : W k u (cK Γ q σ d (.look sh z ok x y)) ↔ W (fun v => W (fun w => W (fun a => a.ks = sh ∧ W (fun m => k (lkv z ok (rM m a), σ)) ⟨⟩ (J4 σ sh v)) ⟨⟩ (keyOf w)) ⟨⟩ (val σ y)) ⟨⟩ (val σ x) := by
  simp only [cK, dR, bB, dF, bY, ne_eq, Decidable.not_not]
  refine dH fun v => dH fun w => dH fun a => and_congr Iff.rfl ?_
  cases v with
  | agg l => exact bZ
  | one p =>
    cases p with
    | fu => exact kZ Iff.rfl
    | mp key =>
      simp only [J4, nK]
      cases get σ.ob key with
      | none => exact bZ
      | some o =>
        cases o with
        | map sh' ents =>
          simp only [om, Option.bind_some]
          by_cases hs : sh' = sh
          · rw [if_pos hs, if_pos hs]; exact kZ (by cases ok <;> exact Iff.rfl)
          · rw [if_neg hs, if_neg hs]; exact bZ
        | _ => exact bZ
    | _ => exact bZ
@[go_sem ↓] theorem ac1 : W k u (cK Γ q σ d (.GY x)) ↔ W (fun v => W (fun n : Nat => k (.c (.one (.f (.int .i64 (n : Int)))), σ)) ⟨⟩ (MI σ v)) ⟨⟩ (val σ x) := by
  simp only [cK, dR, bB]
  refine dH fun v => ?_
  cases v with
  | agg l => exact bZ
  | one p =>
    cases p with
    | fu => exact kZ Iff.rfl
    | mp key =>
      simp only [MI, nK]
      cases get σ.ob key with
      | none => exact bZ
      | some o => cases o <;> first | exact bZ | exact kZ Iff.rfl
    | _ => exact bZ
def upv (σ : St) (sh : KS) (a : KV) (p : FC × St) : CV → Option St
  | .one (.mp key) => (nK p.2 key).bind fun o => if o.1 = sh then some (jc p.2 key (.map sh (Eb o.2 a p.1))) else none
  | _ => none
@[go_sem ↓] theorem ac2 {sh : KS} : W k u (cK Γ q σ d (.zS sh x y z)) ↔ W (fun v => W (fun w => W (fun a => a.ks = sh ∧ W (fun w => (q && (cells w).any gy) = false ∧ W (fun p => W (fun s => k (.c (.one .und), s)) ⟨⟩ (upv σ sh a p v)) ⟨⟩ (Uh σ w)) ⟨⟩ (val σ z)) ⟨⟩ (keyOf w)) ⟨⟩ (val σ y)) ⟨⟩ (val σ x) := by
  simp only [cK, dR, bB, dF, ne_eq, Decidable.not_not, Bool.not_eq_true]
  refine dH fun v => dH fun w => dH fun a => and_congr Iff.rfl (dH fun w => and_congr Iff.rfl (dH fun p => ?_))
  cases v with
  | agg l => exact bZ
  | one b =>
    cases b with
    | mp key =>
      simp only [upv, nK]
      cases get p.2.ob key with
      | none => exact bZ
      | some o =>
        cases o with
        | map sh' ents =>
          simp only [om, Option.bind_some]
          split
          · exact kZ Iff.rfl
          · exact bZ
        | _ => exact bZ
    | _ => exact bZ
section
variable {k : St → Prop} {u : Tok k} {sh : KS} {a : KV} {key : Nat}
@[go_sem ↓] theorem aei {p : FC × St} : W k u (upv σ sh a p (.one (.mp key))) ↔ W (fun o => o.1 = sh ∧ k (jc p.2 key (.map sh (Eb o.2 a p.1)))) ⟨⟩ (nK p.2 key) := by
  simp only [upv, dR, bB, bO, bJ]
end
def WE (σ : St) (sh : KS) (a : KV) : CV → Option St
  | .one .fu => some σ
  | .one (.mp key) => (nK σ key).bind fun o => if o.1 = sh then some (jc σ key (.map sh (Ec o.2 a))) else none
  | _ => none
@[go_sem] theorem aae {sh : KS} {a : KV} : WE σ sh a (.one .fu) = some σ := rfl
section
variable {k : St → Prop} {u : Tok k} {sh : KS} {a : KV} {key : Nat}
@[go_sem ↓] theorem aej : W k u (WE σ sh a (.one (.mp key))) ↔ W (fun o => o.1 = sh ∧ k (jc σ key (.map sh (Ec o.2 a)))) ⟨⟩ (nK σ key) := by
  simp only [WE, dR, bB, bO, bJ]
end
@[go_sem ↓] theorem aek {sh : KS} : W k u (cK Γ q σ d (.del sh x y)) ↔ W (fun v => W (fun w => W (fun a => a.ks = sh ∧ W (fun s => k (.tQ [], s)) ⟨⟩ (WE σ sh a v)) ⟨⟩ (keyOf w)) ⟨⟩ (val σ y)) ⟨⟩ (val σ x) := by
  simp only [cK, dR, bB, dF, ne_eq, Decidable.not_not]
  refine dH fun v => dH fun w => dH fun a => and_congr Iff.rfl ?_
  cases v with
  | agg l => exact bZ
  | one b =>
    cases b with
    | fu => exact kZ Iff.rfl
    | mp key =>
      simp only [WE, nK]
      cases get σ.ob key with
      | none => exact bZ
      | some o =>
        cases o with
        | map sh' ents =>
          simp only [om, Option.bind_some]
          split
          · exact kZ Iff.rfl
          · exact bZ
        | _ => exact bZ
    | _ => exact bZ
def Uy (σ : St) : CV → Option (List (List FV))
  | .one .fH => some []
  | .one (.f (.sl rows)) => some rows
  | .one (.own key _) => (iq σ key).map (·.2)
  | _ => none
@[go_sem] theorem ael : Uy σ (.one .fH) = some [] := rfl
@[go_sem] theorem aem {rows : List (List FV)} : Uy σ (.one (.f (.sl rows))) = some rows := rfl
@[go_sem] theorem aen {key n : Nat} : Uy σ (.one (.own key n)) = (iq σ key).map (·.2) := rfl
def Uz (q : Bool) (σ : St) (d sz bytes : Nat) (w : CV) (CJ : List (List FV)) : CV → Option (PV × St)
  | .one .fH => if q = false ∧ CJ.length * bytes ≤ 140737488355328 ∧ CJ.all (fun r => r.length == sz) then (new σ (dA d) (.row sz CJ)).map fun s => (.c (.one (.own (dA d) CJ.length)), s) else none
  | .one (.own key n) => (iq σ key).bind fun o => if q = false ∧ (o.2.length + CJ.length) * bytes ≤ 140737488355328 ∧ o.1 = sz ∧ n = o.2.length ∧ uM key w = false ∧ key % 2 = 0 ∧ CJ.all (fun r => r.length == sz) then
      some (.c (.one (.own key (o.2.length + CJ.length))), jc (sub σ key .any) key (.row sz (o.2 ++ CJ))) else none
  | _ => none
@[go_sem ↓] theorem aeo {e : TypeId} {sz bytes : Nat} : W k u (cK Γ q σ d (.app e sz bytes x y)) ↔ W (fun v => W (fun w => W (fun l => W k ⟨⟩ (Uz q σ d sz bytes w l v)) ⟨⟩ (Uy σ w)) ⟨⟩ (val σ y)) ⟨⟩ (val σ x) := by
  simp only [cK, dR, bB]
  refine dH fun v => dH fun w => ?_
  have e : oZ σ w = Uy σ w := by
    cases w with
    | agg l => rfl
    | one p => cases p with
      | f a => cases a <;> rfl
      | own key n => simp only [oZ, Uy, iq]; cases get σ.ob key with | none => rfl | some o => cases o <;> rfl
      | _ => rfl
  rw [e]
  refine dH fun l => ?_
  cases v with
  | agg l => exact bZ
  | one p =>
    cases p with
    | fH => exact Iff.rfl
    | own key n =>
      simp only [Uz, iq]
      cases get σ.ob key with
      | none => exact bZ
      | some o => cases o <;> exact Iff.rfl
    | _ => exact bZ
@[go_sem ↓] theorem aaf {sz bytes : Nat} {w : CV} {l : List (List FV)} : W k u (Uz q σ d sz bytes w l (.one .fH)) ↔ (q = false ∧ l.length * bytes ≤ 140737488355328 ∧ l.all (fun r => r.length == sz) = true) ∧ W (fun s => k (.c (.one (.own (dA d) l.length)), s)) ⟨⟩ (new σ (dA d) (.row sz l)) := by
  simp only [Uz, dR, bO, bY]
@[go_sem ↓] theorem aag {sz bytes key n : Nat} {w : CV} {l : List (List FV)} : W k u (Uz q σ d sz bytes w l (.one (.own key n))) ↔ W (fun o => (q = false ∧ (o.2.length + l.length) * bytes ≤ 140737488355328 ∧ o.1 = sz ∧ n = o.2.length ∧ uM key w = false ∧ key % 2 = 0 ∧ l.all (fun r => r.length == sz) = true) ∧ k (.c (.one (.own key (o.2.length + l.length))), jc (sub σ key .any) key (.row sz (o.2 ++ l)))) ⟨⟩ (iq σ key) := by
  simp only [Uz, dR, bB, bO, bJ]
def cov (σ : St) (sz : Nat) (i : Int) : CV → Option (PV × St)
  | .one (.own key n) => (iq σ key).bind fun o => if o.1 = sz ∧ key % 2 = 0 ∧ 0 ≤ i ∧ i ≤ o.2.length then some (.c (.one (.own key i.toNat)), jc (sub σ key .any) key (.row sz (o.2.take i.toNat))) else none
  | _ => none
@[go_sem ↓] theorem ac3 {sz : Nat} : W k u (cK Γ q σ d (.D8 sz x y)) ↔ q = false ∧ W (fun v => W (fun j => W (fun p => W k ⟨⟩ (cov σ sz p.2 v)) ⟨⟩ (int? j)) ⟨⟩ (val σ y)) ⟨⟩ (val σ x) := by
  simp only [cK, dR, bB, dF, Bool.not_eq_true]
  refine and_congr Iff.rfl (dH fun v => dH fun j => dH fun p => ?_)
  cases v with
  | agg l => exact bZ
  | one b =>
    cases b with
    | own key n =>
      simp only [cov, iq]
      cases get σ.ob key with
      | none => exact bZ
      | some o => cases o <;> exact Iff.rfl
    | _ => exact bZ
@[go_sem ↓] theorem aep {sz key n : Nat} {i : Int} : W k u (cov σ sz i (.one (.own key n))) ↔ W (fun o => (o.1 = sz ∧ key % 2 = 0 ∧ 0 ≤ i ∧ i ≤ (o.2.length : Int)) ∧ k (.c (.one (.own key i.toNat)), jc (sub σ key .any) key (.row sz (o.2.take i.toNat)))) ⟨⟩ (iq σ key) := by
  simp only [cov, dR, bB, bO, bJ]
def cvv (σ : St) (sz : Nat) (i : Int) : CV → Option PL
  | .one (.own key n) => (iq σ key).bind fun o => if o.1 = sz ∧ 0 ≤ i ∧ i ≤ o.2.length then some (.vw key sz o.2.length i.toNat) else none
  | _ => none
@[go_sem ↓] theorem ac4 {sz : Nat} : W k u (cK Γ q σ d (.cutV sz x y)) ↔ W (fun v => W (fun j => W (fun p => W (fun l => k (.c (.one l), σ)) ⟨⟩ (cvv σ sz p.2 v)) ⟨⟩ (int? j)) ⟨⟩ (val σ y)) ⟨⟩ (val σ x) := by
  simp only [cK, dR, bB]
  refine dH fun v => dH fun j => dH fun p => ?_
  cases v with
  | agg l => exact bZ
  | one b =>
    cases b with
    | own key n =>
      simp only [cvv, iq]
      cases get σ.ob key with
      | none => exact bZ
      | some o =>
        cases o with
        | row sz' rows => simp only [J3, Option.bind_some, bO, bJ]
        | _ => exact bZ
    | _ => exact bZ
section
variable {k : PL → Prop} {u : Tok k}
@[go_sem ↓] theorem aer {sz key n : Nat} {i : Int} : W k u (cvv σ sz i (.one (.own key n))) ↔ W (fun o => (o.1 = sz ∧ 0 ≤ i ∧ i ≤ (o.2.length : Int)) ∧ k (.vw key sz o.2.length i.toNat)) ⟨⟩ (iq σ key) := by
  simp only [cvv, dR, bB, bO, bJ]
end
def vw? : CV → Option (Nat × Nat × Nat × Nat)
  | .one (.vw key z n lo) => some (key, z, n, lo)
  | _ => none
@[go_sem] theorem ac5 {a b c e : Nat} : vw? (.one (.vw a b c e)) = some (a, b, c, e) := rfl
@[go_sem ↓] theorem aes {sz : Nat} {zs : List FV} : W k u (cK Γ q σ d (.Pk sz zs x)) ↔ W (fun v => W (fun p => W (fun o => (o.1 = sz ∧ p.2.1 = sz ∧ zs.length = sz ∧ p.2.2.1 = o.2.length ∧ p.2.2.2 ≤ p.2.2.1) ∧ k (.tQ [], jc σ p.1 (.row sz (o.2.take p.2.2.2 ++ List.replicate (p.2.2.1 - p.2.2.2) zs)))) ⟨⟩ (iq σ p.1)) ⟨⟩ (vw? v)) ⟨⟩ (val σ x) := by
  simp only [cK, dR, bB]
  refine dH fun v => ?_
  cases v with
  | agg l => exact bZ
  | one b =>
    cases b with
    | vw key z n lo =>
      simp only [vw?, bJ, iq]
      cases get σ.ob key with
      | none => exact bZ
      | some o =>
        cases o with
        | row sz' rows => simp only [J3, bO, bJ]
        | _ => exact bZ
    | _ => exact bZ
def PD (σ : St) : CV → Option (List (List FV))
  | .one (.f (.sl rows)) => some rows
  | .one .fH => some []
  | .one (.own key _) => (iq σ key).bind fun o => if o.1 = 1 then some o.2 else none
  | _ => none
@[go_sem] theorem aeu {rows : List (List FV)} : PD σ (.one (.f (.sl rows))) = some rows := rfl
@[go_sem] theorem aev : PD σ (.one .fH) = some [] := rfl
@[go_sem] theorem PE : bytesOf [] = some ⟨#[]⟩ := rfl
@[go_sem] theorem MK {n : Int} {l : List (List FV)} : bytesOf ([.int .u8 n] :: l) = (bytesOf l).map fun s => ⟨#[UInt8.ofNat n.toNat] ++ s.data⟩ := rfl
section
variable {k : List (List FV) → Prop} {u : Tok k}
@[go_sem ↓] theorem aew {key n : Nat} : W k u (PD σ (.one (.own key n))) ↔ W (fun o => o.1 = 1 ∧ k o.2) ⟨⟩ (iq σ key) := by
  simp only [PD, dR, bB, bO, bJ]
end
@[go_sem ↓] theorem aex : W k u (cK Γ q σ d (.QM x)) ↔ W (fun v => W (fun l => W (fun s => k (.c (.one (.f (.str s))), σ)) ⟨⟩ (bytesOf l)) ⟨⟩ (PD σ v)) ⟨⟩ (val σ x) := by
  simp only [cK, dR, bB]
  refine dH fun v => ?_
  cases v with
  | agg l => exact bZ
  | one b =>
    cases b with
    | f a =>
      cases a with
      | sl rows => simp only [PD, bB, bJ, one]
      | _ => exact bZ
    | fH => simp only [PD, bJ, bytesOf, one]
    | own key n =>
      simp only [PD, iq]
      cases get σ.ob key with
      | none => exact bZ
      | some o =>
        cases o with
        | row sz' rows => simp only [J3, Option.bind_some, bO, bB, bJ, one]
        | _ => exact bZ
    | _ => exact bZ
@[go_sem ↓] theorem aey {f : FuncId} {xs : List dZ} : W k u (cK Γ q σ d (.QL f xs)) ↔ W (fun l => W (fun p => k (.c (.one (.fn f p.1)), p.2)) ⟨⟩ (lD q σ l)) ⟨⟩ (iU σ xs) := by
  simp only [cK, dR, bB, bY]
@[go_sem ↓] theorem ac6 {f : FuncId} {xs : List dZ} : W k u (cK Γ q σ d (.yw f xs)) ↔ W (fun l => W (fun gH => W (fun r => W (fun p => W (fun s => k (.c (.one (.own (dA d) p.2.length)), s)) ⟨⟩ (new σ (dA d) (.row p.1 p.2))) ⟨⟩ (QS r.1)) ⟨⟩ (Γ f gH)) ⟨⟩ (Ja l)) ⟨⟩ (iU σ xs) := by
  simp only [cK, rE, dR, bB, bY]
attribute [go_sem] Zm LY avC Ja
@[go_sem] theorem WG {sz : Nat} {rows : List (List FV)} : QS [.one (.own sz rows)] = some (sz, rows) := rfl
@[go_sem ↓] theorem aah {gv : Bool} {f : FuncId} {xs : List dZ} : W k u (cK Γ q σ d (.call gv f xs)) ↔ W (fun l => W k ⟨⟩ (kI Γ gv q σ d f l)) ⟨⟩ (iU σ xs) := by
  simp only [cK, dR, bB]
def fn? : CV → Option (FuncId × List (List FV))
  | .one (.fn f caps) => some (f, caps)
  | _ => none
@[go_sem] theorem ac7 {f : FuncId} {caps : List (List FV)} : fn? (.one (.fn f caps)) = some (f, caps) := rfl
@[go_sem ↓] theorem aez {xs : List dZ} : W k u (cK Γ q σ d (.dyn x xs)) ↔ W (fun v => W (fun p => W (fun l => W k ⟨⟩ (kI Γ false q σ d p.1 (l ++ p.2.map fun c => .one (.fp c)))) ⟨⟩ (iU σ xs)) ⟨⟩ (fn? v)) ⟨⟩ (val σ x) := by
  simp only [cK, dR, bB]
  refine dH fun v => ?_
  cases v with
  | agg l => exact bZ
  | one b =>
    cases b with
    | fn f caps => simp only [fn?, bJ, bB]
    | _ => exact bZ
def EA (gv : Bool) (args : List CV) (p : List AV × St) (r : List AV × List AV) : Option St := if (!gv && ((r.1.any vk || !p.1.all fF) && args.any (fun x => (cells x).any gy))) = true then rD p.2 args else some p.2
def EB (d : Nat) (σ : St) (args : List CV) (p : List AV × St) (r : List AV × List AV) (s : St) : Option St := if p.1.all fF = true then some s else yA σ (args.flatMap cells) (dA d + 10000) s args r.2
@[go_sem ↓] theorem WH {gv : Bool} {f : FuncId} {args : List CV} : W k u (kI Γ gv q σ d f args) ↔ W (fun p => W (fun r0 => W (fun r => ((q && !(p.1.all fF && r.1.all fF)) = false ∧ (q && ((r.1.any vk || !p.1.all fF) && args.any (fun x => (cells x).any gy))) = false) ∧
    W (fun s => W (fun s => W (fun v => k (G7 v.1, v.2)) ⟨⟩ (vZ (dA d) 0 [] s r.1)) ⟨⟩ (EB d σ args p r s)) ⟨⟩ (EA gv args p r)) ⟨⟩ (some (QO q r0))) ⟨⟩ (Γ f p.1)) ⟨⟩ (rC gv σ args) := by
  simp only [kI, dR, bB, dF, bY, bJ, EA, EB, Bool.not_eq_true, and_assoc]
@[go_sem] theorem ac8 {r : List AV × List AV} : QO false r = r := rfl
@[go_sem] theorem aai {r : List AV × List AV} : QO true r = (r.1.map LX, r.2) := rfl
@[go_sem] theorem aaj {sz : Nat} {rows : List (List FV)} : LX (.one (.own sz rows)) = .one (.f (.sl rows)) := rfl
@[go_sem] theorem aeA {x : FV} : LX (.one (.f x)) = .one (.f x) := rfl
@[go_sem] theorem aak {xs : List TV} : LX (.agg xs) = .agg xs := rfl
@[go_sem] theorem aal {xs : List CL} : LX (.one (.ptr xs)) = .one (.ptr xs) := rfl
end
section
variable {Γ : Env} {F : Nat} {k : List AV × List AV → Prop} {u : Tok k} {cf : CF} {gH : List AV}
@[go_sem ↓] theorem aeB : W k u (IZ Γ F cf gH) ↔ gH.length = cf.np ∧ W (fun e => W (fun p => (∀ id, p.1 ≠ .ext id) ∧ W (fun b => W (fun l => W (fun r => k (r.1, b.1)) ⟨⟩ (mX cf.ro b.2 l)) ⟨⟩ (slots b.2 cf.res)) ⟨⟩ (kJ p.2 e.1 gH)) ⟨⟩ (ev Γ F cf.body e.2)) ⟨⟩ (enter cf.bo 0 [] ⟨[], []⟩ gH) := by
  simp only [IZ, dR, dF, bB, ne_eq, Decidable.not_not]
  refine and_congr Iff.rfl (dH fun e => dH fun p => ?_)
  obtain ⟨o, s⟩ := p
  cases o with
  | ext id => simp [jW]
  | _ => simp [bB, bY]
@[go_sem] theorem aam : (∀ id, Out.jr ≠ .ext id) ↔ True := by simp
@[go_sem] theorem aan : (∀ id, Out.ret ≠ .ext id) ↔ True := by simp
@[go_sem] theorem aao {i : Nat} : (∀ id, Out.ext i ≠ .ext id) ↔ False := by simp
end
end Go.Proofs.Ytdkkgecdhapfhaa.Ev
namespace Go.Proofs.Ytdkkgecdhapfhaa.Ev
open Go
attribute [go_sem] dA dW uM qy lK nG D9 LV GZ sub jc og gy jC plain fF Pm I9 vk LW G7 Jc QT QU QV Jb QN rowsOf KV.ks SV.sk
attribute [go_sem] List.any_cons List.any_nil List.all_cons List.all_nil List.map_cons List.map_nil List.length_cons List.length_nil List.append_nil List.nil_append List.cons_append List.flatMap_cons List.flatMap_nil List.take_succ_cons List.take_zero List.take_nil List.drop_succ_cons List.drop_zero List.drop_nil Option.getD_some Option.getD_none List.filter_nil List.filter_cons List.headD_nil List.headD_cons List.tail_cons List.tail_nil
section
variable {σ : St} {α : Type}
section
variable {k : St → Prop} {u : Tok k} {key : Nat} {o : Ob} {pend : List PL}
@[go_sem ↓] theorem aeC : W k u (new σ key o) ↔ (rem σ.ob key).any (fun p => lK key p.2) = false ∧ k ⟨σ.tm.filter (fun p => !qy key p.2), (key, o) :: rem σ.ob key⟩ := by
  simp only [new, Ug, dR, bY, dF, bJ, Bool.not_eq_true]
@[go_sem ↓] theorem ac9 : W k u (newP pend σ key o) ↔ pend.any (dW key) = false ∧ W k ⟨⟩ (new σ key o) := by
  simp only [newP, dR, dF, Bool.not_eq_true]
@[go_sem ↓] theorem aeD : W k u (yt σ key) ↔ W (fun p => k (sub ⟨σ.tm, rem σ.ob key⟩ key (.f (.sl p.2)))) ⟨⟩ (iq σ key) := by
  simp only [yt, iq, dR]
  cases get σ.ob key with
  | none => exact bZ
  | some o => cases o <;> first | exact bZ | exact kZ Iff.rfl
@[go_sem ↓] theorem R4 : W k u (wh σ []) ↔ k σ := gI
@[go_sem ↓] theorem PG : W k u (rD σ []) ↔ k σ := gI
@[go_sem ↓] theorem ML {x : CV} {xs : List CV} : W k u (rD σ (x :: xs)) ↔ W (fun s => W k ⟨⟩ (rD s xs)) ⟨⟩ (wh σ (cells x)) := by
  simp only [rD, dR, bB]
def oF (σ : St) : PL → Option St
  | .own key _ => yt σ key
  | _ => some σ
@[go_sem ↓] theorem PI {x : PL} {xs : List PL} : W k u (wh σ (x :: xs)) ↔ W (fun s => W k ⟨⟩ (wh s xs)) ⟨⟩ (oF σ x) := by
  simp only [dR]
  cases x <;> simp only [wh, oF, bB, bJ]
@[go_sem ↓] theorem PK {n : Nat} : W k u (oF σ (.own key n)) ↔ W k ⟨⟩ (yt σ key) := Iff.rfl
@[go_sem] theorem aap {x : FV} : oF σ (.f x) = some σ := rfl
@[go_sem] theorem UA : oF σ .fH = some σ := rfl
@[go_sem] theorem UC {n : Nat} : oF σ (.ptr key n) = some σ := rfl
@[go_sem] theorem WI : oF σ (.mp key) = some σ := rfl
@[go_sem] theorem UD : oF σ .jq = some σ := rfl
@[go_sem] theorem R5 : oF σ .fu = some σ := rfl
@[go_sem] theorem WJ {f : FuncId} {c : List (List FV)} : oF σ (.fn f c) = some σ := rfl
@[go_sem] theorem WK {c : List FV} : oF σ (.fp c) = some σ := rfl
end
section
variable {k : FV × St → Prop} {u : Tok k} {key n : Nat}
@[go_sem] theorem aeE {x : FV} : vU σ (.f x) = some (x, σ) := rfl
@[go_sem] theorem aaq : vU σ .fH = some (.sl [], σ) := rfl
@[go_sem ↓] theorem UE : W k u (vU σ (.own key n)) ↔ W (fun p => k (.sl p.2, sub ⟨σ.tm, rem σ.ob key⟩ key (.f (.sl p.2)))) ⟨⟩ (iq σ key) := by
  simp only [vU, yt, iq, dR]
  cases get σ.ob key with
  | none => exact bZ
  | some o => cases o <;> first | exact bZ | (simp only [Option.map_some]; exact kZ Iff.rfl)
end
section
variable {k : List FV × St → Prop} {u : Tok k}
@[go_sem ↓] theorem R6 : W k u (kH σ []) ↔ k ([], σ) := gI
@[go_sem ↓] theorem PN {x : PL} {xs : List PL} : W k u (kH σ (x :: xs)) ↔ W (fun p => W (fun r => k (p.1 :: r.1, r.2)) ⟨⟩ (kH p.2 xs)) ⟨⟩ (vU σ x) := by
  simp only [kH, dR, bB, bY]
@[go_sem ↓] theorem aeF {key : Nat} : W k u (Ui σ key) ↔ W (fun xs => W (fun p => W (fun _ => k (p.1, QV (Jb key p.1) ⟨p.2.tm, rem p.2.ob key⟩)) ⟨⟩ (get p.2.ob key)) ⟨⟩ (kH σ xs)) ⟨⟩ (nW σ key) := by
  simp only [Ui, nW, dR]
  cases get σ.ob key with
  | none => exact bZ
  | some o =>
    cases o with
    | mR xs =>
      simp only [oc, bJ, bB]
      refine dH fun p => ?_
      cases get p.2.ob key with
      | none => exact bZ
      | some o => exact kZ Iff.rfl
    | _ => exact bZ
end
section
variable {k : FC × St → Prop} {u : Tok k}
@[go_sem ↓] theorem UF {x : PL} : W k u (Uh σ (.one x)) ↔ W (fun p => k (.one p.1, p.2)) ⟨⟩ (vU σ x) := by simp only [Uh, dR, bY]
@[go_sem ↓] theorem UG {xs : List PL} : W k u (Uh σ (.agg xs)) ↔ W (fun p => k (.agg p.1, p.2)) ⟨⟩ (kH σ xs) := by simp only [Uh, dR, bY]
end
section
variable {k : List (List FV) × St → Prop} {u : Tok k} {q : Bool}
@[go_sem ↓] theorem R7 : W k u (lD q σ []) ↔ k ([], σ) := by simp only [lD, dR, bJ]
@[go_sem ↓] theorem UH {cs : List FV} {l : List CV} : W k u (lD q σ (.one (.fp cs) :: l)) ↔ W (fun r => k (cs :: r.1, r.2)) ⟨⟩ (lD q σ l) := by simp only [lD, dR, bY]
@[go_sem ↓] theorem R8 {key : Nat} {l : List CV} : W k u (lD q σ (.one (.ptr key 0) :: l)) ↔ q = false ∧ W (fun p => W (fun r => k (p.1 :: r.1, r.2)) ⟨⟩ (lD q p.2 l)) ⟨⟩ (Ui σ key) := by
  simp only [lD, dR, dF, bB, bY, Bool.not_eq_true]
end
section
variable {k : List (Nat × Nat × CV) → Prop} {u : Tok k}
@[go_sem ↓] theorem R9 : W k u (vals σ []) ↔ k [] := gI
@[go_sem ↓] theorem PO {o n : Nat} {x : dZ} {ps : List (Nat × Nat × dZ)} : W k u (vals σ ((o, n, x) :: ps)) ↔ W (fun v => W (fun l => k ((o, n, v) :: l)) ⟨⟩ (vals σ ps)) ⟨⟩ (val σ x) := by
  simp only [vals, dR, bB, bY]
end
section
variable {k : List CV → Prop} {u : Tok k}
@[go_sem ↓] theorem PS : W k u (iU σ []) ↔ k [] := gI
@[go_sem ↓] theorem MN {x : dZ} {xs : List dZ} : W k u (iU σ (x :: xs)) ↔ W (fun v => W (fun l => k (v :: l)) ⟨⟩ (iU σ xs)) ⟨⟩ (val σ x) := by
  simp only [iU, dR, bB, bY]
@[go_sem ↓] theorem PU : W k u (slots σ []) ↔ k [] := gI
@[go_sem ↓] theorem MO {x : Rs} {xs : List Rs} : W k u (slots σ (x :: xs)) ↔ W (fun v => W (fun l => k (v :: l)) ⟨⟩ (slots σ xs)) ⟨⟩ (slot σ x) := by
  simp only [slots, dR, bB, bY]
end
section
variable {k : CV → Prop} {u : Tok k} {i n : Nat} {agg : Bool}
@[go_sem ↓] theorem WL : W k u (slot σ (.t i)) ↔ W k ⟨⟩ (vl (get σ.tm i)) := by rw [← V7]; exact Iff.rfl
@[go_sem ↓] theorem PW : W k u (slot σ (.cell i n agg)) ↔ W (fun v => W (fun p => W (fun xs => W (fun l => W k ⟨⟩ (mk agg l)) ⟨⟩ (seg n p.2 xs)) ⟨⟩ (nW σ p.1)) ⟨⟩ (Hr v)) ⟨⟩ (vl (get σ.tm i)) := by
  simp only [slot, dR]
  cases get σ.tm i with
  | none => exact bZ
  | some v =>
    cases v with
    | tQ l => exact bZ
    | c x =>
      simp only [vl, bJ]
      cases x with
      | agg l => exact bZ
      | one p =>
        cases p with
        | ptr key off =>
          simp only [Hr, bJ, nW]
          cases get σ.ob key with
          | none => exact bZ
          | some o => cases o <;> first | exact bZ | (simp only [oc, bJ, bB])
        | _ => exact bZ
end
section
variable {k : List PL → Prop} {u : Tok k} {z : List PL}
@[go_sem ↓] theorem Sb : W k u (fill z []) ↔ k z := by simp only [fill, dR, bJ]
@[go_sem ↓] theorem PX {off n : Nat} {v : CV} {ps : List (Nat × Nat × CV)} : W k u (fill z ((off, n, v) :: ps)) ↔ ((cells v).length = n ∧ (cells v).any og = false) ∧ W (fun z => W k ⟨⟩ (fill z ps)) ⟨⟩ (lay off (cells v) z) := by
  simp only [fill, dR, bO, bB]
end
@[go_sem] theorem WM {kk : IntKind} {n : Int} : vV (.int kk n) = some (.int kk n) := rfl
@[go_sem] theorem UJ {b : Bool} : vV (.bool b) = some (.bool b) := rfl
@[go_sem] theorem WO {s : ByteArray} : vV (.str s) = some (.str s) := rfl
section
variable {k : KV → Prop} {u : Tok k}
@[go_sem ↓] theorem UK {x : FV} : W k u (keyOf (.one (.f x))) ↔ W (fun s => k (.one s)) ⟨⟩ (vV x) := by simp only [keyOf, Fj, Option.bind_some, dR, bY]
@[go_sem ↓] theorem UL {xs : List PL} : W k u (keyOf (.agg xs)) ↔ W (fun l => W (fun s => k (.agg s)) ⟨⟩ (rA l)) ⟨⟩ (nH xs) := by simp only [keyOf, dR, bB, bY]
end
section
variable {k : List SV → Prop} {u : Tok k}
@[go_sem ↓] theorem PY : W k u (rA []) ↔ k [] := gI
@[go_sem ↓] theorem MP {x : FV} {xs : List FV} : W k u (rA (x :: xs)) ↔ W (fun s => W (fun l => k (s :: l)) ⟨⟩ (rA xs)) ⟨⟩ (vV x) := by simp only [rA, dR, bB, bY]
end
section
variable {k : List FV → Prop} {u : Tok k}
@[go_sem ↓] theorem MQ : W k u (nH []) ↔ k [] := gI
@[go_sem ↓] theorem LJ {x : FV} {xs : List PL} : W k u (nH (.f x :: xs)) ↔ W (fun l => k (x :: l)) ⟨⟩ (nH xs) := by simp only [nH, Fj, Option.bind_some, dR, bY]
end
section
variable {k : CL × St → Prop} {u : Tok k} {key n : Nat}
@[go_sem] theorem aeG {x : FV} : G5 σ (.f x) = some (.f x, σ) := rfl
@[go_sem] theorem aar : G5 σ .fH = some (.f (.sl []), σ) := rfl
@[go_sem] theorem aas : G5 σ .jq = some (.jq, σ) := rfl
@[go_sem] theorem WQ : G5 σ .fu = some (.fu, σ) := rfl
@[go_sem ↓] theorem UM : W k u (G5 σ (.own key n)) ↔ W (fun o => k (.own o.1 o.2, ⟨σ.tm, rem σ.ob key⟩)) ⟨⟩ (iq σ key) := by
  simp only [G5, iq, dR]
  cases get σ.ob key with
  | none => exact bZ
  | some o => cases o <;> first | exact bZ | exact kZ Iff.rfl
@[go_sem ↓] theorem WR : W k u (G5 σ (.mp key)) ↔ W (fun o => k (.mp o.1 o.2, ⟨σ.tm, rem σ.ob key⟩)) ⟨⟩ (nK σ key) := by
  simp only [G5, nK, dR]
  cases get σ.ob key with
  | none => exact bZ
  | some o => cases o <;> first | exact bZ | exact kZ Iff.rfl
end
section
variable {k : List CL × St → Prop} {u : Tok k}
@[go_sem ↓] theorem Sc : W k u (yx σ []) ↔ k ([], σ) := gI
@[go_sem ↓] theorem PZ {x : PL} {xs : List PL} : W k u (yx σ (x :: xs)) ↔ W (fun p => W (fun r => k (p.1 :: r.1, r.2)) ⟨⟩ (yx p.2 xs)) ⟨⟩ (G5 σ x) := by
  simp only [yx, dR, bB, bY]
end
section
variable {k : TV × St → Prop} {u : Tok k} {key n : Nat} {gv : Bool}
@[go_sem] theorem aeH {x : FV} : qJ gv σ (.f x) = some (.f x, σ) := rfl
@[go_sem] theorem aat : qJ gv σ .fH = some (.f (.sl []), σ) := rfl
@[go_sem] theorem aau : qJ gv σ .jq = some (.jq, σ) := rfl
@[go_sem] theorem WS : qJ gv σ .fu = some (.fu, σ) := rfl
@[go_sem] theorem ada {cs : List FV} : qJ gv σ (.fp cs) = some (.fp cs, σ) := rfl
@[go_sem] theorem adb {f : FuncId} {cs : List (List FV)} : qJ gv σ (.fn f cs) = some (.fn f cs, σ) := rfl
@[go_sem ↓] theorem UN : W k u (qJ false σ (.own key n)) ↔ W (fun o => k (.f (.sl o.2), σ)) ⟨⟩ (iq σ key) := by
  simp only [qJ, iq, dR]
  cases get σ.ob key with
  | none => exact bZ
  | some o => cases o <;> first | exact bZ | exact kZ Iff.rfl
@[go_sem ↓] theorem Sd : W k u (qJ true σ (.own key n)) ↔ W (fun o => k (.own o.1 o.2, ⟨σ.tm, rem σ.ob key⟩)) ⟨⟩ (iq σ key) := by
  simp only [qJ, iq, dR]
  cases get σ.ob key with
  | none => exact bZ
  | some o => cases o <;> first | exact bZ | exact kZ Iff.rfl
@[go_sem ↓] theorem WT : W k u (qJ gv σ (.mp key)) ↔ W (fun o => k (.mp o.1 o.2, ⟨σ.tm, rem σ.ob key⟩)) ⟨⟩ (nK σ key) := by
  simp only [qJ, nK, dR]
  cases get σ.ob key with
  | none => exact bZ
  | some o => cases o <;> first | exact bZ | exact kZ Iff.rfl
@[go_sem ↓] theorem UO : W k u (qJ gv σ (.ptr key 0)) ↔ W (fun xs => W (fun p => k (.ptr p.1, p.2)) ⟨⟩ (yx ⟨σ.tm, rem σ.ob key⟩ xs)) ⟨⟩ (nW σ key) := by
  simp only [qJ, nW, dR]
  cases get σ.ob key with
  | none => exact bZ
  | some o => cases o <;> first | exact bZ | (simp only [oc, bJ, bY])
end
section
variable {k : List TV × St → Prop} {u : Tok k} {gv : Bool}
@[go_sem ↓] theorem Sg : W k u (qK gv σ []) ↔ k ([], σ) := gI
@[go_sem ↓] theorem P5 {x : PL} {xs : List PL} : W k u (qK gv σ (x :: xs)) ↔ W (fun p => W (fun r => k (p.1 :: r.1, r.2)) ⟨⟩ (qK gv p.2 xs)) ⟨⟩ (qJ gv σ x) := by
  simp only [qK, dR, bB, bY]
end
section
variable {k : AV × St → Prop} {u : Tok k} {gv : Bool}
@[go_sem ↓] theorem UQ {x : PL} : W k u (IX gv σ (.one x)) ↔ W (fun p => k (.one p.1, p.2)) ⟨⟩ (qJ gv σ x) := by simp only [IX, dR, bY]
@[go_sem ↓] theorem UR {xs : List PL} : W k u (IX gv σ (.agg xs)) ↔ W (fun p => k (.agg p.1, p.2)) ⟨⟩ (qK gv σ xs) := by simp only [IX, dR, bY]
end
section
variable {k : List AV × St → Prop} {u : Tok k} {gv : Bool}
@[go_sem ↓] theorem Si : W k u (rC gv σ []) ↔ k ([], σ) := gI
@[go_sem ↓] theorem P6 {x : CV} {xs : List CV} : W k u (rC gv σ (x :: xs)) ↔ W (fun p => W (fun r => k (p.1 :: r.1, r.2)) ⟨⟩ (rC gv p.2 xs)) ⟨⟩ (IX gv σ x) := by
  simp only [rC, dR, bB, bY]
end
section
variable {k : List PL × St → Prop} {u : Tok k} {kf : Nat → Nat} {c base j : Nat} {pend : List PL}
@[go_sem ↓] theorem Sj : W k u (qc kf c pend σ []) ↔ k ([], σ) := by simp only [qc, dR, bJ]
def MR (kf : Nat → Nat) (c : Nat) (pend : List PL) (σ : St) : CL → Option (PL × St)
  | .f x => some (.f x, σ)
  | .jq => some (.jq, σ)
  | .fu => some (.fu, σ)
  | .mp sh ents => (newP pend σ (kf c) (.map sh ents)).map fun s => (.mp (kf c), s)
  | .own sz rows => (newP pend σ (kf c + kf c % 2) (.row sz rows)).map fun s => (.own (kf c + kf c % 2) rows.length, s)
@[go_sem ↓] theorem P7 {x : CL} {xs : List CL} : W k u (qc kf c pend σ (x :: xs)) ↔ W (fun p => W (fun r => k (p.1 :: r.1, r.2)) ⟨⟩ (qc kf (c + 1) (p.1 :: pend) p.2 xs)) ⟨⟩ (MR kf c pend σ x) := by
  simp only [dR]
  cases x <;> simp only [qc, MR, bJ, bB, bY]
@[go_sem ↓] theorem Sk : W k u (vY base j pend σ []) ↔ k ([], σ) := by simp only [vY, dR, bJ]
@[go_sem ↓] theorem P8 {x : TV} {xs : List TV} : W k u (vY base j pend σ (x :: xs)) ↔ W (fun p => W (fun r => k (p.1 :: r.1, r.2)) ⟨⟩ (vY base (j + 1) (p.1 :: pend) p.2 xs)) ⟨⟩ (BK (base + 200 * (j + 1)) pend σ x) := by
  simp only [vY, dR, bB, bY]
end
section
variable {k : PL × St → Prop} {u : Tok k} {kf : Nat → Nat} {c key : Nat} {pend : List PL}
@[go_sem] theorem aeI {x : FV} : MR kf c pend σ (.f x) = some (.f x, σ) := rfl
@[go_sem] theorem aav : MR kf c pend σ .jq = some (.jq, σ) := rfl
@[go_sem] theorem WU : MR kf c pend σ .fu = some (.fu, σ) := rfl
@[go_sem ↓] theorem WV {sh : KS} {ents : List (KV × FC)} : W k u (MR kf c pend σ (.mp sh ents)) ↔ W (fun s => k (.mp (kf c), s)) ⟨⟩ (newP pend σ (kf c) (.map sh ents)) := by simp only [MR, dR, bY]
@[go_sem ↓] theorem UU {sz : Nat} {rows : List (List FV)} : W k u (MR kf c pend σ (.own sz rows)) ↔ W (fun s => k (.own (kf c + kf c % 2) rows.length, s)) ⟨⟩ (newP pend σ (kf c + kf c % 2) (.row sz rows)) := by simp only [MR, dR, bY]
@[go_sem] theorem aeJ {x : FV} : BK key pend σ (.f x) = some (.f x, σ) := rfl
@[go_sem] theorem aaw : BK key pend σ .jq = some (.jq, σ) := rfl
@[go_sem] theorem WW : BK key pend σ .fu = some (.fu, σ) := rfl
@[go_sem] theorem ade {cs : List FV} : BK key pend σ (.fp cs) = some (.fp cs, σ) := rfl
@[go_sem] theorem adf {f : FuncId} {cs : List (List FV)} : BK key pend σ (.fn f cs) = some (.fn f cs, σ) := rfl
@[go_sem] theorem aax : BK key pend σ .any = some (.any, σ) := rfl
@[go_sem ↓] theorem WX {sh : KS} {ents : List (KV × FC)} : W k u (BK key pend σ (.mp sh ents)) ↔ W (fun s => k (.mp key, s)) ⟨⟩ (newP pend σ key (.map sh ents)) := by simp only [BK, dR, bY]
@[go_sem ↓] theorem UW {sz : Nat} {rows : List (List FV)} : W k u (BK key pend σ (.own sz rows)) ↔ W (fun s => k (.own (ow key) rows.length, s)) ⟨⟩ (newP pend σ (ow key) (.row sz rows)) := by simp only [BK, dR, bY]
@[go_sem ↓] theorem UY {cs : List CL} : W k u (BK key pend σ (.ptr cs)) ↔ W (fun p => p.1.any (dW key) = false ∧ W (fun s => k (.ptr key 0, s)) ⟨⟩ (newP pend p.2 key (.mR p.1))) ⟨⟩ (qc (LW key) 0 pend σ cs) := by
  simp only [BK, dR, bB, dF, bY, Bool.not_eq_true]
end
section
variable {k : CV × St → Prop} {u : Tok k} {base : Nat} {pend : List PL}
@[go_sem ↓] theorem UZ {x : TV} : W k u (IY base pend σ (.one x)) ↔ W (fun p => k (.one p.1, p.2)) ⟨⟩ (BK (base + 200) pend σ x) := by simp only [IY, dR, bY]
@[go_sem ↓] theorem U0 {xs : List TV} : W k u (IY base pend σ (.agg xs)) ↔ W (fun p => k (.agg p.1, p.2)) ⟨⟩ (vY base 0 pend σ xs) := by simp only [IY, dR, bY]
end
section
variable {k : List CV × St → Prop} {u : Tok k} {base i : Nat} {pend : List PL} {bo : List Nat}
@[go_sem] theorem aeK : ab bo i = if bo.contains i then dA i + 10001 else dA i + 1 := rfl
@[go_sem] theorem aeL {key : Nat} : ow key = if key / 10000 % 2 = 0 then key + key % 2 else key := rfl
@[go_sem ↓] theorem Sl : W k u (vZ base i pend σ []) ↔ k ([], σ) := by simp only [vZ, dR, bJ]
@[go_sem ↓] theorem P9 {x : AV} {xs : List AV} : W k u (vZ base i pend σ (x :: xs)) ↔ W (fun p => W (fun r => k (p.1 :: r.1, r.2)) ⟨⟩ (vZ base (i + 1) (cells p.1 ++ pend) p.2 xs)) ⟨⟩ (IY (base + 2000 * i) pend σ x) := by
  simp only [vZ, dR, bB, bY]
@[go_sem ↓] theorem Qa : W k u (enter bo i pend σ []) ↔ k ([], σ) := by simp only [enter, dR, bJ]
@[go_sem ↓] theorem MS {x : AV} {xs : List AV} : W k u (enter bo i pend σ (x :: xs)) ↔ W (fun p => W (fun s => W (fun r => k (p.1 :: r.1, r.2)) ⟨⟩ (enter bo (i + 1) (cells p.1 ++ pend) s xs)) ⟨⟩ (some ⟨put p.2.tm i (.c p.1), p.2.ob⟩)) ⟨⟩ (IY (ab bo i) pend σ x) := by
  simp only [enter, dR, bB, bY, bJ]
end
section
variable {k : St → Prop} {u : Tok k} {fI : St} {base : Nat} {pend : List PL}
@[go_sem ↓] theorem Sm : W k u (yA fI pend base σ [] []) ↔ k σ := by simp only [yA, dR, bJ]
@[go_sem ↓] theorem Qb {x : CV} {xs : List CV} {y : AV} {ys : List AV} : W k u (yA fI pend base σ (x :: xs) (y :: ys)) ↔ W (fun s => W k ⟨⟩ (yA fI pend (base + 1000) s xs ys)) ⟨⟩ (Vf fI pend base σ x y) := by
  simp only [yA, dR, bB]
@[go_sem ↓] theorem U1 {x : PL} {y : TV} : W k u (Vf fI pend base σ (.one x) (.one y)) ↔ W k ⟨⟩ (BL fI pend base σ x y) := Iff.rfl
@[go_sem ↓] theorem U2 {x : List PL} {y : List TV} : W k u (Vf fI pend base σ (.agg x) (.agg y)) ↔ W k ⟨⟩ (zU fI pend base σ x y) := Iff.rfl
@[go_sem ↓] theorem Sn : W k u (zU fI pend base σ [] []) ↔ k σ := by simp only [zU, dR, bJ]
@[go_sem ↓] theorem Qc {x : PL} {xs : List PL} {y : TV} {ys : List TV} : W k u (zU fI pend base σ (x :: xs) (y :: ys)) ↔ W (fun s => W k ⟨⟩ (zU fI pend (base + 200) s xs ys)) ⟨⟩ (BL fI pend base σ x y) := by
  simp only [zU, dR, bB]
@[go_sem ↓] theorem U3 {key off : Nat} {cs : List CL} : W k u (BL fI pend base σ (.ptr key off) (.ptr cs)) ↔ W (fun xs => W (fun p => k (jc p.2 key (.mR p.1))) ⟨⟩ (qc (G6 base xs) 0 pend σ cs)) ⟨⟩ (nW fI key) := by
  simp only [BL, nW, dR]
  cases get fI.ob key with
  | none => exact bZ
  | some o => cases o <;> first | exact bZ | (simp only [oc, bJ, bY])
@[go_sem] theorem adg {key : Nat} {sh : KS} {ents : List (KV × FC)} : BL fI pend base σ (.mp key) (.mp sh ents) = some (jc σ key (.map sh ents)) := rfl
@[go_sem] theorem WY {key n sz : Nat} {rows : List (List FV)} : BL fI pend base σ (.own key n) (.own sz rows) = some (jc σ key (.row sz rows)) := rfl
@[go_sem] theorem aeM {x y : FV} : BL fI pend base σ (.f x) (.f y) = some σ := rfl
@[go_sem] theorem aay {y : FV} : BL fI pend base σ .fH (.f y) = some σ := rfl
@[go_sem] theorem aaz : BL fI pend base σ .jq .jq = some σ := rfl
@[go_sem] theorem WZ : BL fI pend base σ .fu .fu = some σ := rfl
@[go_sem] theorem aaA {key n : Nat} {y : FV} : BL fI pend base σ (.own key n) (.f y) = some σ := rfl
@[go_sem] theorem aaB {key n : Nat} : BL fI pend base σ (.own key n) .any = some σ := rfl
@[go_sem] theorem adh {a b : List FV} : BL fI pend base σ (.fp a) (.fp b) = some σ := rfl
@[go_sem] theorem adi {f g : FuncId} {a b : List (List FV)} : BL fI pend base σ (.fn f a) (.fn g b) = some σ := rfl
end
def U4 (base c : Nat) : Option PL → Nat
  | some (.mp k) => if k % 2 = 0 then k else base + 2 * (c + 1)
  | some (.own k _) => if k % 2 = 0 then k else base + 2 * (c + 1)
  | _ => base + 2 * (c + 1)
@[go_sem] theorem aaC {base c : Nat} {xs : List PL} : G6 base xs c = U4 base c (xs[c]?) := by
  unfold G6
  cases xs[c]? with
  | none => rfl
  | some x => cases x <;> rfl
@[go_sem] theorem adj {base c k : Nat} : U4 base c (some (.mp k)) = if k % 2 = 0 then k else base + 2 * (c + 1) := rfl
@[go_sem] theorem aaD {base c k n : Nat} : U4 base c (some (.own k n)) = if k % 2 = 0 then k else base + 2 * (c + 1) := rfl
@[go_sem] theorem aeN {base c : Nat} {x : FV} : U4 base c (some (.f x)) = base + 2 * (c + 1) := rfl
@[go_sem] theorem aaE {base c : Nat} : U4 base c (some .fH) = base + 2 * (c + 1) := rfl
@[go_sem] theorem W9 {base c : Nat} : U4 base c (some .fu) = base + 2 * (c + 1) := rfl
section
variable {k : TV × St → Prop} {u : Tok k} {key n : Nat}
@[go_sem] theorem adk {x : FV} : outT σ (.f x) = some (.f x, σ) := rfl
@[go_sem] theorem Xa : outT σ .fH = some (.f (.sl []), σ) := rfl
@[go_sem] theorem Xb : outT σ .jq = some (.jq, σ) := rfl
@[go_sem] theorem U5 : outT σ .fu = some (.fu, σ) := rfl
@[go_sem] theorem aaF {cs : List FV} : outT σ (.fp cs) = some (.fp cs, σ) := rfl
@[go_sem] theorem aaG {f : FuncId} {cs : List (List FV)} : outT σ (.fn f cs) = some (.fn f cs, σ) := rfl
@[go_sem ↓] theorem Sq : W k u (outT σ (.own key n)) ↔ W (fun p => k (.f p.1, p.2)) ⟨⟩ (vU σ (.own key n)) := by simp only [outT, dR, bY]
@[go_sem ↓] theorem U6 : W k u (outT σ (.mp key)) ↔ W (fun o => k (.mp o.1 o.2, ⟨σ.tm, rem σ.ob key⟩)) ⟨⟩ (nK σ key) := by
  simp only [outT, nK, dR]
  cases get σ.ob key with
  | none => exact bZ
  | some o => cases o <;> first | exact bZ | exact kZ Iff.rfl
@[go_sem ↓] theorem Sw : W k u (outT σ (.ptr key 0)) ↔ W (fun xs => W (fun p => k (.ptr p.1, p.2)) ⟨⟩ (yx ⟨σ.tm, rem σ.ob key⟩ xs)) ⟨⟩ (nW σ key) := by
  simp only [outT, nW, dR]
  cases get σ.ob key with
  | none => exact bZ
  | some o => cases o <;> first | exact bZ | (simp only [oc, bJ, bY])
@[go_sem ↓] theorem Sy {sz : Nat} : W k u (zV sz σ (.own key n)) ↔ W (fun o => o.1 = sz ∧ k (.own sz o.2, ⟨σ.tm, rem σ.ob key⟩)) ⟨⟩ (iq σ key) := by
  simp only [zV, iq, dR]
  cases get σ.ob key with
  | none => exact bZ
  | some o => cases o <;> first | exact bZ | (simp only [J3, bJ, bO])
@[go_sem ↓] theorem SA {sz : Nat} : W k u (zV sz σ .fH) ↔ ¬ sz = 0 ∧ k (.own sz [], σ) := by simp only [zV, dR, dF, bJ]
@[go_sem] theorem aaH {x : PL} {y : FV} : jI σ x (.f y) = some (.f y, σ) := by cases x <;> first | rfl | (rename_i a b; cases b <;> rfl)
@[go_sem] theorem U7 {x : PL} : jI σ x .jq = some (.jq, σ) := by cases x <;> first | rfl | (rename_i a b; cases b <;> rfl)
@[go_sem] theorem SB {x : PL} : jI σ x .fu = some (.fu, σ) := by cases x <;> first | rfl | (rename_i a b; cases b <;> rfl)
def bko (σ : St) (key : Nat) : Nat → Option (TV × St)
  | 1 => (J3 (get σ.ob key)).map fun p => (.own p.1 p.2, ⟨σ.tm, rem σ.ob key⟩)
  | _ => some (.any, σ)
@[go_sem] theorem aeO : bko σ key 0 = some (.any, σ) := rfl
@[go_sem] theorem Xc : bko σ key 1 = (J3 (get σ.ob key)).map fun p => (.own p.1 p.2, ⟨σ.tm, rem σ.ob key⟩) := rfl
@[go_sem] theorem U8 {n sz : Nat} {rows : List (List FV)} : jI σ (.own key n) (.own sz rows) = bko σ key (key % 2) := by
  simp only [jI]
  rcases Nat.mod_two_eq_zero_or_one key with h | h
  · rw [h, if_neg (by decide)]; rfl
  · rw [h, if_pos rfl, Xc]
    cases get σ.ob key with
    | none => rfl
    | some o => cases o <;> rfl
@[go_sem] theorem U9 {sz : Nat} {rows : List (List FV)} : jI σ .fH (.own sz rows) = some (.any, σ) := rfl
@[go_sem] theorem Va {x : PL} : jI σ x .any = some (.any, σ) := by cases x <;> first | rfl | (rename_i a b; cases b <;> rfl)
@[go_sem] theorem Xd {x : PL} {cs : List FV} : jI σ x (.fp cs) = some (.fp cs, σ) := by cases x <;> first | rfl | (rename_i a b; cases b <;> rfl)
@[go_sem] theorem Xe {x : PL} {f : FuncId} {cs : List (List FV)} : jI σ x (.fn f cs) = some (.fn f cs, σ) := by cases x <;> first | rfl | (rename_i a b; cases b <;> rfl)
@[go_sem ↓] theorem Qd {cs : List CL} : W k u (jI σ (.ptr key 0) (.ptr cs)) ↔ key % 2 = 1 ∧ W k ⟨⟩ (outT σ (.ptr key 0)) := by simp only [jI, dR, bO]
@[go_sem ↓] theorem SC {sh : KS} {ents : List (KV × FC)} : W k u (jI σ (.mp key) (.mp sh ents)) ↔ key % 2 = 1 ∧ W k ⟨⟩ (outT σ (.mp key)) := by simp only [jI, dR, bO]
end
section
variable {k : List TV × St → Prop} {u : Tok k}
@[go_sem ↓] theorem Qe : W k u (uN σ []) ↔ k ([], σ) := gI
@[go_sem ↓] theorem MU {x : PL} {xs : List PL} : W k u (uN σ (x :: xs)) ↔ W (fun p => W (fun r => k (p.1 :: r.1, r.2)) ⟨⟩ (uN p.2 xs)) ⟨⟩ (outT σ x) := by
  simp only [uN, dR, bB, bY]
@[go_sem ↓] theorem MV : W k u (nI σ [] []) ↔ k ([], σ) := by simp only [nI, dR, bJ]
@[go_sem ↓] theorem LK {l : PL} {ls : List PL} {x : TV} {xs : List TV} : W k u (nI σ (l :: ls) (x :: xs)) ↔ W (fun p => W (fun r => k (p.1 :: r.1, r.2)) ⟨⟩ (nI p.2 ls xs)) ⟨⟩ (jI σ l x) := by
  simp only [nI, dR, bB, bY]
end
section
variable {k : AV × St → Prop} {u : Tok k}
@[go_sem ↓] theorem I5 {x : PL} : W k u (zW none σ (.one x)) ↔ W (fun p => k (.one p.1, p.2)) ⟨⟩ (outT σ x) := by simp only [zW, L6, dR, bY]
@[go_sem ↓] theorem I6 {xs : List PL} : W k u (zW none σ (.agg xs)) ↔ W (fun p => k (.agg p.1, p.2)) ⟨⟩ (uN σ xs) := by simp only [zW, L6, dR, bY]
@[go_sem ↓] theorem Qf {sz : Nat} {x : PL} : W k u (zW (some sz) σ (.one x)) ↔ W (fun p => k (.one p.1, p.2)) ⟨⟩ (zV sz σ x) := by simp only [zW, dR, bY]
@[go_sem ↓] theorem Qg {l : PL} {x : TV} : W k u (wm σ (.one l) (.one x)) ↔ W (fun p => k (.one p.1, p.2)) ⟨⟩ (jI σ l x) := by simp only [wm, dR, bY]
@[go_sem ↓] theorem Qh {l : List PL} {x : List TV} : W k u (wm σ (.agg l) (.agg x)) ↔ W (fun p => k (.agg p.1, p.2)) ⟨⟩ (nI σ l x) := by simp only [wm, dR, bY]
end
section
variable {k : List AV × St → Prop} {u : Tok k}
@[go_sem ↓] theorem Qi {fl : List (Option Nat)} : W k u (mX fl σ []) ↔ k ([], σ) := by simp only [mX, dR, bJ]
@[go_sem ↓] theorem MW {fl : List (Option Nat)} {x : CV} {xs : List CV} : W k u (mX fl σ (x :: xs)) ↔ W (fun p => W (fun r => k (p.1 :: r.1, r.2)) ⟨⟩ (mX fl.tail p.2 xs)) ⟨⟩ (zW (fl.headD none) σ x) := by
  simp only [mX, dR, bB, bY]
@[go_sem ↓] theorem MX : W k u (kJ σ [] []) ↔ k ([], σ) := by simp only [kJ, dR, bJ]
@[go_sem ↓] theorem LM {l : CV} {ls : List CV} {x : AV} {xs : List AV} : W k u (kJ σ (l :: ls) (x :: xs)) ↔ W (fun p => W (fun r => k (p.1 :: r.1, r.2)) ⟨⟩ (kJ p.2 ls xs)) ⟨⟩ (wm σ l x) := by
  simp only [kJ, dR, bB, bY]
end
section
variable {k : St → Prop} {u : Tok k} {gv : Bool} {d : Nat} {args : List CV} {p : List AV × St} {r : List AV × List AV} {s : St}
@[go_sem ↓] theorem adl : W k u (EA gv args p r) ↔ (if (!gv && ((r.1.any vk || !p.1.all fF) && args.any (fun x => (cells x).any gy))) = true then W k ⟨⟩ (rD p.2 args) else k p.2) := by
  simp only [EA, dR]
  split
  · exact Iff.rfl
  · exact bJ
@[go_sem ↓] theorem adn : W k u (EB d σ args p r s) ↔ (if p.1.all fF = true then k s else W k ⟨⟩ (yA σ (args.flatMap cells) (dA d + 10000) s args r.2)) := by
  simp only [EB, dR]
  split
  · exact bJ
  · exact Iff.rfl
end
end
section
variable {σ : St} {ks BJ : List Nat} {rws : List (Nat × Nat)}
@[go_sem] theorem ado : res ks BJ rws σ = ⟨pick ks (jr σ rws).tm, pick BJ (jr σ rws).ob⟩ := rfl
@[go_sem] theorem aaI : jr σ [] = σ := rfl
end
attribute [go_sem] if_true if_false true_and and_true Bool.not_false Bool.not_true Bool.and_false Bool.false_and Bool.and_true Bool.true_and Bool.or_false Bool.false_or Bool.or_true Bool.true_or Bool.false_eq_true not_true_eq_false not_false_eq_true ne_eq forall_const and_self implies_true KV.one.injEq KV.agg.injEq SV.str.injEq SV.int.injEq SV.bool.injEq List.cons.injEq List.getElem?_cons_zero List.getElem?_cons_succ List.getD_cons_zero List.getD_cons_succ List.contains_cons List.contains_nil decide_true decide_false fresh
end Go.Proofs.Ytdkkgecdhapfhaa.Ev

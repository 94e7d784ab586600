/- A part of the proof of StoreNil: cut, joined and given short names by a program of this session (wip/tools/pack.py); Lean checks it. No condition. -/
import Derived.Test.YtdkkgecdhapfhaaPSNilf
import Derived.Test.YtdkkgecdhapfhaaPSNild
set_option linter.unusedSectionVars false
set_option linter.unusedSimpArgs false
set_option linter.unusedVariables false
namespace Go.Proofs.Ytdkkgecdhapfhaa.Ev
open Go
attribute [go_sem ↓] Et J2 uh Eu Ew
attribute [go_sem] gI
attribute [go_sem ↓] MQ J3 RJ
section
variable {α β : Type} {k : α → Prop} {u : Tok k}
@[go_sem ↓] theorem acv {c : Prop} [Decidable c] {a b : Option α} : W k u (if c then a else b) ↔ (c → W k u a) ∧ (¬ c → W k u b) := VY
end
def Hq : CV → Option (Nat × Nat)
  | .one (.ptr k o) => some (k, o)
  | _ => none
def qd : CV → Option ByteArray
  | .one (.f (.str s)) => some s
  | _ => none
def J7 : CV → Option (List PL)
  | .agg l => some l
  | _ => none
def RL : PV → Option (List CV)
  | .tO l => some l
  | _ => none
@[go_sem] theorem V3 {l : List CV} : RL (.tO l) = some l := rfl
def Zz (off : Nat) : CV → Option CV
  | .one (.ptr key o) => some (.one (.ptr key (o + off)))
  | .one (.fp cs) => some (.one (.fp (cs.drop off)))
  | .one (.rp key z i o) => some (.one (.rp key z i (o + off)))
  | _ => none
@[go_sem] theorem ZA {off k o : Nat} : Zz off (.one (.ptr k o)) = some (.one (.ptr k (o + off))) := rfl
@[go_sem] theorem acw {off : Nat} {cs : List FV} : Zz off (.one (.fp cs)) = some (.one (.fp (cs.drop off))) := rfl
@[go_sem] theorem acy {off k z i o : Nat} : Zz off (.one (.rp k z i o)) = some (.one (.rp k z i (o + off))) := rfl
def RN : CV → Option Bool
  | .one .fG => some true
  | .one (.f (.sl (_ :: _))) => some false
  | _ => none
@[go_sem] theorem acz : RN (.one .fG) = some true := rfl
@[go_sem] theorem acA {r : List FV} {l : List (List FV)} : RN (.one (.f (.sl (r :: l)))) = some false := rfl
section
variable {α : Type}
@[go_sem] theorem get_nil {i : Nat} : get ([] : List (Nat × α)) i = none := rfl
@[go_sem] theorem V4 {k : Nat} {v : α} {l : List (Nat × α)} {i : Nat} : get ((k, v) :: l) i = if k = i then some v else get l i := rfl
@[go_sem] theorem ZB {i : Nat} : rem ([] : List (Nat × α)) i = [] := rfl
@[go_sem] theorem V5 {k : Nat} {v : α} {l : List (Nat × α)} {i : Nat} : rem ((k, v) :: l) i = if k = i then rem l i else (k, v) :: rem l i := rfl
@[go_sem] theorem ZC {i : Nat} {v : α} : put ([] : List (Nat × α)) i v = [(i, v)] := rfl
@[go_sem] theorem V6 {k : Nat} {w : α} {l : List (Nat × α)} {i : Nat} {v : α} : put ((k, w) :: l) i v = if k = i then (i, v) :: rem l i else (k, w) :: put l i v := rfl
def J8 (k : Nat) (r : List (Nat × α)) : Option α → List (Nat × α)
  | some v => (k, v) :: r
  | none => r
@[go_sem] theorem RO {k : Nat} {v : α} {r : List (Nat × α)} : J8 k r (some v) = (k, v) :: r := rfl
@[go_sem] theorem RP {k : Nat} {r : List (Nat × α)} : J8 k r none = r := rfl
@[go_sem] theorem V7 {l : List (Nat × α)} : pick [] l = [] := rfl
@[go_sem] theorem Uq {k : Nat} {ks : List Nat} {l : List (Nat × α)} : pick (k :: ks) l = J8 k (pick ks l) (get l k) := by
  unfold pick
  rw [List.filterMap_cons]
  cases get l k <;> rfl
end
section
variable {Γ : Env} {F d : Nat} {q : Bool} {σ : St}
section
variable {k : Out × St → Prop} {u : Tok k}
@[go_sem ↓] theorem acB : W k u (ev Γ F .skip σ) ↔ k (.jo, σ) := by simp only [ev]; exact gI
@[go_sem ↓] theorem adT {is : List G} {ks : List Nat} : W k u (ev Γ F (.reg is ks) σ) ↔ W (fun s => W k ⟨⟩ (some (.jo, ⟨pick ks s.tm, s.ob⟩))) ⟨⟩ (BR Γ false is σ) := by simp only [ev, dR, bY, bJ]
@[go_sem ↓] theorem adU {pre : List (G × List Nat)} {lu : List Nat} {jG rest : List G} {ks : List Nat} : W k u (ev Γ F (.tN pre lu jG rest ks) σ) ↔ W (fun s => W k ⟨⟩ (some (.jo, ⟨pick ks s.tm, s.ob⟩))) ⟨⟩ (Un Γ pre lu jG rest σ) := by simp only [ev, dR, bY, bJ]
@[go_sem ↓] theorem V8 {gs : List G} {ks qZ : List Nat} {r : St} : nU Γ gs ks qZ σ r [] ↔ True := Iff.rfl
@[go_sem ↓] theorem Ur {gs : List G} {ks qZ : List Nat} {r : St} {o : List Nat} {os : List (List Nat)} : nU Γ gs ks qZ σ r (o :: os) ↔ W (fun s => W (fun t => t = r) ⟨⟩ (some (⟨pick ks s.tm, pick qZ s.ob⟩ : St))) ⟨⟩ (BR Γ false (o.map fun i => gs.getD i default) σ) ∧ nU Γ gs ks qZ σ r os := by
  conv => lhs; unfold nU
  simp only [dR, V, Option.some.injEq, exists_eq_left']
@[go_sem ↓] theorem adV {gs : List G} {o : List Nat} {os : List (List Nat)} {ks qZ : List Nat} : W k u (ev Γ F (.any gs (o :: os) ks qZ) σ) ↔ W (fun s => W (fun r => nU Γ gs ks qZ σ r os ∧ W k ⟨⟩ (some (.jo, r))) ⟨⟩ (some (⟨pick ks s.tm, pick qZ s.ob⟩ : St))) ⟨⟩ (BR Γ false (o.map fun i => gs.getD i default) σ) := by
  simp only [ev, evO, dR, bB, bO, bJ]
@[go_sem ↓] theorem adW {a b : CC} : W k u (ev Γ F (.seq a b) σ) ↔ W (fun p => match p.1 with
    | .jo => W k ⟨⟩ (ev Γ F b p.2)
    | o => k (o, p.2)) ⟨⟩ (ev Γ F a σ) := by
  simp only [ev, dR, bB]
  refine dG fun p => ?_
  obtain ⟨o, s⟩ := p
  cases o <;> first | rfl | exact bJ
@[go_sem ↓] theorem acC {c : d9} {a b : CC} : W k u (ev Γ F (.cond c a b) σ) ↔ W (fun v => W (fun t => Br t (fun _ => W k ⟨⟩ (ev Γ F a σ)) (fun _ => W k ⟨⟩ (ev Γ F b σ)) ⟨⟩) ⟨⟩ (bool? v)) ⟨⟩ (val σ c) := by
  simp only [ev, dR, bB]
  refine dG fun v => dG fun t => ?_
  cases t <;> simp [Br, dR]
@[go_sem ↓] theorem ZE {id : Nat} {c : CC} : W k u (ev Γ F (.block id c) σ) ↔ W (fun p => match p.1 with
    | .ext i => if i = id then k (.jo, p.2) else k (.ext i, p.2)
    | o => k (o, p.2)) ⟨⟩ (ev Γ F c σ) := by
  simp only [ev, dR, bY]
  refine dG fun p => ?_
  obtain ⟨o, s⟩ := p
  cases o with
  | ext i => by_cases hi : i = id <;> simp [hi]
  | _ => exact Iff.rfl
@[go_sem ↓] theorem AO {keep BK : List Nat} {rws : List (Nat × Nat)} {c : CC} : W k u (ev Γ F (.loop keep BK rws c) σ) ↔ W k u (iter (ev Γ F c) (res keep BK rws) F σ) := by simp only [ev]
@[go_sem ↓] theorem acD {id : Nat} : W k u (ev Γ F (.exit id) σ) ↔ k (.ext id, σ) := by simp only [ev]; exact gI
@[go_sem ↓] theorem adX : W k u (ev Γ F .ret σ) ↔ k (.ret, σ) := by simp only [ev]; exact gI
end
section
variable {k : St → Prop} {u : Tok k}
@[go_sem ↓] theorem Us : W k u (BR Γ q [] σ) ↔ k σ := gI
@[go_sem ↓] theorem RQ {g : G} {l : List G} : W k u (BR Γ q (g :: l) σ) ↔ W (fun s => W k ⟨⟩ (BR Γ q l s)) ⟨⟩ (Pw Γ q σ g) := by
  show W k u ((Pw Γ q σ g).bind (BR Γ q l)) ↔ _
  rw [Et]
@[go_sem ↓] theorem adY {g : G} : W k u (Pw Γ q σ g) ↔ W (fun p => W k ⟨⟩ (some (rE p.2 g.dst p.1))) ⟨⟩ (lK Γ q σ g) := by simp only [Pw, dR, bY, bJ]
def RS (f : Nat → Option (PV × St)) : List Nat → Prop
  | [] => True
  | j :: l => W (fun _ => True) ⟨⟩ (f j) ∧ RS f l
theorem FP {f : Nat → Option (PV × St)} : ∀ {l : List Nat}, l.all (fun j => (f j).isSome) = true ↔ RS f l
  | [] => by simp [RS]
  | j :: l => by
    rw [List.all_cons, Bool.and_eq_true, FP (l := l)]
    refine and_congr_left fun _ => ?_
    cases h : f j with
    | none => simp [uh]
    | some y => simp [gI]
@[go_sem ↓] theorem ZF {f : Nat → Option (PV × St)} : RS f [] ↔ True := Iff.rfl
@[go_sem ↓] theorem V9 {f : Nat → Option (PV × St)} {j : Nat} {l : List Nat} : RS f (j :: l) ↔ W (fun _ => True) ⟨⟩ (f j) ∧ RS f l := Iff.rfl
def wkv : Option CV → List Nat
  | some (.one (.ptr k _)) => [k]
  | _ => []
@[go_sem] theorem ZG {k o : Nat} : wkv (some (.one (.ptr k o))) = [k] := rfl
@[go_sem] theorem ZH {tm : List (Nat × PV)} {dst : Option Nat} {gd : Option (Option Nat × Bool)} {n : Nat} {x y : d9} : rG tm ⟨dst, gd, .store n x y⟩ = wkv (val ⟨tm, []⟩ x) := by
  show (match val ⟨tm, []⟩ x with | some (.one (.ptr k _)) => [k] | _ => []) = _
  cases val ⟨tm, []⟩ x with
  | none => rfl
  | some v => cases v with
    | one y => cases y <;> rfl
    | agg _ => rfl
@[go_sem ↓] theorem adZ {pre : List (G × List Nat)} {lu : List Nat} {jG rest : List G} : W k u (Un Γ pre lu jG rest σ) ↔ pre.all (fun g => !jA g.1.i || fresh σ (dB (g.1.dst.getD 999))) = true ∧ W (fun s => W (fun tm => RS (fun j => lK Γ true ⟨tm, σ.ob.filter (fun p => !(jG.flatMap (rG tm)).contains p.1)⟩ (pre.getD j default).1) lu ∧ W (fun ob => W (fun s => W k ⟨⟩ (BR Γ false rest s)) ⟨⟩ (some ⟨tm, ob⟩)) ⟨⟩ (Ji Γ tm jG s.ob)) ⟨⟩ (some (pick (s.tm.map (·.1)) s.tm))) ⟨⟩ (Mg Γ σ.ob pre σ) := by
  simp only [Un, dR, bB, bO, bJ, ← FP]
@[go_sem ↓] theorem Ut {qx : List (Nat × Ob)} : W k u (Mg Γ qx [] σ) ↔ k σ := gI
@[go_sem ↓] theorem RU {qx : List (Nat × Ob)} {g : G} {nk : List Nat} {l : List (G × List Nat)} : W k u (Mg Γ qx ((g, nk) :: l) σ) ↔ W (fun p => nk.any (fun k => qw k p.1 || (jA g.i && (p.2.ob.take 1).any (fun r => r.1 == k || lJ k r.2))) = false ∧ W (fun s => W k ⟨⟩ (Mg Γ qx l s)) ⟨⟩ (some ⟨rF g.dst σ.tm p.1, if jA g.i then p.2.ob.take 1 ++ σ.ob else σ.ob⟩)) ⟨⟩ (lK Γ true ⟨σ.tm, qx⟩ g) := by
  conv => lhs; unfold Mg
  simp only [dR, bB, dF, bJ, Bool.not_eq_true]
end
section
variable {k : List (Nat × Ob) → Prop} {u : Tok k} {tm : List (Nat × PV)} {ob : List (Nat × Ob)}
@[go_sem ↓] theorem Uu : W k u (Ji Γ tm [] ob) ↔ k ob := gI
@[go_sem ↓] theorem RV {n : Nat} {x y : d9} {dst : Option Nat} {gd : Option (Option Nat × Bool)} {l : List G} : W k u (Ji Γ tm (⟨dst, gd, .store n x y⟩ :: l) ob) ↔ W (fun v => W (fun _ => W (fun p => W k ⟨⟩ (Ji Γ tm l p.2.ob)) ⟨⟩ (cO Γ true ⟨tm, ob⟩ 999 (.store n x y))) ⟨⟩ (Hq v)) ⟨⟩ (val ⟨tm, ob⟩ x) := by
  conv => lhs; unfold Ji
  simp only
  cases hv : val ⟨tm, ob⟩ x with
  | none => simp only [uh]
  | some v =>
    rw [gI]
    cases v with
    | one y => cases y <;> simp only [Hq, dR, jU, bJ, bB]
    | agg xs => simp only [Hq, uh]
end
section
variable {i : Nat}
def vl : Option PV → Option CV
  | some (.c x) => some x
  | _ => none
@[go_sem] theorem ZI {x : CV} : vl (some (.c x)) = some x := rfl
@[go_sem] theorem Wd : val σ (.t i) = vl (get σ.tm i) := by simp only [val]; cases get σ.tm i with | none => rfl | some v => cases v <;> rfl
@[go_sem] theorem ad1 {x : CV} : val σ (.k x) = some x := rfl
@[go_sem] theorem acE : rD σ (.t i) = get σ.tm i := rfl
@[go_sem] theorem acF {x : CV} : rD σ (.k x) = some (.c x) := rfl
@[go_sem] theorem Wh {k : IntKind} {n : Int} : int? (.one (.f (.int k n))) = some (k, n) := rfl
@[go_sem] theorem RX {b : Bool} : bool? (.one (.f (.bool b))) = some b := rfl
@[go_sem] theorem Wi {k o : Nat} : Hq (.one (.ptr k o)) = some (k, o) := rfl
@[go_sem] theorem Wj {s : ByteArray} : qd (.one (.f (.str s))) = some s := rfl
@[go_sem] theorem Wm {l : List PL} : J7 (.agg l) = some l := rfl
@[go_sem] theorem cells_one {x : PL} : cells (.one x) = [x] := rfl
@[go_sem] theorem Uv {xs : List PL} : cells (.agg xs) = xs := rfl
def oc : Option Ob → Option (List PL)
  | some (.mR xs) => some xs
  | _ => none
def J9 : Option Ob → Option (Nat × List (List FV))
  | some (.row sz rows) => some (sz, rows)
  | _ => none
def om : Option Ob → Option (KS × List (KV × FC))
  | some (.map sh ents) => some (sh, ents)
  | _ => none
@[go_sem] theorem acG {xs : List PL} : oc (some (.mR xs)) = some xs := rfl
@[go_sem] theorem ZJ {sz : Nat} {rows : List (List FV)} : J9 (some (.row sz rows)) = some (sz, rows) := rfl
@[go_sem] theorem acH {sh : KS} {ents : List (KV × FC)} : om (some (.map sh ents)) = some (sh, ents) := rfl
def gb (want : Bool) : Option PV → Option Bool
  | some (.c (.one (.f (.bool b)))) => some (b == want)
  | some (.c (.one .und)) => some false
  | _ => none
@[go_sem] theorem ZK {b : Bool} : gb true (some (.c (.one (.f (.bool b))))) = some b := by cases b <;> rfl
@[go_sem] theorem Wn {b : Bool} : gb false (some (.c (.one (.f (.bool b))))) = some (!b) := by cases b <;> rfl
@[go_sem] theorem acI {w : Bool} : gb w (some (.c (.one .und))) = some false := rfl
@[go_sem] theorem Uw {v : PV} : rE σ (some i) v = ⟨put σ.tm i v, σ.ob⟩ := rfl
@[go_sem] theorem Ux {v : PV} : rE σ none v = σ := rfl
@[go_sem] theorem Uy {tm : List (Nat × PV)} {v : PV} : rF (some i) tm v = put tm i v := rfl
@[go_sem] theorem Uz {tm : List (Nat × PV)} {v : PV} : rF none tm v = tm := rfl
end
section
variable {α : Type} {n off : Nat} {x : α} {xs ys : List α}
@[go_sem] theorem Wo : seg 0 0 xs = some [] := by simp [seg]
@[go_sem] theorem Wp : seg (n + 1) 0 (x :: xs) = (seg n 0 xs).map (x :: ·) := by
  unfold seg
  simp only [Nat.zero_add, List.length_cons, Nat.add_le_add_iff_right, List.drop_zero, List.take_succ_cons]
  split <;> rfl
@[go_sem] theorem Wq : seg n (off + 1) (x :: xs) = seg n off xs := by
  unfold seg
  simp only [List.length_cons, List.drop_succ_cons]
  by_cases h : off + n ≤ xs.length
  · rw [if_pos h, if_pos (by omega)]
  · rw [if_neg h, if_neg (by omega)]
@[go_sem] theorem ZL : lay 0 ([] : List α) xs = some xs := by simp [lay]
@[go_sem] theorem ZM {y : α} : lay 0 (y :: ys) (x :: xs) = (lay 0 ys xs).map (y :: ·) := by
  unfold lay
  simp only [Nat.zero_add, List.length_cons, Nat.add_le_add_iff_right, List.take_zero, List.drop_succ_cons, List.nil_append, List.cons_append]
  split <;> rfl
@[go_sem] theorem Ws : lay (off + 1) ys (x :: xs) = (lay off ys xs).map (x :: ·) := by
  unfold lay
  simp only [List.length_cons, List.take_succ_cons]
  rw [show off + 1 + ys.length = off + ys.length + 1 from by omega]
  by_cases h : off + ys.length ≤ xs.length
  · rw [if_pos h, if_pos (by omega)]; rfl
  · rw [if_neg h, if_neg (by omega)]; rfl
end
@[go_sem] theorem acJ {xs : List PL} : mk true xs = some (.agg xs) := rfl
@[go_sem] theorem mk_one {x : PL} : mk false [x] = some (.one x) := rfl
def nV (σ : St) (key : Nat) : Option (List PL) := oc (get σ.ob key)
def iw (σ : St) (key : Nat) : Option (Nat × List (List FV)) := J9 (get σ.ob key)
def nL (σ : St) (key : Nat) : Option (KS × List (KV × FC)) := om (get σ.ob key)
attribute [go_sem] nV iw nL Option.map_some Option.map_none Option.bind_some Option.bind_none
def jV (σ : St) (n : Nat) : CV → Option (List PL)
  | .one (.ptr key off) => (nV σ key).bind (seg n off)
  | .one (.fp cs) => (seg n 0 cs).map (·.map .f)
  | .one (.rp key z i off) => (iw σ key).bind fun p => if p.1 ≠ z then none else p.2[i]?.bind fun r => (seg n off r).map (·.map .f)
  | _ => none
@[go_sem ↓] theorem PK {n key off : Nat} : jV σ n (.one (.ptr key off)) = (nV σ key).bind (seg n off) := rfl
@[go_sem] theorem RY {n : Nat} {cs : List FV} : jV σ n (.one (.fp cs)) = (seg n 0 cs).map (·.map .f) := rfl
section
variable {k : List PL → Prop} {u : Tok k}
@[go_sem ↓] theorem PN {n key off : Nat} : W k u (jV σ n (.one (.ptr key off))) ↔ W (fun xs => W k ⟨⟩ (seg n off xs)) ⟨⟩ (nV σ key) := Et
@[go_sem ↓] theorem RZ {n : Nat} {cs : List FV} : W k u (jV σ n (.one (.fp cs))) ↔ W (fun l => k (l.map .f)) ⟨⟩ (seg n 0 cs) := J2
@[go_sem ↓] theorem R3 {n key z i off : Nat} : W k u (jV σ n (.one (.rp key z i off))) ↔ W (fun p => p.1 = z ∧ W (fun r => W (fun l => k (l.map .f)) ⟨⟩ (seg n off r)) ⟨⟩ (p.2[i]?)) ⟨⟩ (iw σ key) := by
  simp only [jV, dR, bB, bY, dF, ne_eq, Decidable.not_not]
end
section
variable {k : PV × St → Prop} {u : Tok k} {x y c : d9}
@[go_sem ↓] theorem acK {dst : Option Nat} {i : I} : W k u (lK Γ q σ ⟨dst, none, i⟩) ↔ W k u (cO Γ q σ (dst.getD 999) i) := Iff.rfl
@[go_sem ↓] theorem UA {dst : Option Nat} {s : Nat} {want : Bool} {i : I} : W k u (lK Γ q σ ⟨dst, some (some s, want), i⟩) ↔ W (fun w => Br w (fun _ => W k ⟨⟩ (cO Γ q σ (dst.getD 999) i)) (fun _ => k (.c (.one .und), σ)) ⟨⟩) ⟨⟩ (gb want (get σ.tm s)) := by
  have h : yF σ (some (some s, want)) = gb want (get σ.tm s) := by
    simp only [yF]
    cases get σ.tm s with
    | none => rfl
    | some v =>
      cases v with
      | tO l => rfl
      | c x =>
        cases x with
        | agg l => rfl
        | one p =>
          cases p with
          | f z => cases z <;> rfl
          | _ => rfl
  simp only [lK, dR, bB, h]
  refine dG fun t => ?_
  cases t <;> simp [bJ, Br, dR]
@[go_sem ↓] theorem afS : W k u (cO Γ q σ d (.mv x)) ↔ W (fun v => k (v, σ)) ⟨⟩ (rD σ x) := by simp only [cO]; exact J2
@[go_sem ↓] theorem acL : W k u (cO Γ q σ d (.pick c x y)) ↔ W (fun v => W (fun t => Br t (fun _ => W (fun z => k (.c z, σ)) ⟨⟩ (val σ x)) (fun _ => W (fun z => k (.c z, σ)) ⟨⟩ (val σ y)) ⟨⟩) ⟨⟩ (bool? v)) ⟨⟩ (val σ c) := by
  simp only [cO, dR, bB, bY]
  refine dG fun v => dG fun t => ?_
  cases t <;> simp [Br, dR]
@[go_sem ↓] theorem ZN {e : TypeId} {z : List PL} : W k u (cO Γ q σ d (.alloc e z)) ↔ z.any (dW (dB d)) = false ∧ W (fun s => k (.c (.one (.ptr (dB d) 0)), s)) ⟨⟩ (new σ (dB d) (.mR z)) := by
  simp only [cO, dR, dF, gY, bY, Bool.not_eq_true]
@[go_sem ↓] theorem ad2 {e : TypeId} : W k u (cO Γ q σ d (.box e x)) ↔ W (fun v => ((cells v).any nZ || (cells v).any (dW (dB d))) = false ∧ W (fun s => k (.c (.one (.ptr (dB d) 0)), s)) ⟨⟩ (new σ (dB d) (.mR (cells v)))) ⟨⟩ (val σ x) := by
  simp only [cO, dR, bB, dF, gY, bY, Bool.not_eq_true]
@[go_sem ↓] theorem ZO {z : List PL} {ps : List (Nat × Nat × d9)} : W k u (cO Γ q σ d (.build z ps)) ↔ W (fun l => W (fun z => k (.c (.agg z), σ)) ⟨⟩ (fill z l)) ⟨⟩ (vals σ ps) := by
  simp only [cO, dR, bB, bY]
@[go_sem ↓] theorem ad3 {e : TypeId} {sz len : Nat} {z : List PL} {ps : List (Nat × Nat × d9)} : W k u (cO Γ q σ d (.Fg e sz len z ps)) ↔ W (fun l => W (fun z => (q && z.any gu) = false ∧ W (fun p => W (fun s => k (.c (.one (.own (dB d) len)), s)) ⟨⟩ (new p.2 (dB d) (.row sz (rowsOf sz len p.1)))) ⟨⟩ (kE σ z)) ⟨⟩ (fill z l)) ⟨⟩ (vals σ ps) := by
  simp only [cO, dR, bB, dF, gY, bY, Bool.not_eq_true]
@[go_sem ↓] theorem acM {n : Nat} {agg : Bool} : W k u (cO Γ q σ d (.load n agg x)) ↔ W (fun v => W (fun l => W (fun z => k (.c z, σ)) ⟨⟩ (mk agg l)) ⟨⟩ (jV σ n v)) ⟨⟩ (val σ x) := by
  have h : cO Γ q σ d (.load n agg x) = (val σ x).bind fun v => (jV σ n v).bind fun l => (mk agg l).map fun z => (.c z, σ) := by
    simp only [cO]
    congr 1
    funext v
    cases v with
    | agg l => rfl
    | one p =>
      cases p with
      | ptr key off => simp only [jV, nV]; cases get σ.ob key with | none => rfl | some o => cases o <;> rfl
      | fp cs => simp only [jV]; cases seg n 0 cs <;> rfl
      | rp key z i off =>
        simp only [jV, iw]
        cases get σ.ob key with
        | none => rfl
        | some o =>
          cases o with
          | row sz rows =>
            simp only [J9, Option.bind_some]
            split
            · rfl
            · cases rows[i]? with
              | none => rfl
              | some r => simp only [Option.bind_some]; cases seg n off r <;> rfl
          | _ => rfl
      | _ => rfl
  rw [h]
  simp only [dR, bB, bY]
def CO (q : Bool) (σ : St) (ys : List PL) : CV → Option St
  | .one (.ptr key off) => (nV σ key).bind fun xs => (lay off ys xs).map fun l => jc σ key (.mR l)
  | .one (.rp key z i off) => if q && ys.any gu then none else (kE σ ys).bind fun p => (iw p.2 key).bind fun o => if o.1 ≠ z then none else o.2[i]?.bind fun r => (lay off p.1 r).map fun l => jc p.2 key (.row o.1 (o.2.set i l))
  | _ => none
@[go_sem ↓] theorem ZP {n : Nat} : W k u (cO Γ q σ d (.store n x y)) ↔ W (fun v => W (fun z => ((cells z).length = n ∧ (cells z).any nZ = false) ∧ W (fun s => k (.c (.one .und), s)) ⟨⟩ (CO q σ (cells z) v)) ⟨⟩ (val σ y)) ⟨⟩ (val σ x) := by
  have h : cO Γ q σ d (.store n x y) = (val σ x).bind fun v => (val σ y).bind fun z => if (cells z).length = n ∧ (cells z).any nZ = false then (CO q σ (cells z) v).map fun s => (.c (.one .und), s) else none := by
    simp only [cO]
    congr 1
    funext v
    congr 1
    funext z
    split
    · cases v with
      | agg l => rfl
      | one p =>
        cases p with
        | ptr key off =>
          simp only [CO, nV]
          cases get σ.ob key with
          | none => rfl
          | some o => cases o <;> first | rfl | (simp only [oc, Option.bind_some, Option.map_map]; rfl)
        | rp key zz i off =>
          simp only [CO, iw]
          split
          · rfl
          · cases kE σ (cells z) with
            | none => rfl
            | some p =>
              simp only [Option.bind_some]
              cases get p.2.ob key with
              | none => rfl
              | some o =>
                cases o with
                | row sz rows =>
                  simp only [J9, Option.bind_some]
                  split
                  · rfl
                  · cases rows[i]? with
                    | none => rfl
                    | some r => simp only [Option.bind_some, Option.map_map]; rfl
                | _ => rfl
        | _ => rfl
    · rfl
  rw [h]
  simp only [dR, bB, bO, bY]
end
section
variable {k : St → Prop} {u : Tok k}
@[go_sem ↓] theorem R4 {ys : List PL} {key off : Nat} : W k u (CO q σ ys (.one (.ptr key off))) ↔ W (fun xs => W (fun l => k (jc σ key (.mR l))) ⟨⟩ (lay off ys xs)) ⟨⟩ (nV σ key) := by
  simp only [CO, dR, bB, bY]
@[go_sem ↓] theorem UC {ys : List PL} {key z i off : Nat} : W k u (CO q σ ys (.one (.rp key z i off))) ↔ (q && ys.any gu) = false ∧ W (fun p => W (fun o => o.1 = z ∧ W (fun r => W (fun l => k (jc p.2 key (.row o.1 (o.2.set i l)))) ⟨⟩ (lay off p.1 r)) ⟨⟩ (o.2[i]?)) ⟨⟩ (iw p.2 key)) ⟨⟩ (kE σ ys) := by
  simp only [CO, dR, dF, bB, bY, ne_eq, Decidable.not_not, Bool.not_eq_true]
end
end
end Go.Proofs.Ytdkkgecdhapfhaa.Ev
namespace Go.Proofs.Ytdkkgecdhapfhaa.Ev
open Go
section
variable {Γ : Env} {F d : Nat} {q : Bool} {σ : St} {k : PV × St → Prop} {u : Tok k} {x y z : d9}
def MR : CV → Option CV
  | .one (.ptr k o) => some (.one (.ptr k o))
  | .one (.fp cs) => some (.one (.fp cs))
  | .one (.rp k z i o) => some (.one (.rp k z i o))
  | _ => none
@[go_sem] theorem Wt {k o : Nat} : MR (.one (.ptr k o)) = some (.one (.ptr k o)) := rfl
@[go_sem] theorem ZR {cs : List FV} : MR (.one (.fp cs)) = some (.one (.fp cs)) := rfl
@[go_sem] theorem ZT {k z i o : Nat} : MR (.one (.rp k z i o)) = some (.one (.rp k z i o)) := rfl
@[go_sem ↓] theorem acN : W k u (cO Γ q σ d (.kV x)) ↔ W (fun v => W (fun w => k (.c w, σ)) ⟨⟩ (MR v)) ⟨⟩ (val σ x) := by
  simp only [cO, dR, bB]
  refine dG fun v => ?_
  cases v with
  | agg l => exact bZ
  | one p => cases p <;> first | exact bZ | exact kX Iff.rfl
def Wu : CV → Option Bool
  | .one .iO => some true
  | .one (.ptr _ _) => some false
  | .one (.fp _) => some false
  | .one (.rp _ _ _ _) => some false
  | _ => none
@[go_sem] theorem ZU : Wu (.one .iO) = some true := rfl
@[go_sem] theorem ZV {k o : Nat} : Wu (.one (.ptr k o)) = some false := rfl
@[go_sem] theorem acO {cs : List FV} : Wu (.one (.fp cs)) = some false := rfl
@[go_sem] theorem acP {k z i o : Nat} : Wu (.one (.rp k z i o)) = some false := rfl
@[go_sem ↓] theorem acQ {neg : Bool} : W k u (cO Γ q σ d (.mU neg x)) ↔ W (fun v => W (fun b => k (.c (.one (.f (.bool (if neg then !b else b)))), σ)) ⟨⟩ (Wu v)) ⟨⟩ (val σ x) := by
  simp only [cO, dR, bB]
  refine dG fun v => ?_
  cases v with
  | agg l => exact bZ
  | one p => cases p <;> first | exact bZ | (cases neg <;> exact kX Iff.rfl)
@[go_sem ↓] theorem afT {off : Nat} : W k u (cO Γ q σ d (.fa off x)) ↔ W (fun v => W (fun w => k (.c w, σ)) ⟨⟩ (Zz off v)) ⟨⟩ (val σ x) := by
  simp only [cO, dR, bB]
  refine dG fun v => ?_
  cases v with
  | agg l => exact bZ
  | one p => cases p <;> first | exact bZ | exact kX Iff.rfl
@[go_sem ↓] theorem afU {o : Ar} : W k u (cO Γ q σ d (.ar o x y)) ↔ W (fun a => W (fun b => W (fun a => W (fun b => a.1 = b.1 ∧ W (fun n => k (.c (.one (.f (.int a.1 n))), σ)) ⟨⟩ (I4 o a.1 a.2 b.2)) ⟨⟩ (int? b)) ⟨⟩ (int? a)) ⟨⟩ (val σ y)) ⟨⟩ (val σ x) := by
  simp only [cO, dR, bB, bO, one, bJ]
@[go_sem ↓] theorem ad4 {o : Ui} : W k u (cO Γ q σ d (.cmp o x y)) ↔ W (fun a => W (fun b => W (fun a => W (fun b => a.1 = b.1 ∧ k (.c (.one (.f (.bool (wh o a.2 b.2)))), σ)) ⟨⟩ (int? b)) ⟨⟩ (int? a)) ⟨⟩ (val σ y)) ⟨⟩ (val σ x) := by
  simp only [cO, dR, bB, bO, one, bJ]
@[go_sem] theorem ZW {k : IntKind} {a b : Int} : I4 .add k a b = some (k.wrap (a + b)) := rfl
@[go_sem] theorem ZX {k : IntKind} {a b : Int} : I4 .sub k a b = some (k.wrap (a - b)) := rfl
@[go_sem] theorem ZY {k : IntKind} {a b : Int} : I4 .mul k a b = some (k.wrap (a * b)) := rfl
section
variable {k : Int → Prop} {u : Tok k} {kk : IntKind} {a b : Int}
@[go_sem ↓] theorem ad5 : W k u (I4 .quo kk a b) ↔ ¬ b = 0 ∧ k (kk.wrap (a.tdiv b)) := by simp only [I4, dR, dF, bJ]
@[go_sem ↓] theorem ad6 : W k u (I4 .rem kk a b) ↔ ¬ b = 0 ∧ k (a.tmod b) := by simp only [I4, dR, dF, bJ]
end
section
variable {a b : Int}
@[go_sem] theorem Z0 : wh .eq a b = decide (a = b) := rfl
@[go_sem] theorem Z4 : wh .ne a b = !decide (a = b) := rfl
@[go_sem] theorem Z5 : wh .lt a b = decide (a < b) := rfl
@[go_sem] theorem Z6 : wh .le a b = decide (a ≤ b) := rfl
@[go_sem] theorem Z7 : wh .gt a b = decide (b < a) := rfl
@[go_sem] theorem Z8 : wh .ge a b = decide (b ≤ a) := rfl
end
@[go_sem ↓] theorem ad7 {sh : KS} {neg : Bool} : W k u (cO Γ q σ d (.tQ sh neg x y)) ↔ W (fun a => W (fun b => W (fun a => W (fun b => (a.ks = sh ∧ b.ks = sh) ∧ k (.c (.one (.f (.bool (if neg then !decide (a = b) else decide (a = b))))), σ)) ⟨⟩ (keyOf b)) ⟨⟩ (keyOf a)) ⟨⟩ (val σ y)) ⟨⟩ (val σ x) := by
  simp only [cO, dR, bB, bO, one, bJ]
@[go_sem ↓] theorem ad8 : W k u (cO Γ q σ d (.cat x y)) ↔ W (fun a => W (fun b => W (fun a => W (fun b => a.size + b.size ≤ 9223372036854775807 ∧ k (.c (.one (.f (.str (a ++ b)))), σ)) ⟨⟩ (qd b)) ⟨⟩ (qd a)) ⟨⟩ (val σ y)) ⟨⟩ (val σ x) := by
  simp only [cO, dR, bB]
  refine dG fun v => dG fun w => ?_
  have no : V k none ↔ False := jU
  have nb : ∀ {g : ByteArray → Prop}, V g none ↔ False := jU
  have nn : ∀ {x : Option ByteArray}, V (fun _ : ByteArray => False) x ↔ False := by intro x; cases x <;> simp [V]
  cases v with
  | agg l => simp only [qd, no, nb]
  | one p =>
    cases p with
    | f a =>
      cases a with
      | str s =>
        cases w with
        | agg l => simp only [qd, no, nb, bJ]
        | one p =>
          cases p with
          | f b =>
            cases b with
            | str t => simp only [qd, bJ, bO, one]
            | _ => simp only [qd, no, nb, bJ]
          | _ => simp only [qd, no, nb, bJ]
      | _ => simp only [qd, no, nb]
    | _ => simp only [qd, no, nb]
@[go_sem ↓] theorem afV : W k u (cO Γ q σ d (.no x)) ↔ W (fun v => W (fun b => k (.c (.one (.f (.bool (!b)))), σ)) ⟨⟩ (bool? v)) ⟨⟩ (val σ x) := by
  simp only [cO, dR, bB, one, bJ]
@[go_sem ↓] theorem afW {kk : IntKind} : W k u (cO Γ q σ d (.ci kk x)) ↔ W (fun v => W (fun a => k (.c (.one (.f (.int kk (kk.wrap a.2)))), σ)) ⟨⟩ (int? v)) ⟨⟩ (val σ x) := by
  simp only [cO, dR, bB, one, bJ]
@[go_sem ↓] theorem ad9 : W k u (cO Γ q σ d (.mV x)) ↔ W (fun v => W (fun s => k (.c (.one (.f (.str s))), σ)) ⟨⟩ (qd v)) ⟨⟩ (val σ x) := by
  simp only [cO, dR, bB]
  refine dG fun v => ?_
  cases v with
  | agg l => exact bZ
  | one p => cases p with
    | f a => cases a <;> first | exact bZ | exact kX Iff.rfl
    | _ => exact bZ
@[go_sem ↓] theorem Z9 {sh : KS} : W k u (cO Γ q σ d (.q9 sh)) ↔ W (fun s => k (.c (.one (.mp (dB d))), s)) ⟨⟩ (new σ (dB d) (.map sh [])) := by
  simp only [cO, gY, dR, bY]
@[go_sem ↓] theorem afX : W k u (cO Γ q σ d (.mn x y)) ↔ W (fun a => W (fun b => W (fun a => W (fun b => a.1 = b.1 ∧ k (.c (.one (.f (.int a.1 (if b.2 < a.2 then b.2 else a.2)))), σ)) ⟨⟩ (int? b)) ⟨⟩ (int? a)) ⟨⟩ (val σ y)) ⟨⟩ (val σ x) := by
  simp only [cO, dR, bB, bO, one, bJ]
@[go_sem ↓] theorem afY : W k u (cO Γ q σ d (.mx x y)) ↔ W (fun a => W (fun b => W (fun a => W (fun b => a.1 = b.1 ∧ k (.c (.one (.f (.int a.1 (if a.2 < b.2 then b.2 else a.2)))), σ)) ⟨⟩ (int? b)) ⟨⟩ (int? a)) ⟨⟩ (val σ y)) ⟨⟩ (val σ x) := by
  simp only [cO, dR, bB, bO, one, bJ]
@[go_sem ↓] theorem aea {o : BinOp} : W k u (cO Γ q σ d (.bit o x y)) ↔ W (fun a => W (fun b => W (fun a => W (fun b => a.1 = b.1 ∧ k (.c (.one (.f (.int a.1 (Go.bits o a.1 a.2 b.2)))), σ)) ⟨⟩ (int? b)) ⟨⟩ (int? a)) ⟨⟩ (val σ y)) ⟨⟩ (val σ x) := by
  simp only [cO, dR, bB, bO, one, bJ]
@[go_sem ↓] theorem aeb {l : Bool} : W k u (cO Γ q σ d (.QS l x y)) ↔ W (fun a => W (fun b => W (fun a => W (fun b => 0 ≤ b.2 ∧ k (.c (.one (.f (.int a.1 (if l then a.1.wrap (a.2 * 2 ^ (min b.2.toNat a.1.bits)) else a.2.fdiv (2 ^ (min b.2.toNat a.1.bits)))))), σ)) ⟨⟩ (int? b)) ⟨⟩ (int? a)) ⟨⟩ (val σ y)) ⟨⟩ (val σ x) := by
  simp only [cO, dR, bB, bO, one, bJ]
@[go_sem ↓] theorem acR {lo hi : Option d9} : W k u (cO Γ q σ d (.GV x lo hi)) ↔ W (fun v => W (fun s => W (fun p => k (.c (.one (.f (.str (s.extract p.1 p.2)))), σ)) ⟨⟩ (rng s.size σ lo hi)) ⟨⟩ (qd v)) ⟨⟩ (val σ x) := by
  simp only [cO, dR, bB]
  refine dG fun v => ?_
  cases v with
  | agg l => exact bZ
  | one p => cases p with
    | f a =>
      cases a with
      | str s => simp only [qd, bJ, bB, one]
      | _ => exact bZ
    | _ => exact bZ
section
variable {k : Nat × Nat → Prop} {u : Tok k} {len : Nat} {lo hi : Option d9}
@[go_sem ↓] theorem aec : W k u (rng len σ lo hi) ↔ W (fun h => W (fun l => k (l, h)) ⟨⟩ (bnd σ h lo 0)) ⟨⟩ (bnd σ len hi len) := by
  simp only [rng, dR, bB, bY]
end
section
variable {k : Nat → Prop} {u : Tok k} {len dd : Nat}
@[go_sem ↓] theorem R5 : W k u (bnd σ len none dd) ↔ k dd := gI
@[go_sem ↓] theorem R6 : W k u (bnd σ len (some x) dd) ↔ W (fun v => W (fun p => (0 ≤ p.2 ∧ p.2 ≤ (len : Int)) ∧ k p.2.toNat) ⟨⟩ (int? v)) ⟨⟩ (val σ x) := by
  simp only [bnd, dR, bB, bO, bJ]
end
def CP (q : Bool) (σ : St) (sz : Nat) (lo hi : Option d9) : CV → Option (PV × St)
  | .one (.f (.sl rows)) => if rows.all (fun r => r.length == sz) = false then none else (rng rows.length σ lo hi).bind fun p => one (.sl ((rows.drop p.1).take (p.2 - p.1))) σ
  | .one .fG => (rng 0 σ lo hi).bind fun p => one (.sl []) σ
  | .one (.own key _) => (iw σ key).bind fun o => if o.1 ≠ sz then none else (rng o.2.length σ lo hi).bind fun p => if q then none else (yA σ key).bind fun s => one (.sl ((o.2.drop p.1).take (p.2 - p.1))) s
  | _ => none
@[go_sem ↓] theorem aed {sz : Nat} {lo hi : Option d9} : W k u (cO Γ q σ d (.cut sz x lo hi)) ↔ W (fun v => W k ⟨⟩ (CP q σ sz lo hi v)) ⟨⟩ (val σ x) := by
  simp only [cO, dR, bB]
  refine dG fun v => ?_
  cases v with
  | agg l => exact Iff.rfl
  | one p => cases p with
    | f a => cases a <;> exact Iff.rfl
    | own key n => simp only [CP, iw]; cases get σ.ob key with | none => exact Iff.rfl | some o => cases o <;> exact Iff.rfl
    | _ => exact Iff.rfl
@[go_sem ↓] theorem Wv {sz : Nat} {lo hi : Option d9} {rows : List (List FV)} : W k u (CP q σ sz lo hi (.one (.f (.sl rows)))) ↔ rows.all (fun r => r.length == sz) = true ∧ W (fun p => k (.c (.one (.f (.sl ((rows.drop p.1).take (p.2 - p.1))))), σ)) ⟨⟩ (rng rows.length σ lo hi) := by
  simp only [CP, dR, bB, dF, one, bJ, Bool.not_eq_false]
@[go_sem ↓] theorem Ww {sz : Nat} {lo hi : Option d9} : W k u (CP q σ sz lo hi (.one .fG)) ↔ W (fun p => k (.c (.one (.f (.sl []))), σ)) ⟨⟩ (rng 0 σ lo hi) := by
  simp only [CP, dR, bB, one, bJ]
@[go_sem ↓] theorem Wx {sz key n : Nat} {lo hi : Option d9} : W k u (CP q σ sz lo hi (.one (.own key n))) ↔ W (fun o => o.1 = sz ∧ W (fun p => q = false ∧ W (fun s => k (.c (.one (.f (.sl ((o.2.drop p.1).take (p.2 - p.1))))), s)) ⟨⟩ (yA σ key)) ⟨⟩ (rng o.2.length σ lo hi)) ⟨⟩ (iw σ key) := by
  simp only [CP, dR, bB, dF, one, bJ, ne_eq, Decidable.not_not, Bool.not_eq_true]
@[go_sem ↓] theorem aee {off n : Nat} {agg : Bool} : W k u (cO Γ q σ d (.Ma off n agg x)) ↔ W (fun v => W (fun l => W (fun l => W (fun z => k (.c z, σ)) ⟨⟩ (mk agg l)) ⟨⟩ (seg n off l)) ⟨⟩ (J7 v)) ⟨⟩ (val σ x) := by
  simp only [cO, dR, bB]
  refine dG fun v => ?_
  cases v with
  | agg l => simp only [J7, bJ, bB, bY]
  | one p => exact bZ
def R7 (σ : St) (sz : Nat) (i : Int) : CV → Option PL
  | .one (.f (.sl rows)) => rows[i.toNat]?.bind fun r => if r.length = sz then some (.fp r) else none
  | .one (.own key n) => (iw σ key).bind fun o => if o.1 = sz ∧ i < n ∧ n = o.2.length then some (.rp key sz i.toNat 0) else none
  | _ => none
@[go_sem ↓] theorem afZ {sz : Nat} : W k u (cO Γ q σ d (.ia sz x y)) ↔ W (fun v => W (fun j => W (fun p => 0 ≤ p.2 ∧ W (fun l => k (.c (.one l), σ)) ⟨⟩ (R7 σ sz p.2 v)) ⟨⟩ (int? j)) ⟨⟩ (val σ y)) ⟨⟩ (val σ x) := by
  simp only [cO, dR, bB, bO]
  refine dG fun v => dG fun j => dG fun p => and_congr Iff.rfl ?_
  cases v with
  | agg l => exact bZ
  | one a =>
    cases a with
    | f a =>
      cases a with
      | sl rows => simp only [R7, bB, bO, bJ]
      | _ => exact bZ
    | own key n =>
      simp only [R7, iw]
      cases get σ.ob key with
      | none => exact bZ
      | some o =>
        cases o with
        | row sz' rows => simp only [J9, Option.bind_some, bO, bJ]
        | _ => exact bZ
    | _ => exact bZ
section
variable {k : PL → Prop} {u : Tok k} {sz : Nat} {i : Int}
@[go_sem ↓] theorem aac {rows : List (List FV)} : W k u (R7 σ sz i (.one (.f (.sl rows)))) ↔ W (fun r => r.length = sz ∧ k (.fp r)) ⟨⟩ (rows[i.toNat]?) := by
  simp only [R7, dR, bB, bO, bJ]
@[go_sem ↓] theorem aad {key n : Nat} : W k u (R7 σ sz i (.one (.own key n))) ↔ W (fun o => (o.1 = sz ∧ i < n ∧ n = o.2.length) ∧ k (.rp key sz i.toNat 0)) ⟨⟩ (iw σ key) := by
  simp only [R7, dR, bB, bO, bJ]
end
@[go_sem ↓] theorem aef {sz len : Nat} {agg : Bool} : W k u (cO Γ q σ d (.idx sz len agg x y)) ↔ W (fun v => W (fun j => W (fun p => (0 ≤ p.2 ∧ p.2 < (len : Int)) ∧ W (fun l => W (fun l => W (fun z => k (.c z, σ)) ⟨⟩ (mk agg l)) ⟨⟩ (seg sz (p.2.toNat * sz) l)) ⟨⟩ (J7 v)) ⟨⟩ (int? j)) ⟨⟩ (val σ y)) ⟨⟩ (val σ x) := by
  simp only [cO, dR, bB, bO]
  refine dG fun v => dG fun j => dG fun p => and_congr Iff.rfl ?_
  cases v with
  | agg l => simp only [J7, bJ, bB, bY]
  | one p => exact bZ
@[go_sem ↓] theorem aeg : W k u (cO Γ q σ d (.chr x y)) ↔ W (fun v => W (fun j => W (fun p => W (fun s => 0 ≤ p.2 ∧ W (fun b => k (.c (.one (.f (.int .u8 b.toNat))), σ)) ⟨⟩ (s.data[p.2.toNat]?)) ⟨⟩ (qd v)) ⟨⟩ (int? j)) ⟨⟩ (val σ y)) ⟨⟩ (val σ x) := by
  simp only [cO, dR, bB]
  refine dG fun v => dG fun j => dG fun p => ?_
  cases v with
  | agg l => exact bZ
  | one p => cases p with
    | f a =>
      cases a with
      | str s => simp only [qd, bJ, bO, bB, one]
      | _ => exact bZ
    | _ => exact bZ
@[go_sem ↓] theorem aeh {i : Nat} : W k u (cO Γ q σ d (.ext x i)) ↔ W (fun v => W (fun l => W (fun w => k (.c w, σ)) ⟨⟩ (l[i]?)) ⟨⟩ (RL v)) ⟨⟩ (rD σ x) := by
  simp only [cO, dR]
  cases rD σ x with
  | none => exact bZ
  | some v =>
    rw [bJ]
    cases v with
    | c y => exact bZ
    | tO l => simp only [RL, bJ, bY]
@[go_sem ↓] theorem acS : W k u (cO Γ q σ d (.BP x)) ↔ W (fun v => W (fun s => k (.c (.one (.f (.int .i64 s.size))), σ)) ⟨⟩ (qd v)) ⟨⟩ (val σ x) := by
  simp only [cO, dR, bB]
  refine dG fun v => ?_
  cases v with
  | agg l => exact bZ
  | one p => cases p with
    | f a => cases a <;> first | exact bZ | exact kX Iff.rfl
    | _ => exact bZ
def MS (σ : St) : CV → Option Nat
  | .one .fu => some 0
  | .one (.mp key) => (nL σ key).map fun o => o.2.length
  | _ => none
@[go_sem] theorem Wy : MS σ (.one .fu) = some 0 := rfl
@[go_sem] theorem aae {key : Nat} : MS σ (.one (.mp key)) = (nL σ key).map fun o => o.2.length := rfl
def MU : CV → Option Nat
  | .one (.f (.sl rows)) => some rows.length
  | .one .fG => some 0
  | .one (.own _ n) => some n
  | _ => none
@[go_sem] theorem acT {rows : List (List FV)} : MU (.one (.f (.sl rows))) = some rows.length := rfl
@[go_sem] theorem acU : MU (.one .fG) = some 0 := rfl
@[go_sem] theorem acV {k n : Nat} : MU (.one (.own k n)) = some n := rfl
@[go_sem ↓] theorem acW : W k u (cO Γ q σ d (.jF x)) ↔ W (fun v => W (fun n : Nat => k (.c (.one (.f (.int .i64 (n : Int)))), σ)) ⟨⟩ (MU v)) ⟨⟩ (val σ x) := by
  simp only [cO, dR, bB]
  refine dG fun v => ?_
  cases v with
  | agg l => exact bZ
  | one p => cases p with
    | f a => cases a <;> first | exact bZ | exact kX Iff.rfl
    | _ => first | exact bZ | exact kX Iff.rfl
@[go_sem ↓] theorem acX {neg : Bool} : W k u (cO Γ q σ d (.zZ neg x)) ↔ W (fun v => W (fun b => k (.c (.one (.f (.bool (if neg then !b else b)))), σ)) ⟨⟩ (RN v)) ⟨⟩ (val σ x) := by
  simp only [cO, dR, bB]
  refine dG fun v => ?_
  cases v with
  | agg l => exact bZ
  | one p => cases p with
    | f a =>
      cases a with
      | sl rows => cases rows <;> first | exact bZ | (cases neg <;> exact kX Iff.rfl)
      | _ => exact bZ
    | fG => cases neg <;> exact kX Iff.rfl
    | _ => exact bZ
end
end Go.Proofs.Ytdkkgecdhapfhaa.Ev
namespace Go.Proofs.Ytdkkgecdhapfhaa.Ev
open Go
section
variable {Γ : Env} {F d : Nat} {q : Bool} {σ : St} {k : PV × St → Prop} {u : Tok k} {x y z : d9}
def Ke (σ : St) (sh : KS) : CV → Option (Option (Nat × List (KV × FC)))
  | .one .fu => some none
  | .one (.mp key) => (nL σ key).bind fun o => if o.1 = sh then some (some (key, o.2)) else none
  | _ => none
@[go_sem] theorem Wz {sh : KS} : Ke σ sh (.one .fu) = some none := rfl
section
variable {k : Option (Nat × List (KV × FC)) → Prop} {u : Tok k}
@[go_sem ↓] theorem acY {sh : KS} {key : Nat} : W k u (Ke σ sh (.one (.mp key))) ↔ W (fun o => o.1 = sh ∧ k (some (key, o.2))) ⟨⟩ (nL σ key) := by
  simp only [Ke, dR, bB, bO, bJ]
end
def rH (m : Option (Nat × List (KV × FC))) (a : KV) : Option FC := m.bind fun m => BQ m.2 a
def cnt (m : Option (Nat × List (KV × FC))) : Nat := match m with
  | none => 0
  | some m => m.2.length
@[go_sem] theorem WA {a : KV} : rH none a = none := rfl
@[go_sem] theorem WB {key : Nat} {l : List (KV × FC)} {a : KV} : rH (some (key, l)) a = BQ l a := rfl
@[go_sem] theorem WC : cnt none = 0 := rfl
@[go_sem] theorem WE {key : Nat} {l : List (KV × FC)} : cnt (some (key, l)) = l.length := rfl
def lkv (z : FC) (ok : Bool) (r : Option FC) : PV := if ok then .tO [vZ (r.getD z), .one (.f (.bool r.isSome))] else .c (vZ (r.getD z))
@[go_sem] theorem acZ {z : FC} {r : Option FC} : lkv z true r = .tO [vZ (r.getD z), .one (.f (.bool r.isSome))] := rfl
@[go_sem] theorem ac0 {z : FC} {r : Option FC} : lkv z false r = .c (vZ (r.getD z)) := rfl
@[go_sem] theorem WG {x : FV} : vZ (.one x) = .one (.f x) := rfl
@[go_sem] theorem WH {xs : List FV} : vZ (.agg xs) = .agg (xs.map .f) := rfl
@[go_sem ↓] theorem ac1 {sh : KS} {z : FC} {ok : Bool} : W k u (cO Γ q σ d (.look sh z ok x y)) ↔ W (fun v => W (fun w => W (fun a => a.ks = sh ∧ W (fun m => k (lkv z ok (rH m a), σ)) ⟨⟩ (Ke σ sh v)) ⟨⟩ (keyOf w)) ⟨⟩ (val σ y)) ⟨⟩ (val σ x) := by
  simp only [cO, dR, bB, dF, bY, ne_eq, Decidable.not_not]
  refine dG fun v => dG fun w => dG fun a => and_congr Iff.rfl ?_
  cases v with
  | agg l => exact bZ
  | one p =>
    cases p with
    | fu => exact kX Iff.rfl
    | mp key =>
      simp only [Ke, nL]
      cases get σ.ob key with
      | none => exact bZ
      | some o =>
        cases o with
        | map sh' ents =>
          simp only [om, Option.bind_some]
          by_cases hs : sh' = sh
          · rw [if_pos hs, if_pos hs]; exact kX (by cases ok <;> exact Iff.rfl)
          · rw [if_neg hs, if_neg hs]; exact bZ
        | _ => exact bZ
    | _ => exact bZ
@[go_sem ↓] theorem ac2 : W k u (cO Γ q σ d (.GX x)) ↔ W (fun v => W (fun n : Nat => k (.c (.one (.f (.int .i64 (n : Int)))), σ)) ⟨⟩ (MS σ v)) ⟨⟩ (val σ x) := by
  simp only [cO, dR, bB]
  refine dG fun v => ?_
  cases v with
  | agg l => exact bZ
  | one p =>
    cases p with
    | fu => exact kX Iff.rfl
    | mp key =>
      simp only [MS, nL]
      cases get σ.ob key with
      | none => exact bZ
      | some o => cases o <;> first | exact bZ | exact kX Iff.rfl
    | _ => exact bZ
def upv (σ : St) (sh : KS) (a : KV) (p : FC × St) : CV → Option St
  | .one (.mp key) => (nL p.2 key).bind fun o => if o.1 = sh then some (jc p.2 key (.map sh (D9 o.2 a p.1))) else none
  | _ => none
@[go_sem ↓] theorem ac3 {sh : KS} : W k u (cO Γ q σ d (.zY sh x y z)) ↔ W (fun v => W (fun w => W (fun a => a.ks = sh ∧ W (fun w => (q && (cells w).any gu) = false ∧ W (fun p => W (fun s => k (.c (.one .und), s)) ⟨⟩ (upv σ sh a p v)) ⟨⟩ (Ul σ w)) ⟨⟩ (val σ z)) ⟨⟩ (keyOf w)) ⟨⟩ (val σ y)) ⟨⟩ (val σ x) := by
  simp only [cO, dR, bB, dF, ne_eq, Decidable.not_not, Bool.not_eq_true]
  refine dG fun v => dG fun w => dG fun a => and_congr Iff.rfl (dG fun w => and_congr Iff.rfl (dG fun p => ?_))
  cases v with
  | agg l => exact bZ
  | one b =>
    cases b with
    | mp key =>
      simp only [upv, nL]
      cases get p.2.ob key with
      | none => exact bZ
      | some o =>
        cases o with
        | map sh' ents =>
          simp only [om, Option.bind_some]
          split
          · exact kX Iff.rfl
          · exact bZ
        | _ => exact bZ
    | _ => exact bZ
section
variable {k : St → Prop} {u : Tok k} {sh : KS} {a : KV} {key : Nat}
@[go_sem ↓] theorem aei {p : FC × St} : W k u (upv σ sh a p (.one (.mp key))) ↔ W (fun o => o.1 = sh ∧ k (jc p.2 key (.map sh (D9 o.2 a p.1)))) ⟨⟩ (nL p.2 key) := by
  simp only [upv, dR, bB, bO, bJ]
end
def WI (σ : St) (sh : KS) (a : KV) : CV → Option St
  | .one .fu => some σ
  | .one (.mp key) => (nL σ key).bind fun o => if o.1 = sh then some (jc σ key (.map sh (Ea o.2 a))) else none
  | _ => none
@[go_sem] theorem aaf {sh : KS} {a : KV} : WI σ sh a (.one .fu) = some σ := rfl
section
variable {k : St → Prop} {u : Tok k} {sh : KS} {a : KV} {key : Nat}
@[go_sem ↓] theorem aej : W k u (WI σ sh a (.one (.mp key))) ↔ W (fun o => o.1 = sh ∧ k (jc σ key (.map sh (Ea o.2 a)))) ⟨⟩ (nL σ key) := by
  simp only [WI, dR, bB, bO, bJ]
end
@[go_sem ↓] theorem aek {sh : KS} : W k u (cO Γ q σ d (.del sh x y)) ↔ W (fun v => W (fun w => W (fun a => a.ks = sh ∧ W (fun s => k (.tO [], s)) ⟨⟩ (WI σ sh a v)) ⟨⟩ (keyOf w)) ⟨⟩ (val σ y)) ⟨⟩ (val σ x) := by
  simp only [cO, dR, bB, dF, ne_eq, Decidable.not_not]
  refine dG fun v => dG fun w => dG fun a => and_congr Iff.rfl ?_
  cases v with
  | agg l => exact bZ
  | one b =>
    cases b with
    | fu => exact kX Iff.rfl
    | mp key =>
      simp only [WI, nL]
      cases get σ.ob key with
      | none => exact bZ
      | some o =>
        cases o with
        | map sh' ents =>
          simp only [om, Option.bind_some]
          split
          · exact kX Iff.rfl
          · exact bZ
        | _ => exact bZ
    | _ => exact bZ
def UD (σ : St) : CV → Option (List (List FV))
  | .one .fG => some []
  | .one (.f (.sl rows)) => some rows
  | .one (.own key _) => (iw σ key).map (·.2)
  | _ => none
@[go_sem] theorem ael : UD σ (.one .fG) = some [] := rfl
@[go_sem] theorem aem {rows : List (List FV)} : UD σ (.one (.f (.sl rows))) = some rows := rfl
@[go_sem] theorem aen {key n : Nat} : UD σ (.one (.own key n)) = (iw σ key).map (·.2) := rfl
def UE (q : Bool) (σ : St) (d sz bytes : Nat) (w : CV) (CQ : List (List FV)) : CV → Option (PV × St)
  | .one .fG => if q = false ∧ CQ.length * bytes ≤ 140737488355328 ∧ CQ.all (fun r => r.length == sz) then (new σ (dB d) (.row sz CQ)).map fun s => (.c (.one (.own (dB d) CQ.length)), s) else none
  | .one (.own key n) => (iw σ key).bind fun o => if q = false ∧ (o.2.length + CQ.length) * bytes ≤ 140737488355328 ∧ o.1 = sz ∧ n = o.2.length ∧ uM key w = false ∧ key % 2 = 0 ∧ CQ.all (fun r => r.length == sz) then
      some (.c (.one (.own key (o.2.length + CQ.length))), jc (sub σ key .any) key (.row sz (o.2 ++ CQ))) else none
  | _ => none
@[go_sem ↓] theorem aeo {e : TypeId} {sz bytes : Nat} : W k u (cO Γ q σ d (.app e sz bytes x y)) ↔ W (fun v => W (fun w => W (fun l => W k ⟨⟩ (UE q σ d sz bytes w l v)) ⟨⟩ (UD σ w)) ⟨⟩ (val σ y)) ⟨⟩ (val σ x) := by
  simp only [cO, dR, bB]
  refine dG fun v => dG fun w => ?_
  have e : oV σ w = UD σ w := by
    cases w with
    | agg l => rfl
    | one p => cases p with
      | f a => cases a <;> rfl
      | own key n => simp only [oV, UD, iw]; cases get σ.ob key with | none => rfl | some o => cases o <;> rfl
      | _ => rfl
  rw [e]
  refine dG fun l => ?_
  cases v with
  | agg l => exact bZ
  | one p =>
    cases p with
    | fG => exact Iff.rfl
    | own key n =>
      simp only [UE, iw]
      cases get σ.ob key with
      | none => exact bZ
      | some o => cases o <;> exact Iff.rfl
    | _ => exact bZ
@[go_sem ↓] theorem aag {sz bytes : Nat} {w : CV} {l : List (List FV)} : W k u (UE q σ d sz bytes w l (.one .fG)) ↔ (q = false ∧ l.length * bytes ≤ 140737488355328 ∧ l.all (fun r => r.length == sz) = true) ∧ W (fun s => k (.c (.one (.own (dB d) l.length)), s)) ⟨⟩ (new σ (dB d) (.row sz l)) := by
  simp only [UE, dR, bO, bY]
@[go_sem ↓] theorem aah {sz bytes key n : Nat} {w : CV} {l : List (List FV)} : W k u (UE q σ d sz bytes w l (.one (.own key n))) ↔ W (fun o => (q = false ∧ (o.2.length + l.length) * bytes ≤ 140737488355328 ∧ o.1 = sz ∧ n = o.2.length ∧ uM key w = false ∧ key % 2 = 0 ∧ l.all (fun r => r.length == sz) = true) ∧ k (.c (.one (.own key (o.2.length + l.length))), jc (sub σ key .any) key (.row sz (o.2 ++ l)))) ⟨⟩ (iw σ key) := by
  simp only [UE, dR, bB, bO, bJ]
def cov (σ : St) (sz : Nat) (i : Int) : CV → Option (PV × St)
  | .one (.own key n) => (iw σ key).bind fun o => if o.1 = sz ∧ key % 2 = 0 ∧ 0 ≤ i ∧ i ≤ o.2.length then some (.c (.one (.own key i.toNat)), jc (sub σ key .any) key (.row sz (o.2.take i.toNat))) else none
  | _ => none
@[go_sem ↓] theorem ac4 {sz : Nat} : W k u (cO Γ q σ d (.D6 sz x y)) ↔ q = false ∧ W (fun v => W (fun j => W (fun p => W k ⟨⟩ (cov σ sz p.2 v)) ⟨⟩ (int? j)) ⟨⟩ (val σ y)) ⟨⟩ (val σ x) := by
  simp only [cO, dR, bB, dF, Bool.not_eq_true]
  refine and_congr Iff.rfl (dG fun v => dG fun j => dG fun p => ?_)
  cases v with
  | agg l => exact bZ
  | one b =>
    cases b with
    | own key n =>
      simp only [cov, iw]
      cases get σ.ob key with
      | none => exact bZ
      | some o => cases o <;> exact Iff.rfl
    | _ => exact bZ
@[go_sem ↓] theorem aep {sz key n : Nat} {i : Int} : W k u (cov σ sz i (.one (.own key n))) ↔ W (fun o => (o.1 = sz ∧ key % 2 = 0 ∧ 0 ≤ i ∧ i ≤ (o.2.length : Int)) ∧ k (.c (.one (.own key i.toNat)), jc (sub σ key .any) key (.row sz (o.2.take i.toNat)))) ⟨⟩ (iw σ key) := by
  simp only [cov, dR, bB, bO, bJ]
def cvv (σ : St) (sz : Nat) (i : Int) : CV → Option PL
  | .one (.own key n) => (iw σ key).bind fun o => if o.1 = sz ∧ 0 ≤ i ∧ i ≤ o.2.length then some (.vw key sz o.2.length i.toNat) else none
  | _ => none
@[go_sem ↓] theorem ac5 {sz : Nat} : W k u (cO Γ q σ d (.cutV sz x y)) ↔ W (fun v => W (fun j => W (fun p => W (fun l => k (.c (.one l), σ)) ⟨⟩ (cvv σ sz p.2 v)) ⟨⟩ (int? j)) ⟨⟩ (val σ y)) ⟨⟩ (val σ x) := by
  simp only [cO, dR, bB]
  refine dG fun v => dG fun j => dG fun p => ?_
  cases v with
  | agg l => exact bZ
  | one b =>
    cases b with
    | own key n =>
      simp only [cvv, iw]
      cases get σ.ob key with
      | none => exact bZ
      | some o =>
        cases o with
        | row sz' rows => simp only [J9, Option.bind_some, bO, bJ]
        | _ => exact bZ
    | _ => exact bZ
section
variable {k : PL → Prop} {u : Tok k}
@[go_sem ↓] theorem aer {sz key n : Nat} {i : Int} : W k u (cvv σ sz i (.one (.own key n))) ↔ W (fun o => (o.1 = sz ∧ 0 ≤ i ∧ i ≤ (o.2.length : Int)) ∧ k (.vw key sz o.2.length i.toNat)) ⟨⟩ (iw σ key) := by
  simp only [cvv, dR, bB, bO, bJ]
end
def vw? : CV → Option (Nat × Nat × Nat × Nat)
  | .one (.vw key z n lo) => some (key, z, n, lo)
  | _ => none
@[go_sem] theorem ac6 {a b c e : Nat} : vw? (.one (.vw a b c e)) = some (a, b, c, e) := rfl
@[go_sem ↓] theorem aes {sz : Nat} {zs : List FV} : W k u (cO Γ q σ d (.Pt sz zs x)) ↔ W (fun v => W (fun p => W (fun o => (o.1 = sz ∧ p.2.1 = sz ∧ zs.length = sz ∧ p.2.2.1 = o.2.length ∧ p.2.2.2 ≤ p.2.2.1) ∧ k (.tO [], jc σ p.1 (.row sz (o.2.take p.2.2.2 ++ List.replicate (p.2.2.1 - p.2.2.2) zs)))) ⟨⟩ (iw σ p.1)) ⟨⟩ (vw? v)) ⟨⟩ (val σ x) := by
  simp only [cO, dR, bB]
  refine dG fun v => ?_
  cases v with
  | agg l => exact bZ
  | one b =>
    cases b with
    | vw key z n lo =>
      simp only [vw?, bJ, iw]
      cases get σ.ob key with
      | none => exact bZ
      | some o =>
        cases o with
        | row sz' rows => simp only [J9, bO, bJ]
        | _ => exact bZ
    | _ => exact bZ
def PO (σ : St) : CV → Option (List (List FV))
  | .one (.f (.sl rows)) => some rows
  | .one .fG => some []
  | .one (.own key _) => (iw σ key).bind fun o => if o.1 = 1 then some o.2 else none
  | _ => none
@[go_sem] theorem aeu {rows : List (List FV)} : PO σ (.one (.f (.sl rows))) = some rows := rfl
@[go_sem] theorem aev : PO σ (.one .fG) = some [] := rfl
@[go_sem] theorem PS : bytesOf [] = some ⟨#[]⟩ := rfl
@[go_sem] theorem MV {n : Int} {l : List (List FV)} : bytesOf ([.int .u8 n] :: l) = (bytesOf l).map fun s => ⟨#[UInt8.ofNat n.toNat] ++ s.data⟩ := rfl
section
variable {k : List (List FV) → Prop} {u : Tok k}
@[go_sem ↓] theorem aew {key n : Nat} : W k u (PO σ (.one (.own key n))) ↔ W (fun o => o.1 = 1 ∧ k o.2) ⟨⟩ (iw σ key) := by
  simp only [PO, dR, bB, bO, bJ]
end
@[go_sem ↓] theorem aex : W k u (cO Γ q σ d (.Uj x)) ↔ W (fun v => W (fun l => W (fun s => k (.c (.one (.f (.str s))), σ)) ⟨⟩ (bytesOf l)) ⟨⟩ (PO σ v)) ⟨⟩ (val σ x) := by
  simp only [cO, dR, bB]
  refine dG fun v => ?_
  cases v with
  | agg l => exact bZ
  | one b =>
    cases b with
    | f a =>
      cases a with
      | sl rows => simp only [PO, bB, bJ, one]
      | _ => exact bZ
    | fG => simp only [PO, bJ, bytesOf, one]
    | own key n =>
      simp only [PO, iw]
      cases get σ.ob key with
      | none => exact bZ
      | some o =>
        cases o with
        | row sz' rows => simp only [J9, Option.bind_some, bO, bB, bJ, one]
        | _ => exact bZ
    | _ => exact bZ
@[go_sem ↓] theorem aey {f : FuncId} {xs : List d9} : W k u (cO Γ q σ d (.QT f xs)) ↔ W (fun l => W (fun p => k (.c (.one (.fn f p.1)), p.2)) ⟨⟩ (lC q σ l)) ⟨⟩ (iW σ xs) := by
  simp only [cO, dR, bB, bY]
@[go_sem ↓] theorem ac7 {f : FuncId} {xs : List d9} : W k u (cO Γ q σ d (.yC f xs)) ↔ W (fun l => W (fun gH => W (fun r => W (fun p => W (fun s => k (.c (.one (.own (dB d) p.2.length)), s)) ⟨⟩ (new σ (dB d) (.row p.1 p.2))) ⟨⟩ (QW r.1)) ⟨⟩ (Γ f gH)) ⟨⟩ (Jf l)) ⟨⟩ (iW σ xs) := by
  simp only [cO, rC, dR, bB, bY]
attribute [go_sem] Zn Mf avC Jf
@[go_sem] theorem WJ {sz : Nat} {rows : List (List FV)} : QW [.one (.own sz rows)] = some (sz, rows) := rfl
@[go_sem ↓] theorem aai {gv : Bool} {f : FuncId} {xs : List d9} : W k u (cO Γ q σ d (.call gv f xs)) ↔ W (fun l => W k ⟨⟩ (kF Γ gv q σ d f l)) ⟨⟩ (iW σ xs) := by
  simp only [cO, dR, bB]
def fn? : CV → Option (FuncId × List (List FV))
  | .one (.fn f caps) => some (f, caps)
  | _ => none
@[go_sem] theorem ac8 {f : FuncId} {caps : List (List FV)} : fn? (.one (.fn f caps)) = some (f, caps) := rfl
@[go_sem ↓] theorem aez {xs : List d9} : W k u (cO Γ q σ d (.dyn x xs)) ↔ W (fun v => W (fun p => W (fun l => W k ⟨⟩ (kF Γ false q σ d p.1 (l ++ p.2.map fun c => .one (.fp c)))) ⟨⟩ (iW σ xs)) ⟨⟩ (fn? v)) ⟨⟩ (val σ x) := by
  simp only [cO, dR, bB]
  refine dG fun v => ?_
  cases v with
  | agg l => exact bZ
  | one b =>
    cases b with
    | fn f caps => simp only [fn?, bJ, bB]
    | _ => exact bZ
def Ey (gv : Bool) (args : List CV) (p : List AV × St) (r : List AV × List AV) : Option St := if (!gv && ((r.1.any vk || !p.1.all fE) && args.any (fun x => (cells x).any gu))) = true then rA p.2 args else some p.2
def Ez (d : Nat) (σ : St) (args : List CV) (p : List AV × St) (r : List AV × List AV) (s : St) : Option St := if p.1.all fE = true then some s else yE σ (args.flatMap cells) (dB d + 10000) s args r.2
@[go_sem ↓] theorem WK {gv : Bool} {f : FuncId} {args : List CV} : W k u (kF Γ gv q σ d f args) ↔ W (fun p => W (fun r0 => W (fun r => ((q && !(p.1.all fE && r.1.all fE)) = false ∧ (q && ((r.1.any vk || !p.1.all fE) && args.any (fun x => (cells x).any gu))) = false) ∧
    W (fun s => W (fun s => W (fun v => k (G6 v.1, v.2)) ⟨⟩ (wo (dB d) 0 [] s r.1)) ⟨⟩ (Ez d σ args p r s)) ⟨⟩ (Ey gv args p r)) ⟨⟩ (some (QV q r0))) ⟨⟩ (Γ f p.1)) ⟨⟩ (rz gv σ args) := by
  simp only [kF, dR, bB, dF, bY, bJ, Ey, Ez, Bool.not_eq_true, and_assoc]
@[go_sem] theorem ac9 {r : List AV × List AV} : QV false r = r := rfl
@[go_sem] theorem aaj {r : List AV × List AV} : QV true r = (r.1.map Me, r.2) := rfl
@[go_sem] theorem aak {sz : Nat} {rows : List (List FV)} : Me (.one (.own sz rows)) = .one (.f (.sl rows)) := rfl
@[go_sem] theorem aeA {x : FV} : Me (.one (.f x)) = .one (.f x) := rfl
@[go_sem] theorem aal {xs : List TV} : Me (.agg xs) = .agg xs := rfl
@[go_sem] theorem aam {xs : List CL} : Me (.one (.ptr xs)) = .one (.ptr xs) := rfl
end
section
variable {Γ : Env} {F : Nat} {k : List AV × List AV → Prop} {u : Tok k} {cf : CF} {gH : List AV}
@[go_sem ↓] theorem aeB : W k u (I7 Γ F cf gH) ↔ gH.length = cf.np ∧ W (fun e => W (fun p => (∀ id, p.1 ≠ .ext id) ∧ W (fun b => W (fun l => W (fun r => k (r.1, b.1)) ⟨⟩ (mW cf.ro b.2 l)) ⟨⟩ (slots b.2 cf.res)) ⟨⟩ (kG p.2 e.1 gH)) ⟨⟩ (ev Γ F cf.body e.2)) ⟨⟩ (enter cf.bo 0 [] ⟨[], []⟩ gH) := by
  simp only [I7, dR, dF, bB, ne_eq, Decidable.not_not]
  refine and_congr Iff.rfl (dG fun e => dG fun p => ?_)
  obtain ⟨o, s⟩ := p
  cases o with
  | ext id => simp [jU]
  | _ => simp [bB, bY]
@[go_sem] theorem aan : (∀ id, Out.jo ≠ .ext id) ↔ True := by simp
@[go_sem] theorem aao : (∀ id, Out.ret ≠ .ext id) ↔ True := by simp
@[go_sem] theorem aap {i : Nat} : (∀ id, Out.ext i ≠ .ext id) ↔ False := by simp
end
end Go.Proofs.Ytdkkgecdhapfhaa.Ev
namespace Go.Proofs.Ytdkkgecdhapfhaa.Ev
open Go
attribute [go_sem] dB dW uM qw lJ nH D7 Mc GY sub jc nZ gu jA plain fE Pv Je vk Md G6 Jh QX QY QZ Jg QU rowsOf KV.ks SV.sk
attribute [go_sem] List.any_cons List.any_nil List.all_cons List.all_nil List.map_cons List.map_nil List.length_cons List.length_nil List.append_nil List.nil_append List.cons_append List.flatMap_cons List.flatMap_nil List.take_succ_cons List.take_zero List.take_nil List.drop_succ_cons List.drop_zero List.drop_nil Option.getD_some Option.getD_none List.filter_nil List.filter_cons List.headD_nil List.headD_cons List.tail_cons List.tail_nil
section
variable {σ : St} {α : Type}
section
variable {k : St → Prop} {u : Tok k} {key : Nat} {o : Ob} {pend : List PL}
@[go_sem ↓] theorem aeC : W k u (new σ key o) ↔ (rem σ.ob key).any (fun p => lJ key p.2) = false ∧ k ⟨σ.tm.filter (fun p => !qw key p.2), (key, o) :: rem σ.ob key⟩ := by
  simp only [new, Uk, dR, bY, dF, bJ, Bool.not_eq_true]
@[go_sem ↓] theorem ada : W k u (newP pend σ key o) ↔ pend.any (dW key) = false ∧ W k ⟨⟩ (new σ key o) := by
  simp only [newP, dR, dF, Bool.not_eq_true]
@[go_sem ↓] theorem aeD : W k u (yA σ key) ↔ W (fun p => k (sub ⟨σ.tm, rem σ.ob key⟩ key (.f (.sl p.2)))) ⟨⟩ (iw σ key) := by
  simp only [yA, iw, dR]
  cases get σ.ob key with
  | none => exact bZ
  | some o => cases o <;> first | exact bZ | exact kX Iff.rfl
@[go_sem ↓] theorem R8 : W k u (wu σ []) ↔ k σ := gI
@[go_sem ↓] theorem PU : W k u (rA σ []) ↔ k σ := gI
@[go_sem ↓] theorem MW {x : CV} {xs : List CV} : W k u (rA σ (x :: xs)) ↔ W (fun s => W k ⟨⟩ (rA s xs)) ⟨⟩ (wu σ (cells x)) := by
  simp only [rA, dR, bB]
def oF (σ : St) : PL → Option St
  | .own key _ => yA σ key
  | _ => some σ
@[go_sem ↓] theorem PW {x : PL} {xs : List PL} : W k u (wu σ (x :: xs)) ↔ W (fun s => W k ⟨⟩ (wu s xs)) ⟨⟩ (oF σ x) := by
  simp only [dR]
  cases x <;> simp only [wu, oF, bB, bJ]
@[go_sem ↓] theorem PX {n : Nat} : W k u (oF σ (.own key n)) ↔ W k ⟨⟩ (yA σ key) := Iff.rfl
@[go_sem] theorem aaq {x : FV} : oF σ (.f x) = some σ := rfl
@[go_sem] theorem UF : oF σ .fG = some σ := rfl
@[go_sem] theorem UG {n : Nat} : oF σ (.ptr key n) = some σ := rfl
@[go_sem] theorem WL : oF σ (.mp key) = some σ := rfl
@[go_sem] theorem UH : oF σ .iO = some σ := rfl
@[go_sem] theorem R9 : oF σ .fu = some σ := rfl
@[go_sem] theorem WM {f : FuncId} {c : List (List FV)} : oF σ (.fn f c) = some σ := rfl
@[go_sem] theorem WO {c : List FV} : oF σ (.fp c) = some σ := rfl
end
section
variable {k : FV × St → Prop} {u : Tok k} {key n : Nat}
@[go_sem] theorem aeE {x : FV} : vX σ (.f x) = some (x, σ) := rfl
@[go_sem] theorem aar : vX σ .fG = some (.sl [], σ) := rfl
@[go_sem ↓] theorem UJ : W k u (vX σ (.own key n)) ↔ W (fun p => k (.sl p.2, sub ⟨σ.tm, rem σ.ob key⟩ key (.f (.sl p.2)))) ⟨⟩ (iw σ key) := by
  simp only [vX, yA, iw, dR]
  cases get σ.ob key with
  | none => exact bZ
  | some o => cases o <;> first | exact bZ | (simp only [Option.map_some]; exact kX Iff.rfl)
end
section
variable {k : List FV × St → Prop} {u : Tok k}
@[go_sem ↓] theorem Sb : W k u (kE σ []) ↔ k ([], σ) := gI
@[go_sem ↓] theorem PY {x : PL} {xs : List PL} : W k u (kE σ (x :: xs)) ↔ W (fun p => W (fun r => k (p.1 :: r.1, r.2)) ⟨⟩ (kE p.2 xs)) ⟨⟩ (vX σ x) := by
  simp only [kE, dR, bB, bY]
@[go_sem ↓] theorem aeF {key : Nat} : W k u (Um σ key) ↔ W (fun xs => W (fun p => W (fun _ => k (p.1, QZ (Jg key p.1) ⟨p.2.tm, rem p.2.ob key⟩)) ⟨⟩ (get p.2.ob key)) ⟨⟩ (kE σ xs)) ⟨⟩ (nV σ key) := by
  simp only [Um, nV, dR]
  cases get σ.ob key with
  | none => exact bZ
  | some o =>
    cases o with
    | mR xs =>
      simp only [oc, bJ, bB]
      refine dG fun p => ?_
      cases get p.2.ob key with
      | none => exact bZ
      | some o => exact kX Iff.rfl
    | _ => exact bZ
end
section
variable {k : FC × St → Prop} {u : Tok k}
@[go_sem ↓] theorem UK {x : PL} : W k u (Ul σ (.one x)) ↔ W (fun p => k (.one p.1, p.2)) ⟨⟩ (vX σ x) := by simp only [Ul, dR, bY]
@[go_sem ↓] theorem UL {xs : List PL} : W k u (Ul σ (.agg xs)) ↔ W (fun p => k (.agg p.1, p.2)) ⟨⟩ (kE σ xs) := by simp only [Ul, dR, bY]
end
section
variable {k : List (List FV) × St → Prop} {u : Tok k} {q : Bool}
@[go_sem ↓] theorem Sc : W k u (lC q σ []) ↔ k ([], σ) := by simp only [lC, dR, bJ]
@[go_sem ↓] theorem UM {cs : List FV} {l : List CV} : W k u (lC q σ (.one (.fp cs) :: l)) ↔ W (fun r => k (cs :: r.1, r.2)) ⟨⟩ (lC q σ l) := by simp only [lC, dR, bY]
@[go_sem ↓] theorem Sd {key : Nat} {l : List CV} : W k u (lC q σ (.one (.ptr key 0) :: l)) ↔ q = false ∧ W (fun p => W (fun r => k (p.1 :: r.1, r.2)) ⟨⟩ (lC q p.2 l)) ⟨⟩ (Um σ key) := by
  simp only [lC, dR, dF, bB, bY, Bool.not_eq_true]
end
section
variable {k : List (Nat × Nat × CV) → Prop} {u : Tok k}
@[go_sem ↓] theorem Sg : W k u (vals σ []) ↔ k [] := gI
@[go_sem ↓] theorem PZ {o n : Nat} {x : d9} {ps : List (Nat × Nat × d9)} : W k u (vals σ ((o, n, x) :: ps)) ↔ W (fun v => W (fun l => k ((o, n, v) :: l)) ⟨⟩ (vals σ ps)) ⟨⟩ (val σ x) := by
  simp only [vals, dR, bB, bY]
end
section
variable {k : List CV → Prop} {u : Tok k}
@[go_sem ↓] theorem P5 : W k u (iW σ []) ↔ k [] := gI
@[go_sem ↓] theorem MX {x : d9} {xs : List d9} : W k u (iW σ (x :: xs)) ↔ W (fun v => W (fun l => k (v :: l)) ⟨⟩ (iW σ xs)) ⟨⟩ (val σ x) := by
  simp only [iW, dR, bB, bY]
@[go_sem ↓] theorem P6 : W k u (slots σ []) ↔ k [] := gI
@[go_sem ↓] theorem MZ {x : Rs} {xs : List Rs} : W k u (slots σ (x :: xs)) ↔ W (fun v => W (fun l => k (v :: l)) ⟨⟩ (slots σ xs)) ⟨⟩ (slot σ x) := by
  simp only [slots, dR, bB, bY]
end
section
variable {k : CV → Prop} {u : Tok k} {i n : Nat} {agg : Bool}
@[go_sem ↓] theorem WQ : W k u (slot σ (.t i)) ↔ W k ⟨⟩ (vl (get σ.tm i)) := by rw [← Wd]; exact Iff.rfl
@[go_sem ↓] theorem P7 : W k u (slot σ (.cell i n agg)) ↔ W (fun v => W (fun p => W (fun xs => W (fun l => W k ⟨⟩ (mk agg l)) ⟨⟩ (seg n p.2 xs)) ⟨⟩ (nV σ p.1)) ⟨⟩ (Hq v)) ⟨⟩ (vl (get σ.tm i)) := by
  simp only [slot, dR]
  cases get σ.tm i with
  | none => exact bZ
  | some v =>
    cases v with
    | tO l => exact bZ
    | c x =>
      simp only [vl, bJ]
      cases x with
      | agg l => exact bZ
      | one p =>
        cases p with
        | ptr key off =>
          simp only [Hq, bJ, nV]
          cases get σ.ob key with
          | none => exact bZ
          | some o => cases o <;> first | exact bZ | (simp only [oc, bJ, bB])
        | _ => exact bZ
end
section
variable {k : List PL → Prop} {u : Tok k} {z : List PL}
@[go_sem ↓] theorem Si : W k u (fill z []) ↔ k z := by simp only [fill, dR, bJ]
@[go_sem ↓] theorem P8 {off n : Nat} {v : CV} {ps : List (Nat × Nat × CV)} : W k u (fill z ((off, n, v) :: ps)) ↔ ((cells v).length = n ∧ (cells v).any nZ = false) ∧ W (fun z => W k ⟨⟩ (fill z ps)) ⟨⟩ (lay off (cells v) z) := by
  simp only [fill, dR, bO, bB]
end
@[go_sem] theorem WR {kk : IntKind} {n : Int} : vY (.int kk n) = some (.int kk n) := rfl
@[go_sem] theorem UN {b : Bool} : vY (.bool b) = some (.bool b) := rfl
@[go_sem] theorem WS {s : ByteArray} : vY (.str s) = some (.str s) := rfl
section
variable {k : KV → Prop} {u : Tok k}
@[go_sem ↓] theorem UO {x : FV} : W k u (keyOf (.one (.f x))) ↔ W (fun s => k (.one s)) ⟨⟩ (vY x) := by simp only [keyOf, Fh, Option.bind_some, dR, bY]
@[go_sem ↓] theorem UQ {xs : List PL} : W k u (keyOf (.agg xs)) ↔ W (fun l => W (fun s => k (.agg s)) ⟨⟩ (ru l)) ⟨⟩ (nI xs) := by simp only [keyOf, dR, bB, bY]
end
section
variable {k : List SV → Prop} {u : Tok k}
@[go_sem ↓] theorem P9 : W k u (ru []) ↔ k [] := gI
@[go_sem ↓] theorem M0 {x : FV} {xs : List FV} : W k u (ru (x :: xs)) ↔ W (fun s => W (fun l => k (s :: l)) ⟨⟩ (ru xs)) ⟨⟩ (vY x) := by simp only [ru, dR, bB, bY]
end
section
variable {k : List FV → Prop} {u : Tok k}
@[go_sem ↓] theorem M4 : W k u (nI []) ↔ k [] := gI
@[go_sem ↓] theorem LY {x : FV} {xs : List PL} : W k u (nI (.f x :: xs)) ↔ W (fun l => k (x :: l)) ⟨⟩ (nI xs) := by simp only [nI, Fh, Option.bind_some, dR, bY]
end
section
variable {k : CL × St → Prop} {u : Tok k} {key n : Nat}
@[go_sem] theorem aeG {x : FV} : GZ σ (.f x) = some (.f x, σ) := rfl
@[go_sem] theorem aas : GZ σ .fG = some (.f (.sl []), σ) := rfl
@[go_sem] theorem aat : GZ σ .iO = some (.iO, σ) := rfl
@[go_sem] theorem WT : GZ σ .fu = some (.fu, σ) := rfl
@[go_sem ↓] theorem UR : W k u (GZ σ (.own key n)) ↔ W (fun o => k (.own o.1 o.2, ⟨σ.tm, rem σ.ob key⟩)) ⟨⟩ (iw σ key) := by
  simp only [GZ, iw, dR]
  cases get σ.ob key with
  | none => exact bZ
  | some o => cases o <;> first | exact bZ | exact kX Iff.rfl
@[go_sem ↓] theorem WU : W k u (GZ σ (.mp key)) ↔ W (fun o => k (.mp o.1 o.2, ⟨σ.tm, rem σ.ob key⟩)) ⟨⟩ (nL σ key) := by
  simp only [GZ, nL, dR]
  cases get σ.ob key with
  | none => exact bZ
  | some o => cases o <;> first | exact bZ | exact kX Iff.rfl
end
section
variable {k : List CL × St → Prop} {u : Tok k}
@[go_sem ↓] theorem Sj : W k u (yD σ []) ↔ k ([], σ) := gI
@[go_sem ↓] theorem Qa {x : PL} {xs : List PL} : W k u (yD σ (x :: xs)) ↔ W (fun p => W (fun r => k (p.1 :: r.1, r.2)) ⟨⟩ (yD p.2 xs)) ⟨⟩ (GZ σ x) := by
  simp only [yD, dR, bB, bY]
end
section
variable {k : TV × St → Prop} {u : Tok k} {key n : Nat} {gv : Bool}
@[go_sem] theorem aeH {x : FV} : qH gv σ (.f x) = some (.f x, σ) := rfl
@[go_sem] theorem aau : qH gv σ .fG = some (.f (.sl []), σ) := rfl
@[go_sem] theorem aav : qH gv σ .iO = some (.iO, σ) := rfl
@[go_sem] theorem WV : qH gv σ .fu = some (.fu, σ) := rfl
@[go_sem] theorem adb {cs : List FV} : qH gv σ (.fp cs) = some (.fp cs, σ) := rfl
@[go_sem] theorem ade {f : FuncId} {cs : List (List FV)} : qH gv σ (.fn f cs) = some (.fn f cs, σ) := rfl
@[go_sem ↓] theorem UU : W k u (qH false σ (.own key n)) ↔ W (fun o => k (.f (.sl o.2), σ)) ⟨⟩ (iw σ key) := by
  simp only [qH, iw, dR]
  cases get σ.ob key with
  | none => exact bZ
  | some o => cases o <;> first | exact bZ | exact kX Iff.rfl
@[go_sem ↓] theorem Sk : W k u (qH true σ (.own key n)) ↔ W (fun o => k (.own o.1 o.2, ⟨σ.tm, rem σ.ob key⟩)) ⟨⟩ (iw σ key) := by
  simp only [qH, iw, dR]
  cases get σ.ob key with
  | none => exact bZ
  | some o => cases o <;> first | exact bZ | exact kX Iff.rfl
@[go_sem ↓] theorem WW : W k u (qH gv σ (.mp key)) ↔ W (fun o => k (.mp o.1 o.2, ⟨σ.tm, rem σ.ob key⟩)) ⟨⟩ (nL σ key) := by
  simp only [qH, nL, dR]
  cases get σ.ob key with
  | none => exact bZ
  | some o => cases o <;> first | exact bZ | exact kX Iff.rfl
@[go_sem ↓] theorem UW : W k u (qH gv σ (.ptr key 0)) ↔ W (fun xs => W (fun p => k (.ptr p.1, p.2)) ⟨⟩ (yD ⟨σ.tm, rem σ.ob key⟩ xs)) ⟨⟩ (nV σ key) := by
  simp only [qH, nV, dR]
  cases get σ.ob key with
  | none => exact bZ
  | some o => cases o <;> first | exact bZ | (simp only [oc, bJ, bY])
end
section
variable {k : List TV × St → Prop} {u : Tok k} {gv : Bool}
@[go_sem ↓] theorem Sl : W k u (qI gv σ []) ↔ k ([], σ) := gI
@[go_sem ↓] theorem Qb {x : PL} {xs : List PL} : W k u (qI gv σ (x :: xs)) ↔ W (fun p => W (fun r => k (p.1 :: r.1, r.2)) ⟨⟩ (qI gv p.2 xs)) ⟨⟩ (qH gv σ x) := by
  simp only [qI, dR, bB, bY]
end
section
variable {k : AV × St → Prop} {u : Tok k} {gv : Bool}
@[go_sem ↓] theorem UY {x : PL} : W k u (I5 gv σ (.one x)) ↔ W (fun p => k (.one p.1, p.2)) ⟨⟩ (qH gv σ x) := by simp only [I5, dR, bY]
@[go_sem ↓] theorem UZ {xs : List PL} : W k u (I5 gv σ (.agg xs)) ↔ W (fun p => k (.agg p.1, p.2)) ⟨⟩ (qI gv σ xs) := by simp only [I5, dR, bY]
end
section
variable {k : List AV × St → Prop} {u : Tok k} {gv : Bool}
@[go_sem ↓] theorem Sm : W k u (rz gv σ []) ↔ k ([], σ) := gI
@[go_sem ↓] theorem Qc {x : CV} {xs : List CV} : W k u (rz gv σ (x :: xs)) ↔ W (fun p => W (fun r => k (p.1 :: r.1, r.2)) ⟨⟩ (rz gv p.2 xs)) ⟨⟩ (I5 gv σ x) := by
  simp only [rz, dR, bB, bY]
end
section
variable {k : List PL × St → Prop} {u : Tok k} {kf : Nat → Nat} {c base j : Nat} {pend : List PL}
@[go_sem ↓] theorem Sn : W k u (qb kf c pend σ []) ↔ k ([], σ) := by simp only [qb, dR, bJ]
def M5 (kf : Nat → Nat) (c : Nat) (pend : List PL) (σ : St) : CL → Option (PL × St)
  | .f x => some (.f x, σ)
  | .iO => some (.iO, σ)
  | .fu => some (.fu, σ)
  | .mp sh ents => (newP pend σ (kf c) (.map sh ents)).map fun s => (.mp (kf c), s)
  | .own sz rows => (newP pend σ (kf c + kf c % 2) (.row sz rows)).map fun s => (.own (kf c + kf c % 2) rows.length, s)
@[go_sem ↓] theorem Qd {x : CL} {xs : List CL} : W k u (qb kf c pend σ (x :: xs)) ↔ W (fun p => W (fun r => k (p.1 :: r.1, r.2)) ⟨⟩ (qb kf (c + 1) (p.1 :: pend) p.2 xs)) ⟨⟩ (M5 kf c pend σ x) := by
  simp only [dR]
  cases x <;> simp only [qb, M5, bJ, bB, bY]
@[go_sem ↓] theorem Sq : W k u (wm base j pend σ []) ↔ k ([], σ) := by simp only [wm, dR, bJ]
@[go_sem ↓] theorem Qe {x : TV} {xs : List TV} : W k u (wm base j pend σ (x :: xs)) ↔ W (fun p => W (fun r => k (p.1 :: r.1, r.2)) ⟨⟩ (wm base (j + 1) (p.1 :: pend) p.2 xs)) ⟨⟩ (BL (base + 200 * (j + 1)) pend σ x) := by
  simp only [wm, dR, bB, bY]
end
section
variable {k : PL × St → Prop} {u : Tok k} {kf : Nat → Nat} {c key : Nat} {pend : List PL}
@[go_sem] theorem aeI {x : FV} : M5 kf c pend σ (.f x) = some (.f x, σ) := rfl
@[go_sem] theorem aaw : M5 kf c pend σ .iO = some (.iO, σ) := rfl
@[go_sem] theorem WX : M5 kf c pend σ .fu = some (.fu, σ) := rfl
@[go_sem ↓] theorem WY {sh : KS} {ents : List (KV × FC)} : W k u (M5 kf c pend σ (.mp sh ents)) ↔ W (fun s => k (.mp (kf c), s)) ⟨⟩ (newP pend σ (kf c) (.map sh ents)) := by simp only [M5, dR, bY]
@[go_sem ↓] theorem U0 {sz : Nat} {rows : List (List FV)} : W k u (M5 kf c pend σ (.own sz rows)) ↔ W (fun s => k (.own (kf c + kf c % 2) rows.length, s)) ⟨⟩ (newP pend σ (kf c + kf c % 2) (.row sz rows)) := by simp only [M5, dR, bY]
@[go_sem] theorem aeJ {x : FV} : BL key pend σ (.f x) = some (.f x, σ) := rfl
@[go_sem] theorem aax : BL key pend σ .iO = some (.iO, σ) := rfl
@[go_sem] theorem WZ : BL key pend σ .fu = some (.fu, σ) := rfl
@[go_sem] theorem adf {cs : List FV} : BL key pend σ (.fp cs) = some (.fp cs, σ) := rfl
@[go_sem] theorem adg {f : FuncId} {cs : List (List FV)} : BL key pend σ (.fn f cs) = some (.fn f cs, σ) := rfl
@[go_sem] theorem aay : BL key pend σ .any = some (.any, σ) := rfl
@[go_sem ↓] theorem W9 {sh : KS} {ents : List (KV × FC)} : W k u (BL key pend σ (.mp sh ents)) ↔ W (fun s => k (.mp key, s)) ⟨⟩ (newP pend σ key (.map sh ents)) := by simp only [BL, dR, bY]
@[go_sem ↓] theorem U1 {sz : Nat} {rows : List (List FV)} : W k u (BL key pend σ (.own sz rows)) ↔ W (fun s => k (.own (ow key) rows.length, s)) ⟨⟩ (newP pend σ (ow key) (.row sz rows)) := by simp only [BL, dR, bY]
@[go_sem ↓] theorem U2 {cs : List CL} : W k u (BL key pend σ (.ptr cs)) ↔ W (fun p => p.1.any (dW key) = false ∧ W (fun s => k (.ptr key 0, s)) ⟨⟩ (newP pend p.2 key (.mR p.1))) ⟨⟩ (qb (Md key) 0 pend σ cs) := by
  simp only [BL, dR, bB, dF, bY, Bool.not_eq_true]
end
section
variable {k : CV × St → Prop} {u : Tok k} {base : Nat} {pend : List PL}
@[go_sem ↓] theorem U3 {x : TV} : W k u (I6 base pend σ (.one x)) ↔ W (fun p => k (.one p.1, p.2)) ⟨⟩ (BL (base + 200) pend σ x) := by simp only [I6, dR, bY]
@[go_sem ↓] theorem U4 {xs : List TV} : W k u (I6 base pend σ (.agg xs)) ↔ W (fun p => k (.agg p.1, p.2)) ⟨⟩ (wm base 0 pend σ xs) := by simp only [I6, dR, bY]
end
section
variable {k : List CV × St → Prop} {u : Tok k} {base i : Nat} {pend : List PL} {bo : List Nat}
@[go_sem] theorem aeK : ab bo i = if bo.contains i then dB i + 10001 else dB i + 1 := rfl
@[go_sem] theorem aeL {key : Nat} : ow key = if key / 10000 % 2 = 0 then key + key % 2 else key := rfl
@[go_sem ↓] theorem Sw : W k u (wo base i pend σ []) ↔ k ([], σ) := by simp only [wo, dR, bJ]
@[go_sem ↓] theorem Qf {x : AV} {xs : List AV} : W k u (wo base i pend σ (x :: xs)) ↔ W (fun p => W (fun r => k (p.1 :: r.1, r.2)) ⟨⟩ (wo base (i + 1) (cells p.1 ++ pend) p.2 xs)) ⟨⟩ (I6 (base + 2000 * i) pend σ x) := by
  simp only [wo, dR, bB, bY]
@[go_sem ↓] theorem Qg : W k u (enter bo i pend σ []) ↔ k ([], σ) := by simp only [enter, dR, bJ]
@[go_sem ↓] theorem M6 {x : AV} {xs : List AV} : W k u (enter bo i pend σ (x :: xs)) ↔ W (fun p => W (fun s => W (fun r => k (p.1 :: r.1, r.2)) ⟨⟩ (enter bo (i + 1) (cells p.1 ++ pend) s xs)) ⟨⟩ (some ⟨put p.2.tm i (.c p.1), p.2.ob⟩)) ⟨⟩ (I6 (ab bo i) pend σ x) := by
  simp only [enter, dR, bB, bY, bJ]
end
section
variable {k : St → Prop} {u : Tok k} {fH : St} {base : Nat} {pend : List PL}
@[go_sem ↓] theorem Sy : W k u (yE fH pend base σ [] []) ↔ k σ := by simp only [yE, dR, bJ]
@[go_sem ↓] theorem Qh {x : CV} {xs : List CV} {y : AV} {ys : List AV} : W k u (yE fH pend base σ (x :: xs) (y :: ys)) ↔ W (fun s => W k ⟨⟩ (yE fH pend (base + 1000) s xs ys)) ⟨⟩ (Vj fH pend base σ x y) := by
  simp only [yE, dR, bB]
@[go_sem ↓] theorem U5 {x : PL} {y : TV} : W k u (Vj fH pend base σ (.one x) (.one y)) ↔ W k ⟨⟩ (BM fH pend base σ x y) := Iff.rfl
@[go_sem ↓] theorem U6 {x : List PL} {y : List TV} : W k u (Vj fH pend base σ (.agg x) (.agg y)) ↔ W k ⟨⟩ (z8 fH pend base σ x y) := Iff.rfl
@[go_sem ↓] theorem Sz : W k u (z8 fH pend base σ [] []) ↔ k σ := by simp only [z8, dR, bJ]
@[go_sem ↓] theorem Qi {x : PL} {xs : List PL} {y : TV} {ys : List TV} : W k u (z8 fH pend base σ (x :: xs) (y :: ys)) ↔ W (fun s => W k ⟨⟩ (z8 fH pend (base + 200) s xs ys)) ⟨⟩ (BM fH pend base σ x y) := by
  simp only [z8, dR, bB]
@[go_sem ↓] theorem U7 {key off : Nat} {cs : List CL} : W k u (BM fH pend base σ (.ptr key off) (.ptr cs)) ↔ W (fun xs => W (fun p => k (jc p.2 key (.mR p.1))) ⟨⟩ (qb (G5 base xs) 0 pend σ cs)) ⟨⟩ (nV fH key) := by
  simp only [BM, nV, dR]
  cases get fH.ob key with
  | none => exact bZ
  | some o => cases o <;> first | exact bZ | (simp only [oc, bJ, bY])
@[go_sem] theorem adh {key : Nat} {sh : KS} {ents : List (KV × FC)} : BM fH pend base σ (.mp key) (.mp sh ents) = some (jc σ key (.map sh ents)) := rfl
@[go_sem] theorem Xa {key n sz : Nat} {rows : List (List FV)} : BM fH pend base σ (.own key n) (.own sz rows) = some (jc σ key (.row sz rows)) := rfl
@[go_sem] theorem aeM {x y : FV} : BM fH pend base σ (.f x) (.f y) = some σ := rfl
@[go_sem] theorem aaz {y : FV} : BM fH pend base σ .fG (.f y) = some σ := rfl
@[go_sem] theorem aaA : BM fH pend base σ .iO .iO = some σ := rfl
@[go_sem] theorem Xb : BM fH pend base σ .fu .fu = some σ := rfl
@[go_sem] theorem aaB {key n : Nat} {y : FV} : BM fH pend base σ (.own key n) (.f y) = some σ := rfl
@[go_sem] theorem aaC {key n : Nat} : BM fH pend base σ (.own key n) .any = some σ := rfl
@[go_sem] theorem adi {a b : List FV} : BM fH pend base σ (.fp a) (.fp b) = some σ := rfl
@[go_sem] theorem adj {f g : FuncId} {a b : List (List FV)} : BM fH pend base σ (.fn f a) (.fn g b) = some σ := rfl
end
def U8 (base c : Nat) : Option PL → Nat
  | some (.mp k) => if k % 2 = 0 then k else base + 2 * (c + 1)
  | some (.own k _) => if k % 2 = 0 then k else base + 2 * (c + 1)
  | _ => base + 2 * (c + 1)
@[go_sem] theorem aaD {base c : Nat} {xs : List PL} : G5 base xs c = U8 base c (xs[c]?) := by
  unfold G5
  cases xs[c]? with
  | none => rfl
  | some x => cases x <;> rfl
@[go_sem] theorem adk {base c k : Nat} : U8 base c (some (.mp k)) = if k % 2 = 0 then k else base + 2 * (c + 1) := rfl
@[go_sem] theorem aaE {base c k n : Nat} : U8 base c (some (.own k n)) = if k % 2 = 0 then k else base + 2 * (c + 1) := rfl
@[go_sem] theorem aeN {base c : Nat} {x : FV} : U8 base c (some (.f x)) = base + 2 * (c + 1) := rfl
@[go_sem] theorem aaF {base c : Nat} : U8 base c (some .fG) = base + 2 * (c + 1) := rfl
@[go_sem] theorem Xc {base c : Nat} : U8 base c (some .fu) = base + 2 * (c + 1) := rfl
section
variable {k : TV × St → Prop} {u : Tok k} {key n : Nat}
@[go_sem] theorem adl {x : FV} : outT σ (.f x) = some (.f x, σ) := rfl
@[go_sem] theorem Xd : outT σ .fG = some (.f (.sl []), σ) := rfl
@[go_sem] theorem Xe : outT σ .iO = some (.iO, σ) := rfl
@[go_sem] theorem U9 : outT σ .fu = some (.fu, σ) := rfl
@[go_sem] theorem aaG {cs : List FV} : outT σ (.fp cs) = some (.fp cs, σ) := rfl
@[go_sem] theorem aaH {f : FuncId} {cs : List (List FV)} : outT σ (.fn f cs) = some (.fn f cs, σ) := rfl
@[go_sem ↓] theorem SA : W k u (outT σ (.own key n)) ↔ W (fun p => k (.f p.1, p.2)) ⟨⟩ (vX σ (.own key n)) := by simp only [outT, dR, bY]
@[go_sem ↓] theorem Va : W k u (outT σ (.mp key)) ↔ W (fun o => k (.mp o.1 o.2, ⟨σ.tm, rem σ.ob key⟩)) ⟨⟩ (nL σ key) := by
  simp only [outT, nL, dR]
  cases get σ.ob key with
  | none => exact bZ
  | some o => cases o <;> first | exact bZ | exact kX Iff.rfl
@[go_sem ↓] theorem SB : W k u (outT σ (.ptr key 0)) ↔ W (fun xs => W (fun p => k (.ptr p.1, p.2)) ⟨⟩ (yD ⟨σ.tm, rem σ.ob key⟩ xs)) ⟨⟩ (nV σ key) := by
  simp only [outT, nV, dR]
  cases get σ.ob key with
  | none => exact bZ
  | some o => cases o <;> first | exact bZ | (simp only [oc, bJ, bY])
@[go_sem ↓] theorem SC {sz : Nat} : W k u (Aa sz σ (.own key n)) ↔ W (fun o => o.1 = sz ∧ k (.own sz o.2, ⟨σ.tm, rem σ.ob key⟩)) ⟨⟩ (iw σ key) := by
  simp only [Aa, iw, dR]
  cases get σ.ob key with
  | none => exact bZ
  | some o => cases o <;> first | exact bZ | (simp only [J9, bJ, bO])
@[go_sem ↓] theorem SE {sz : Nat} : W k u (Aa sz σ .fG) ↔ ¬ sz = 0 ∧ k (.own sz [], σ) := by simp only [Aa, dR, dF, bJ]
@[go_sem] theorem aaI {x : PL} {y : FV} : jH σ x (.f y) = some (.f y, σ) := by cases x <;> first | rfl | (rename_i a b; cases b <;> rfl)
@[go_sem] theorem Vb {x : PL} : jH σ x .iO = some (.iO, σ) := by cases x <;> first | rfl | (rename_i a b; cases b <;> rfl)
@[go_sem] theorem SF {x : PL} : jH σ x .fu = some (.fu, σ) := by cases x <;> first | rfl | (rename_i a b; cases b <;> rfl)
def bko (σ : St) (key : Nat) : Nat → Option (TV × St)
  | 1 => (J9 (get σ.ob key)).map fun p => (.own p.1 p.2, ⟨σ.tm, rem σ.ob key⟩)
  | _ => some (.any, σ)
@[go_sem] theorem aeO : bko σ key 0 = some (.any, σ) := rfl
@[go_sem] theorem Xf : bko σ key 1 = (J9 (get σ.ob key)).map fun p => (.own p.1 p.2, ⟨σ.tm, rem σ.ob key⟩) := rfl
@[go_sem] theorem Vd {n sz : Nat} {rows : List (List FV)} : jH σ (.own key n) (.own sz rows) = bko σ key (key % 2) := by
  simp only [jH]
  rcases Nat.mod_two_eq_zero_or_one key with h | h
  · rw [h, if_neg (by decide)]; rfl
  · rw [h, if_pos rfl, Xf]
    cases get σ.ob key with
    | none => rfl
    | some o => cases o <;> rfl
@[go_sem] theorem Ve {sz : Nat} {rows : List (List FV)} : jH σ .fG (.own sz rows) = some (.any, σ) := rfl
@[go_sem] theorem Vf {x : PL} : jH σ x .any = some (.any, σ) := by cases x <;> first | rfl | (rename_i a b; cases b <;> rfl)
@[go_sem] theorem Xg {x : PL} {cs : List FV} : jH σ x (.fp cs) = some (.fp cs, σ) := by cases x <;> first | rfl | (rename_i a b; cases b <;> rfl)
@[go_sem] theorem Xh {x : PL} {f : FuncId} {cs : List (List FV)} : jH σ x (.fn f cs) = some (.fn f cs, σ) := by cases x <;> first | rfl | (rename_i a b; cases b <;> rfl)
@[go_sem ↓] theorem Qj {cs : List CL} : W k u (jH σ (.ptr key 0) (.ptr cs)) ↔ key % 2 = 1 ∧ W k ⟨⟩ (outT σ (.ptr key 0)) := by simp only [jH, dR, bO]
@[go_sem ↓] theorem SG {sh : KS} {ents : List (KV × FC)} : W k u (jH σ (.mp key) (.mp sh ents)) ↔ key % 2 = 1 ∧ W k ⟨⟩ (outT σ (.mp key)) := by simp only [jH, dR, bO]
end
section
variable {k : List TV × St → Prop} {u : Tok k}
@[go_sem ↓] theorem Qk : W k u (uN σ []) ↔ k ([], σ) := gI
@[go_sem ↓] theorem M7 {x : PL} {xs : List PL} : W k u (uN σ (x :: xs)) ↔ W (fun p => W (fun r => k (p.1 :: r.1, r.2)) ⟨⟩ (uN p.2 xs)) ⟨⟩ (outT σ x) := by
  simp only [uN, dR, bB, bY]
@[go_sem ↓] theorem M8 : W k u (nJ σ [] []) ↔ k ([], σ) := by simp only [nJ, dR, bJ]
@[go_sem ↓] theorem LZ {l : PL} {ls : List PL} {x : TV} {xs : List TV} : W k u (nJ σ (l :: ls) (x :: xs)) ↔ W (fun p => W (fun r => k (p.1 :: r.1, r.2)) ⟨⟩ (nJ p.2 ls xs)) ⟨⟩ (jH σ l x) := by
  simp only [nJ, dR, bB, bY]
end
section
variable {k : AV × St → Prop} {u : Tok k}
@[go_sem ↓] theorem I9 {x : PL} : W k u (Ab none σ (.one x)) ↔ W (fun p => k (.one p.1, p.2)) ⟨⟩ (outT σ x) := by simp only [Ab, Mh, dR, bY]
@[go_sem ↓] theorem Ja {xs : List PL} : W k u (Ab none σ (.agg xs)) ↔ W (fun p => k (.agg p.1, p.2)) ⟨⟩ (uN σ xs) := by simp only [Ab, Mh, dR, bY]
@[go_sem ↓] theorem Ql {sz : Nat} {x : PL} : W k u (Ab (some sz) σ (.one x)) ↔ W (fun p => k (.one p.1, p.2)) ⟨⟩ (Aa sz σ x) := by simp only [Ab, dR, bY]
@[go_sem ↓] theorem Qm {l : PL} {x : TV} : W k u (wz σ (.one l) (.one x)) ↔ W (fun p => k (.one p.1, p.2)) ⟨⟩ (jH σ l x) := by simp only [wz, dR, bY]
@[go_sem ↓] theorem Qo {l : List PL} {x : List TV} : W k u (wz σ (.agg l) (.agg x)) ↔ W (fun p => k (.agg p.1, p.2)) ⟨⟩ (nJ σ l x) := by simp only [wz, dR, bY]
end
section
variable {k : List AV × St → Prop} {u : Tok k}
@[go_sem ↓] theorem Qp {fl : List (Option Nat)} : W k u (mW fl σ []) ↔ k ([], σ) := by simp only [mW, dR, bJ]
@[go_sem ↓] theorem M9 {fl : List (Option Nat)} {x : CV} {xs : List CV} : W k u (mW fl σ (x :: xs)) ↔ W (fun p => W (fun r => k (p.1 :: r.1, r.2)) ⟨⟩ (mW fl.tail p.2 xs)) ⟨⟩ (Ab (fl.headD none) σ x) := by
  simp only [mW, dR, bB, bY]
@[go_sem ↓] theorem Na : W k u (kG σ [] []) ↔ k ([], σ) := by simp only [kG, dR, bJ]
@[go_sem ↓] theorem L6 {l : CV} {ls : List CV} {x : AV} {xs : List AV} : W k u (kG σ (l :: ls) (x :: xs)) ↔ W (fun p => W (fun r => k (p.1 :: r.1, r.2)) ⟨⟩ (kG p.2 ls xs)) ⟨⟩ (wz σ l x) := by
  simp only [kG, dR, bB, bY]
end
section
variable {k : St → Prop} {u : Tok k} {gv : Bool} {d : Nat} {args : List CV} {p : List AV × St} {r : List AV × List AV} {s : St}
@[go_sem ↓] theorem adn : W k u (Ey gv args p r) ↔ (if (!gv && ((r.1.any vk || !p.1.all fE) && args.any (fun x => (cells x).any gu))) = true then W k ⟨⟩ (rA p.2 args) else k p.2) := by
  simp only [Ey, dR]
  split
  · exact Iff.rfl
  · exact bJ
@[go_sem ↓] theorem ado : W k u (Ez d σ args p r s) ↔ (if p.1.all fE = true then k s else W k ⟨⟩ (yE σ (args.flatMap cells) (dB d + 10000) s args r.2)) := by
  simp only [Ez, dR]
  split
  · exact bJ
  · exact Iff.rfl
end
end
section
variable {σ : St} {ks BK : List Nat} {rws : List (Nat × Nat)}
@[go_sem] theorem adp : res ks BK rws σ = ⟨pick ks (jo σ rws).tm, pick BK (jo σ rws).ob⟩ := rfl
@[go_sem] theorem aaJ : jo σ [] = σ := rfl
end
attribute [go_sem] if_true if_false true_and and_true Bool.not_false Bool.not_true Bool.and_false Bool.false_and Bool.and_true Bool.true_and Bool.or_false Bool.false_or Bool.or_true Bool.true_or Bool.false_eq_true not_true_eq_false not_false_eq_true ne_eq forall_const and_self implies_true KV.one.injEq KV.agg.injEq SV.str.injEq SV.int.injEq SV.bool.injEq List.cons.injEq List.getElem?_cons_zero List.getElem?_cons_succ List.getD_cons_zero List.getD_cons_succ List.contains_cons List.contains_nil decide_true decide_false fresh
end Go.Proofs.Ytdkkgecdhapfhaa.Ev

/- A part of the proof of StoreOld: cut, joined and given short names by a program of this session (wip/tools/pack.py); Lean checks it. No condition. -/
import Derived.Test.YtdkkgecdhapfhaaPSOldf
import Derived.Test.YtdkkgecdhapfhaaPSOldd
set_option linter.unusedSectionVars false
set_option linter.unusedSimpArgs false
set_option linter.unusedVariables false
namespace Go.Proofs.Ytdkkgecdhapfhaa.Ev
open Go
attribute [go_sem ↓] Ey J3 uw Ez EA
attribute [go_sem] gH
attribute [go_sem ↓] MQ J4 RP
section
variable {α β : Type} {k : α → Prop} {u : Tok k}
@[go_sem ↓] theorem acC {c : Prop} [Decidable c] {a b : Option α} : W k u (if c then a else b) ↔ (c → W k u a) ∧ (¬ c → W k u b) := V7
end
def Hu : CV → Option (Nat × Nat)
  | .one (.ptr k o) => some (k, o)
  | _ => none
def qd : CV → Option ByteArray
  | .one (.f (.str s)) => some s
  | _ => none
def J7 : CV → Option (List PL)
  | .agg l => some l
  | _ => none
def RQ : PV → Option (List CV)
  | .tZ l => some l
  | _ => none
@[go_sem] theorem V9 {l : List CV} : RQ (.tZ l) = some l := rfl
def ZG (off : Nat) : CV → Option CV
  | .one (.ptr key o) => some (.one (.ptr key (o + off)))
  | .one (.fp cs) => some (.one (.fp (cs.drop off)))
  | .one (.rp key z i o) => some (.one (.rp key z i (o + off)))
  | _ => none
@[go_sem] theorem ZH {off k o : Nat} : ZG off (.one (.ptr k o)) = some (.one (.ptr k (o + off))) := rfl
@[go_sem] theorem acD {off : Nat} {cs : List FV} : ZG off (.one (.fp cs)) = some (.one (.fp (cs.drop off))) := rfl
@[go_sem] theorem acE {off k z i o : Nat} : ZG off (.one (.rp k z i o)) = some (.one (.rp k z i (o + off))) := rfl
def RS : CV → Option Bool
  | .one .fG => some true
  | .one (.f (.sl (_ :: _))) => some false
  | _ => none
@[go_sem] theorem acF : RS (.one .fG) = some true := rfl
@[go_sem] theorem acG {r : List FV} {l : List (List FV)} : RS (.one (.f (.sl (r :: l)))) = some false := rfl
section
variable {α : Type}
@[go_sem] theorem get_nil {i : Nat} : get ([] : List (Nat × α)) i = none := rfl
@[go_sem] theorem Wd {k : Nat} {v : α} {l : List (Nat × α)} {i : Nat} : get ((k, v) :: l) i = if k = i then some v else get l i := rfl
@[go_sem] theorem ZI {i : Nat} : rem ([] : List (Nat × α)) i = [] := rfl
@[go_sem] theorem Wh {k : Nat} {v : α} {l : List (Nat × α)} {i : Nat} : rem ((k, v) :: l) i = if k = i then rem l i else (k, v) :: rem l i := rfl
@[go_sem] theorem ZJ {i : Nat} {v : α} : put ([] : List (Nat × α)) i v = [(i, v)] := rfl
@[go_sem] theorem Wi {k : Nat} {w : α} {l : List (Nat × α)} {i : Nat} {v : α} : put ((k, w) :: l) i v = if k = i then (i, v) :: rem l i else (k, w) :: put l i v := rfl
def J8 (k : Nat) (r : List (Nat × α)) : Option α → List (Nat × α)
  | some v => (k, v) :: r
  | none => r
@[go_sem] theorem RU {k : Nat} {v : α} {r : List (Nat × α)} : J8 k r (some v) = (k, v) :: r := rfl
@[go_sem] theorem RV {k : Nat} {r : List (Nat × α)} : J8 k r none = r := rfl
@[go_sem] theorem Wj {l : List (Nat × α)} : pick [] l = [] := rfl
@[go_sem] theorem Uv {k : Nat} {ks : List Nat} {l : List (Nat × α)} : pick (k :: ks) l = J8 k (pick ks l) (get l k) := by
  unfold pick
  rw [List.filterMap_cons]
  cases get l k <;> rfl
end
section
variable {Γ : Env} {F d : Nat} {q : Bool} {σ : St}
section
variable {k : Out × St → Prop} {u : Tok k}
@[go_sem ↓] theorem acH : W k u (ev Γ F .skip σ) ↔ k (.jq, σ) := by simp only [ev]; exact gH
@[go_sem ↓] theorem ad1 {is : List G} {ks : List Nat} : W k u (ev Γ F (.reg is ks) σ) ↔ W (fun s => W k ⟨⟩ (some (.jq, ⟨pick ks s.tm, s.ob⟩))) ⟨⟩ (BX Γ false is σ) := by simp only [ev, dR, bY, bJ]
@[go_sem ↓] theorem ad2 {pre : List (G × List Nat)} {lC : List Nat} {jG rest : List G} {ks : List Nat} : W k u (ev Γ F (.rA pre lC jG rest ks) σ) ↔ W (fun s => W k ⟨⟩ (some (.jq, ⟨pick ks s.tm, s.ob⟩))) ⟨⟩ (Ut Γ pre lC jG rest σ) := by simp only [ev, dR, bY, bJ]
@[go_sem ↓] theorem Wm {gs : List G} {ks q9 : List Nat} {r : St} : nU Γ gs ks q9 σ r [] ↔ True := Iff.rfl
@[go_sem ↓] theorem Uw {gs : List G} {ks q9 : List Nat} {r : St} {o : List Nat} {os : List (List Nat)} : nU Γ gs ks q9 σ r (o :: os) ↔ W (fun s => W (fun t => t = r) ⟨⟩ (some (⟨pick ks s.tm, pick q9 s.ob⟩ : St))) ⟨⟩ (BX Γ false (o.map fun i => gs.getD i default) σ) ∧ nU Γ gs ks q9 σ r os := by
  conv => lhs; unfold nU
  simp only [dR, V, Option.some.injEq, exists_eq_left']
@[go_sem ↓] theorem ad3 {gs : List G} {o : List Nat} {os : List (List Nat)} {ks q9 : List Nat} : W k u (ev Γ F (.any gs (o :: os) ks q9) σ) ↔ W (fun s => W (fun r => nU Γ gs ks q9 σ r os ∧ W k ⟨⟩ (some (.jq, r))) ⟨⟩ (some (⟨pick ks s.tm, pick q9 s.ob⟩ : St))) ⟨⟩ (BX Γ false (o.map fun i => gs.getD i default) σ) := by
  simp only [ev, evO, dR, bB, bO, bJ]
@[go_sem ↓] theorem ad4 {a b : CC} : W k u (ev Γ F (.seq a b) σ) ↔ W (fun p => match p.1 with
    | .jq => W k ⟨⟩ (ev Γ F b p.2)
    | o => k (o, p.2)) ⟨⟩ (ev Γ F a σ) := by
  simp only [ev, dR, bB]
  refine dH fun p => ?_
  obtain ⟨o, s⟩ := p
  cases o <;> first | rfl | exact bJ
@[go_sem ↓] theorem acI {c : d9} {a b : CC} : W k u (ev Γ F (.cond c a b) σ) ↔ W (fun v => W (fun t => Br t (fun _ => W k ⟨⟩ (ev Γ F a σ)) (fun _ => W k ⟨⟩ (ev Γ F b σ)) ⟨⟩) ⟨⟩ (bool? v)) ⟨⟩ (val σ c) := by
  simp only [ev, dR, bB]
  refine dH fun v => dH fun t => ?_
  cases t <;> simp [Br, dR]
@[go_sem ↓] theorem ZK {id : Nat} {c : CC} : W k u (ev Γ F (.block id c) σ) ↔ W (fun p => match p.1 with
    | .ext i => if i = id then k (.jq, p.2) else k (.ext i, p.2)
    | o => k (o, p.2)) ⟨⟩ (ev Γ F c σ) := by
  simp only [ev, dR, bY]
  refine dH fun p => ?_
  obtain ⟨o, s⟩ := p
  cases o with
  | ext i => by_cases hi : i = id <;> simp [hi]
  | _ => exact Iff.rfl
@[go_sem ↓] theorem uz {keep BN : List Nat} {rws : List (Nat × Nat)} {c : CC} : W k u (ev Γ F (.loop keep BN rws c) σ) ↔ W k u (iter (ev Γ F c) (res keep BN rws) F σ) := by simp only [ev]
@[go_sem ↓] theorem acJ {id : Nat} : W k u (ev Γ F (.exit id) σ) ↔ k (.ext id, σ) := by simp only [ev]; exact gH
@[go_sem ↓] theorem ad5 : W k u (ev Γ F .ret σ) ↔ k (.ret, σ) := by simp only [ev]; exact gH
end
section
variable {k : St → Prop} {u : Tok k}
@[go_sem ↓] theorem Ux : W k u (BX Γ q [] σ) ↔ k σ := gH
@[go_sem ↓] theorem RX {g : G} {l : List G} : W k u (BX Γ q (g :: l) σ) ↔ W (fun s => W k ⟨⟩ (BX Γ q l s)) ⟨⟩ (Pz Γ q σ g) := by
  show W k u ((Pz Γ q σ g).bind (BX Γ q l)) ↔ _
  rw [Ey]
@[go_sem ↓] theorem ad6 {g : G} : W k u (Pz Γ q σ g) ↔ W (fun p => W k ⟨⟩ (some (rH p.2 g.dst p.1))) ⟨⟩ (lM Γ q σ g) := by simp only [Pz, dR, bY, bJ]
def RY (f : Nat → Option (PV × St)) : List Nat → Prop
  | [] => True
  | j :: l => W (fun _ => True) ⟨⟩ (f j) ∧ RY f l
theorem FT {f : Nat → Option (PV × St)} : ∀ {l : List Nat}, l.all (fun j => (f j).isSome) = true ↔ RY f l
  | [] => by simp [RY]
  | j :: l => by
    rw [List.all_cons, Bool.and_eq_true, FT (l := l)]
    refine and_congr_left fun _ => ?_
    cases h : f j with
    | none => simp [uw]
    | some y => simp [gH]
@[go_sem ↓] theorem ZL {f : Nat → Option (PV × St)} : RY f [] ↔ True := Iff.rfl
@[go_sem ↓] theorem Wn {f : Nat → Option (PV × St)} {j : Nat} {l : List Nat} : RY f (j :: l) ↔ W (fun _ => True) ⟨⟩ (f j) ∧ RY f l := Iff.rfl
def wkv : Option CV → List Nat
  | some (.one (.ptr k _)) => [k]
  | _ => []
@[go_sem] theorem ZM {k o : Nat} : wkv (some (.one (.ptr k o))) = [k] := rfl
@[go_sem] theorem ZN {tm : List (Nat × PV)} {dst : Option Nat} {gd : Option (Option Nat × Bool)} {n : Nat} {x y : d9} : rM tm ⟨dst, gd, .store n x y⟩ = wkv (val ⟨tm, []⟩ x) := by
  show (match val ⟨tm, []⟩ x with | some (.one (.ptr k _)) => [k] | _ => []) = _
  cases val ⟨tm, []⟩ x with
  | none => rfl
  | some v => cases v with
    | one y => cases y <;> rfl
    | agg _ => rfl
@[go_sem ↓] theorem ad7 {pre : List (G × List Nat)} {lC : List Nat} {jG rest : List G} : W k u (Ut Γ pre lC jG rest σ) ↔ pre.all (fun g => !jB g.1.i || fresh σ (dD (g.1.dst.getD 999))) = true ∧ W (fun s => W (fun tm => RY (fun j => lM Γ true ⟨tm, σ.ob.filter (fun p => !(jG.flatMap (rM tm)).contains p.1)⟩ (pre.getD j default).1) lC ∧ W (fun ob => W (fun s => W k ⟨⟩ (BX Γ false rest s)) ⟨⟩ (some ⟨tm, ob⟩)) ⟨⟩ (Jj Γ tm jG s.ob)) ⟨⟩ (some (pick (s.tm.map (·.1)) s.tm))) ⟨⟩ (Mg Γ σ.ob pre σ) := by
  simp only [Ut, dR, bB, bO, bJ, ← FT]
@[go_sem ↓] theorem Uy {qx : List (Nat × Ob)} : W k u (Mg Γ qx [] σ) ↔ k σ := gH
@[go_sem ↓] theorem RZ {qx : List (Nat × Ob)} {g : G} {nk : List Nat} {l : List (G × List Nat)} : W k u (Mg Γ qx ((g, nk) :: l) σ) ↔ W (fun p => nk.any (fun k => qw k p.1 || (jB g.i && (p.2.ob.take 1).any (fun r => r.1 == k || lK k r.2))) = false ∧ W (fun s => W k ⟨⟩ (Mg Γ qx l s)) ⟨⟩ (some ⟨rJ g.dst σ.tm p.1, if jB g.i then p.2.ob.take 1 ++ σ.ob else σ.ob⟩)) ⟨⟩ (lM Γ true ⟨σ.tm, qx⟩ g) := by
  conv => lhs; unfold Mg
  simp only [dR, bB, dG, bJ, Bool.not_eq_true]
end
section
variable {k : List (Nat × Ob) → Prop} {u : Tok k} {tm : List (Nat × PV)} {ob : List (Nat × Ob)}
@[go_sem ↓] theorem Uz : W k u (Jj Γ tm [] ob) ↔ k ob := gH
@[go_sem ↓] theorem R3 {n : Nat} {x y : d9} {dst : Option Nat} {gd : Option (Option Nat × Bool)} {l : List G} : W k u (Jj Γ tm (⟨dst, gd, .store n x y⟩ :: l) ob) ↔ W (fun v => W (fun _ => W (fun p => W k ⟨⟩ (Jj Γ tm l p.2.ob)) ⟨⟩ (cZ Γ true ⟨tm, ob⟩ 999 (.store n x y))) ⟨⟩ (Hu v)) ⟨⟩ (val ⟨tm, ob⟩ x) := by
  conv => lhs; unfold Jj
  simp only
  cases hv : val ⟨tm, ob⟩ x with
  | none => simp only [uw]
  | some v =>
    rw [gH]
    cases v with
    | one y => cases y <;> simp only [Hu, dR, jV, bJ, bB]
    | agg xs => simp only [Hu, uw]
end
section
variable {i : Nat}
def vl : Option PV → Option CV
  | some (.c x) => some x
  | _ => none
@[go_sem] theorem ZO {x : CV} : vl (some (.c x)) = some x := rfl
@[go_sem] theorem Wo : val σ (.t i) = vl (get σ.tm i) := by simp only [val]; cases get σ.tm i with | none => rfl | some v => cases v <;> rfl
@[go_sem] theorem ad8 {x : CV} : val σ (.k x) = some x := rfl
@[go_sem] theorem acK : rG σ (.t i) = get σ.tm i := rfl
@[go_sem] theorem acL {x : CV} : rG σ (.k x) = some (.c x) := rfl
@[go_sem] theorem Wp {k : IntKind} {n : Int} : int? (.one (.f (.int k n))) = some (k, n) := rfl
@[go_sem] theorem R4 {b : Bool} : bool? (.one (.f (.bool b))) = some b := rfl
@[go_sem] theorem Wq {k o : Nat} : Hu (.one (.ptr k o)) = some (k, o) := rfl
@[go_sem] theorem Ws {s : ByteArray} : qd (.one (.f (.str s))) = some s := rfl
@[go_sem] theorem Wt {l : List PL} : J7 (.agg l) = some l := rfl
@[go_sem] theorem cells_one {x : PL} : cells (.one x) = [x] := rfl
@[go_sem] theorem UA {xs : List PL} : cells (.agg xs) = xs := rfl
def oc : Option Ob → Option (List PL)
  | some (.mK xs) => some xs
  | _ => none
def J9 : Option Ob → Option (Nat × List (List FV))
  | some (.row sz rows) => some (sz, rows)
  | _ => none
def om : Option Ob → Option (KS × List (KV × FC))
  | some (.map sh ents) => some (sh, ents)
  | _ => none
@[go_sem] theorem acM {xs : List PL} : oc (some (.mK xs)) = some xs := rfl
@[go_sem] theorem ZP {sz : Nat} {rows : List (List FV)} : J9 (some (.row sz rows)) = some (sz, rows) := rfl
@[go_sem] theorem acN {sh : KS} {ents : List (KV × FC)} : om (some (.map sh ents)) = some (sh, ents) := rfl
def gb (want : Bool) : Option PV → Option Bool
  | some (.c (.one (.f (.bool b)))) => some (b == want)
  | some (.c (.one .und)) => some false
  | _ => none
@[go_sem] theorem ZR {b : Bool} : gb true (some (.c (.one (.f (.bool b))))) = some b := by cases b <;> rfl
@[go_sem] theorem Wu {b : Bool} : gb false (some (.c (.one (.f (.bool b))))) = some (!b) := by cases b <;> rfl
@[go_sem] theorem acO {w : Bool} : gb w (some (.c (.one .und))) = some false := rfl
@[go_sem] theorem UC {v : PV} : rH σ (some i) v = ⟨put σ.tm i v, σ.ob⟩ := rfl
@[go_sem] theorem UD {v : PV} : rH σ none v = σ := rfl
@[go_sem] theorem UE {tm : List (Nat × PV)} {v : PV} : rJ (some i) tm v = put tm i v := rfl
@[go_sem] theorem UF {tm : List (Nat × PV)} {v : PV} : rJ none tm v = tm := rfl
end
section
variable {α : Type} {n off : Nat} {x : α} {xs ys : List α}
@[go_sem] theorem Wv : seg 0 0 xs = some [] := by simp [seg]
@[go_sem] theorem Ww : seg (n + 1) 0 (x :: xs) = (seg n 0 xs).map (x :: ·) := by
  unfold seg
  simp only [Nat.zero_add, List.length_cons, Nat.add_le_add_iff_right, List.drop_zero, List.take_succ_cons]
  split <;> rfl
@[go_sem] theorem Wx : seg n (off + 1) (x :: xs) = seg n off xs := by
  unfold seg
  simp only [List.length_cons, List.drop_succ_cons]
  by_cases h : off + n ≤ xs.length
  · rw [if_pos h, if_pos (by omega)]
  · rw [if_neg h, if_neg (by omega)]
@[go_sem] theorem ZT : lay 0 ([] : List α) xs = some xs := by simp [lay]
@[go_sem] theorem ZU {y : α} : lay 0 (y :: ys) (x :: xs) = (lay 0 ys xs).map (y :: ·) := by
  unfold lay
  simp only [Nat.zero_add, List.length_cons, Nat.add_le_add_iff_right, List.take_zero, List.drop_succ_cons, List.nil_append, List.cons_append]
  split <;> rfl
@[go_sem] theorem Wy : lay (off + 1) ys (x :: xs) = (lay off ys xs).map (x :: ·) := by
  unfold lay
  simp only [List.length_cons, List.take_succ_cons]
  rw [show off + 1 + ys.length = off + ys.length + 1 from by omega]
  by_cases h : off + ys.length ≤ xs.length
  · rw [if_pos h, if_pos (by omega)]; rfl
  · rw [if_neg h, if_neg (by omega)]; rfl
end
@[go_sem] theorem acP {xs : List PL} : mk true xs = some (.agg xs) := rfl
@[go_sem] theorem mk_one {x : PL} : mk false [x] = some (.one x) := rfl
def nV (σ : St) (key : Nat) : Option (List PL) := oc (get σ.ob key)
def iy (σ : St) (key : Nat) : Option (Nat × List (List FV)) := J9 (get σ.ob key)
def nL (σ : St) (key : Nat) : Option (KS × List (KV × FC)) := om (get σ.ob key)
attribute [go_sem] nV iy nL Option.map_some Option.map_none Option.bind_some Option.bind_none
def jW (σ : St) (n : Nat) : CV → Option (List PL)
  | .one (.ptr key off) => (nV σ key).bind (seg n off)
  | .one (.fp cs) => (seg n 0 cs).map (·.map .f)
  | .one (.rp key z i off) => (iy σ key).bind fun p => if p.1 ≠ z then none else p.2[i]?.bind fun r => (seg n off r).map (·.map .f)
  | _ => none
@[go_sem ↓] theorem PS {n key off : Nat} : jW σ n (.one (.ptr key off)) = (nV σ key).bind (seg n off) := rfl
@[go_sem] theorem R5 {n : Nat} {cs : List FV} : jW σ n (.one (.fp cs)) = (seg n 0 cs).map (·.map .f) := rfl
section
variable {k : List PL → Prop} {u : Tok k}
@[go_sem ↓] theorem PU {n key off : Nat} : W k u (jW σ n (.one (.ptr key off))) ↔ W (fun xs => W k ⟨⟩ (seg n off xs)) ⟨⟩ (nV σ key) := Ey
@[go_sem ↓] theorem R6 {n : Nat} {cs : List FV} : W k u (jW σ n (.one (.fp cs))) ↔ W (fun l => k (l.map .f)) ⟨⟩ (seg n 0 cs) := J3
@[go_sem ↓] theorem R7 {n key z i off : Nat} : W k u (jW σ n (.one (.rp key z i off))) ↔ W (fun p => p.1 = z ∧ W (fun r => W (fun l => k (l.map .f)) ⟨⟩ (seg n off r)) ⟨⟩ (p.2[i]?)) ⟨⟩ (iy σ key) := by
  simp only [jW, dR, bB, bY, dG, ne_eq, Decidable.not_not]
end
section
variable {k : PV × St → Prop} {u : Tok k} {x y c : d9}
@[go_sem ↓] theorem acQ {dst : Option Nat} {i : I} : W k u (lM Γ q σ ⟨dst, none, i⟩) ↔ W k u (cZ Γ q σ (dst.getD 999) i) := Iff.rfl
@[go_sem ↓] theorem UG {dst : Option Nat} {s : Nat} {want : Bool} {i : I} : W k u (lM Γ q σ ⟨dst, some (some s, want), i⟩) ↔ W (fun w => Br w (fun _ => W k ⟨⟩ (cZ Γ q σ (dst.getD 999) i)) (fun _ => k (.c (.one .und), σ)) ⟨⟩) ⟨⟩ (gb want (get σ.tm s)) := by
  have h : yH σ (some (some s, want)) = gb want (get σ.tm s) := by
    simp only [yH]
    cases get σ.tm s with
    | none => rfl
    | some v =>
      cases v with
      | tZ l => rfl
      | c x =>
        cases x with
        | agg l => rfl
        | one p =>
          cases p with
          | f z => cases z <;> rfl
          | _ => rfl
  simp only [lM, dR, bB, h]
  refine dH fun t => ?_
  cases t <;> simp [bJ, Br, dR]
@[go_sem ↓] theorem afZ : W k u (cZ Γ q σ d (.mv x)) ↔ W (fun v => k (v, σ)) ⟨⟩ (rG σ x) := by simp only [cZ]; exact J3
@[go_sem ↓] theorem acR : W k u (cZ Γ q σ d (.pick c x y)) ↔ W (fun v => W (fun t => Br t (fun _ => W (fun z => k (.c z, σ)) ⟨⟩ (val σ x)) (fun _ => W (fun z => k (.c z, σ)) ⟨⟩ (val σ y)) ⟨⟩) ⟨⟩ (bool? v)) ⟨⟩ (val σ c) := by
  simp only [cZ, dR, bB, bY]
  refine dH fun v => dH fun t => ?_
  cases t <;> simp [Br, dR]
@[go_sem ↓] theorem ZV {e : TypeId} {z : List PL} : W k u (cZ Γ q σ d (.alloc e z)) ↔ z.any (dW (dD d)) = false ∧ W (fun s => k (.c (.one (.ptr (dD d) 0)), s)) ⟨⟩ (new σ (dD d) (.mK z)) := by
  simp only [cZ, dR, dG, gY, bY, Bool.not_eq_true]
@[go_sem ↓] theorem ad9 {e : TypeId} : W k u (cZ Γ q σ d (.box e x)) ↔ W (fun v => ((cells v).any nZ || (cells v).any (dW (dD d))) = false ∧ W (fun s => k (.c (.one (.ptr (dD d) 0)), s)) ⟨⟩ (new σ (dD d) (.mK (cells v)))) ⟨⟩ (val σ x) := by
  simp only [cZ, dR, bB, dG, gY, bY, Bool.not_eq_true]
@[go_sem ↓] theorem ZW {z : List PL} {ps : List (Nat × Nat × d9)} : W k u (cZ Γ q σ d (.build z ps)) ↔ W (fun l => W (fun z => k (.c (.agg z), σ)) ⟨⟩ (fill z l)) ⟨⟩ (vals σ ps) := by
  simp only [cZ, dR, bB, bY]
@[go_sem ↓] theorem aea {e : TypeId} {sz len : Nat} {z : List PL} {ps : List (Nat × Nat × d9)} : W k u (cZ Γ q σ d (.Fj e sz len z ps)) ↔ W (fun l => W (fun z => (q && z.any gu) = false ∧ W (fun p => W (fun s => k (.c (.one (.own (dD d) len)), s)) ⟨⟩ (new p.2 (dD d) (.row sz (rowsOf sz len p.1)))) ⟨⟩ (kF σ z)) ⟨⟩ (fill z l)) ⟨⟩ (vals σ ps) := by
  simp only [cZ, dR, bB, dG, gY, bY, Bool.not_eq_true]
@[go_sem ↓] theorem acS {n : Nat} {agg : Bool} : W k u (cZ Γ q σ d (.load n agg x)) ↔ W (fun v => W (fun l => W (fun z => k (.c z, σ)) ⟨⟩ (mk agg l)) ⟨⟩ (jW σ n v)) ⟨⟩ (val σ x) := by
  have h : cZ Γ q σ d (.load n agg x) = (val σ x).bind fun v => (jW σ n v).bind fun l => (mk agg l).map fun z => (.c z, σ) := by
    simp only [cZ]
    congr 1
    funext v
    cases v with
    | agg l => rfl
    | one p =>
      cases p with
      | ptr key off => simp only [jW, nV]; cases get σ.ob key with | none => rfl | some o => cases o <;> rfl
      | fp cs => simp only [jW]; cases seg n 0 cs <;> rfl
      | rp key z i off =>
        simp only [jW, iy]
        cases get σ.ob key with
        | none => rfl
        | some o =>
          cases o with
          | row sz rows =>
            simp only [J9, Option.bind_some]
            split
            · rfl
            · cases rows[i]? with
              | none => rfl
              | some r => simp only [Option.bind_some]; cases seg n off r <;> rfl
          | _ => rfl
      | _ => rfl
  rw [h]
  simp only [dR, bB, bY]
def CS (q : Bool) (σ : St) (ys : List PL) : CV → Option St
  | .one (.ptr key off) => (nV σ key).bind fun xs => (lay off ys xs).map fun l => jc σ key (.mK l)
  | .one (.rp key z i off) => if q && ys.any gu then none else (kF σ ys).bind fun p => (iy p.2 key).bind fun o => if o.1 ≠ z then none else o.2[i]?.bind fun r => (lay off p.1 r).map fun l => jc p.2 key (.row o.1 (o.2.set i l))
  | _ => none
@[go_sem ↓] theorem ZX {n : Nat} : W k u (cZ Γ q σ d (.store n x y)) ↔ W (fun v => W (fun z => ((cells z).length = n ∧ (cells z).any nZ = false) ∧ W (fun s => k (.c (.one .und), s)) ⟨⟩ (CS q σ (cells z) v)) ⟨⟩ (val σ y)) ⟨⟩ (val σ x) := by
  have h : cZ Γ q σ d (.store n x y) = (val σ x).bind fun v => (val σ y).bind fun z => if (cells z).length = n ∧ (cells z).any nZ = false then (CS q σ (cells z) v).map fun s => (.c (.one .und), s) else none := by
    simp only [cZ]
    congr 1
    funext v
    congr 1
    funext z
    split
    · cases v with
      | agg l => rfl
      | one p =>
        cases p with
        | ptr key off =>
          simp only [CS, nV]
          cases get σ.ob key with
          | none => rfl
          | some o => cases o <;> first | rfl | (simp only [oc, Option.bind_some, Option.map_map]; rfl)
        | rp key zz i off =>
          simp only [CS, iy]
          split
          · rfl
          · cases kF σ (cells z) with
            | none => rfl
            | some p =>
              simp only [Option.bind_some]
              cases get p.2.ob key with
              | none => rfl
              | some o =>
                cases o with
                | row sz rows =>
                  simp only [J9, Option.bind_some]
                  split
                  · rfl
                  · cases rows[i]? with
                    | none => rfl
                    | some r => simp only [Option.bind_some, Option.map_map]; rfl
                | _ => rfl
        | _ => rfl
    · rfl
  rw [h]
  simp only [dR, bB, bO, bY]
end
section
variable {k : St → Prop} {u : Tok k}
@[go_sem ↓] theorem R8 {ys : List PL} {key off : Nat} : W k u (CS q σ ys (.one (.ptr key off))) ↔ W (fun xs => W (fun l => k (jc σ key (.mK l))) ⟨⟩ (lay off ys xs)) ⟨⟩ (nV σ key) := by
  simp only [CS, dR, bB, bY]
@[go_sem ↓] theorem UH {ys : List PL} {key z i off : Nat} : W k u (CS q σ ys (.one (.rp key z i off))) ↔ (q && ys.any gu) = false ∧ W (fun p => W (fun o => o.1 = z ∧ W (fun r => W (fun l => k (jc p.2 key (.row o.1 (o.2.set i l)))) ⟨⟩ (lay off p.1 r)) ⟨⟩ (o.2[i]?)) ⟨⟩ (iy p.2 key)) ⟨⟩ (kF σ ys) := by
  simp only [CS, dR, dG, bB, bY, ne_eq, Decidable.not_not, Bool.not_eq_true]
end
end
end Go.Proofs.Ytdkkgecdhapfhaa.Ev
namespace Go.Proofs.Ytdkkgecdhapfhaa.Ev
open Go
section
variable {Γ : Env} {F d : Nat} {q : Bool} {σ : St} {k : PV × St → Prop} {u : Tok k} {x y z : d9}
def MR : CV → Option CV
  | .one (.ptr k o) => some (.one (.ptr k o))
  | .one (.fp cs) => some (.one (.fp cs))
  | .one (.rp k z i o) => some (.one (.rp k z i o))
  | _ => none
@[go_sem] theorem Wz {k o : Nat} : MR (.one (.ptr k o)) = some (.one (.ptr k o)) := rfl
@[go_sem] theorem ZY {cs : List FV} : MR (.one (.fp cs)) = some (.one (.fp cs)) := rfl
@[go_sem] theorem Z0 {k z i o : Nat} : MR (.one (.rp k z i o)) = some (.one (.rp k z i o)) := rfl
@[go_sem ↓] theorem acT : W k u (cZ Γ q σ d (.kW x)) ↔ W (fun v => W (fun w => k (.c w, σ)) ⟨⟩ (MR v)) ⟨⟩ (val σ x) := by
  simp only [cZ, dR, bB]
  refine dH fun v => ?_
  cases v with
  | agg l => exact bZ
  | one p => cases p <;> first | exact bZ | exact kY Iff.rfl
def WA : CV → Option Bool
  | .one .jo => some true
  | .one (.ptr _ _) => some false
  | .one (.fp _) => some false
  | .one (.rp _ _ _ _) => some false
  | _ => none
@[go_sem] theorem Z4 : WA (.one .jo) = some true := rfl
@[go_sem] theorem Z5 {k o : Nat} : WA (.one (.ptr k o)) = some false := rfl
@[go_sem] theorem acU {cs : List FV} : WA (.one (.fp cs)) = some false := rfl
@[go_sem] theorem acV {k z i o : Nat} : WA (.one (.rp k z i o)) = some false := rfl
@[go_sem ↓] theorem acW {neg : Bool} : W k u (cZ Γ q σ d (.mU neg x)) ↔ W (fun v => W (fun b => k (.c (.one (.f (.bool (if neg then !b else b)))), σ)) ⟨⟩ (WA v)) ⟨⟩ (val σ x) := by
  simp only [cZ, dR, bB]
  refine dH fun v => ?_
  cases v with
  | agg l => exact bZ
  | one p => cases p <;> first | exact bZ | (cases neg <;> exact kY Iff.rfl)
@[go_sem ↓] theorem af0 {off : Nat} : W k u (cZ Γ q σ d (.fa off x)) ↔ W (fun v => W (fun w => k (.c w, σ)) ⟨⟩ (ZG off v)) ⟨⟩ (val σ x) := by
  simp only [cZ, dR, bB]
  refine dH fun v => ?_
  cases v with
  | agg l => exact bZ
  | one p => cases p <;> first | exact bZ | exact kY Iff.rfl
@[go_sem ↓] theorem af2 {o : Ar} : W k u (cZ Γ q σ d (.ar o x y)) ↔ W (fun a => W (fun b => W (fun a => W (fun b => a.1 = b.1 ∧ W (fun n => k (.c (.one (.f (.int a.1 n))), σ)) ⟨⟩ (I6 o a.1 a.2 b.2)) ⟨⟩ (int? b)) ⟨⟩ (int? a)) ⟨⟩ (val σ y)) ⟨⟩ (val σ x) := by
  simp only [cZ, dR, bB, bO, one, bJ]
@[go_sem ↓] theorem aeb {o : Un} : W k u (cZ Γ q σ d (.cmp o x y)) ↔ W (fun a => W (fun b => W (fun a => W (fun b => a.1 = b.1 ∧ k (.c (.one (.f (.bool (wu o a.2 b.2)))), σ)) ⟨⟩ (int? b)) ⟨⟩ (int? a)) ⟨⟩ (val σ y)) ⟨⟩ (val σ x) := by
  simp only [cZ, dR, bB, bO, one, bJ]
@[go_sem] theorem Z6 {k : IntKind} {a b : Int} : I6 .add k a b = some (k.wrap (a + b)) := rfl
@[go_sem] theorem Z7 {k : IntKind} {a b : Int} : I6 .sub k a b = some (k.wrap (a - b)) := rfl
@[go_sem] theorem Z8 {k : IntKind} {a b : Int} : I6 .mul k a b = some (k.wrap (a * b)) := rfl
section
variable {k : Int → Prop} {u : Tok k} {kk : IntKind} {a b : Int}
@[go_sem ↓] theorem aec : W k u (I6 .quo kk a b) ↔ ¬ b = 0 ∧ k (kk.wrap (a.tdiv b)) := by simp only [I6, dR, dG, bJ]
@[go_sem ↓] theorem aed : W k u (I6 .rem kk a b) ↔ ¬ b = 0 ∧ k (a.tmod b) := by simp only [I6, dR, dG, bJ]
end
section
variable {a b : Int}
@[go_sem] theorem Z9 : wu .eq a b = decide (a = b) := rfl
@[go_sem] theorem aac : wu .ne a b = !decide (a = b) := rfl
@[go_sem] theorem aad : wu .lt a b = decide (a < b) := rfl
@[go_sem] theorem aae : wu .le a b = decide (a ≤ b) := rfl
@[go_sem] theorem aaf : wu .gt a b = decide (b < a) := rfl
@[go_sem] theorem aag : wu .ge a b = decide (b ≤ a) := rfl
end
@[go_sem ↓] theorem aee {sh : KS} {neg : Bool} : W k u (cZ Γ q σ d (.tY sh neg x y)) ↔ W (fun a => W (fun b => W (fun a => W (fun b => (a.ks = sh ∧ b.ks = sh) ∧ k (.c (.one (.f (.bool (if neg then !decide (a = b) else decide (a = b))))), σ)) ⟨⟩ (keyOf b)) ⟨⟩ (keyOf a)) ⟨⟩ (val σ y)) ⟨⟩ (val σ x) := by
  simp only [cZ, dR, bB, bO, one, bJ]
@[go_sem ↓] theorem aef : W k u (cZ Γ q σ d (.cat x y)) ↔ W (fun a => W (fun b => W (fun a => W (fun b => a.size + b.size ≤ 9223372036854775807 ∧ k (.c (.one (.f (.str (a ++ b)))), σ)) ⟨⟩ (qd b)) ⟨⟩ (qd a)) ⟨⟩ (val σ y)) ⟨⟩ (val σ x) := by
  simp only [cZ, dR, bB]
  refine dH fun v => dH fun w => ?_
  have no : V k none ↔ False := jV
  have nb : ∀ {g : ByteArray → Prop}, V g none ↔ False := jV
  have nn : ∀ {x : Option ByteArray}, V (fun _ : ByteArray => False) x ↔ False := by intro x; cases x <;> simp [V]
  cases v with
  | agg l => simp only [qd, no, nb]
  | one p =>
    cases p with
    | f a =>
      cases a with
      | str s =>
        cases w with
        | agg l => simp only [qd, no, nb, bJ]
        | one p =>
          cases p with
          | f b =>
            cases b with
            | str t => simp only [qd, bJ, bO, one]
            | _ => simp only [qd, no, nb, bJ]
          | _ => simp only [qd, no, nb, bJ]
      | _ => simp only [qd, no, nb]
    | _ => simp only [qd, no, nb]
@[go_sem ↓] theorem af3 : W k u (cZ Γ q σ d (.no x)) ↔ W (fun v => W (fun b => k (.c (.one (.f (.bool (!b)))), σ)) ⟨⟩ (bool? v)) ⟨⟩ (val σ x) := by
  simp only [cZ, dR, bB, one, bJ]
@[go_sem ↓] theorem af4 {kk : IntKind} : W k u (cZ Γ q σ d (.ci kk x)) ↔ W (fun v => W (fun a => k (.c (.one (.f (.int kk (kk.wrap a.2)))), σ)) ⟨⟩ (int? v)) ⟨⟩ (val σ x) := by
  simp only [cZ, dR, bB, one, bJ]
@[go_sem ↓] theorem aeg : W k u (cZ Γ q σ d (.mV x)) ↔ W (fun v => W (fun s => k (.c (.one (.f (.str s))), σ)) ⟨⟩ (qd v)) ⟨⟩ (val σ x) := by
  simp only [cZ, dR, bB]
  refine dH fun v => ?_
  cases v with
  | agg l => exact bZ
  | one p => cases p with
    | f a => cases a <;> first | exact bZ | exact kY Iff.rfl
    | _ => exact bZ
@[go_sem ↓] theorem aah {sh : KS} : W k u (cZ Γ q σ d (.rz sh)) ↔ W (fun s => k (.c (.one (.mp (dD d))), s)) ⟨⟩ (new σ (dD d) (.map sh [])) := by
  simp only [cZ, gY, dR, bY]
@[go_sem ↓] theorem af5 : W k u (cZ Γ q σ d (.mn x y)) ↔ W (fun a => W (fun b => W (fun a => W (fun b => a.1 = b.1 ∧ k (.c (.one (.f (.int a.1 (if b.2 < a.2 then b.2 else a.2)))), σ)) ⟨⟩ (int? b)) ⟨⟩ (int? a)) ⟨⟩ (val σ y)) ⟨⟩ (val σ x) := by
  simp only [cZ, dR, bB, bO, one, bJ]
@[go_sem ↓] theorem af6 : W k u (cZ Γ q σ d (.mx x y)) ↔ W (fun a => W (fun b => W (fun a => W (fun b => a.1 = b.1 ∧ k (.c (.one (.f (.int a.1 (if a.2 < b.2 then b.2 else a.2)))), σ)) ⟨⟩ (int? b)) ⟨⟩ (int? a)) ⟨⟩ (val σ y)) ⟨⟩ (val σ x) := by
  simp only [cZ, dR, bB, bO, one, bJ]
@[go_sem ↓] theorem aeh {o : BinOp} : W k u (cZ Γ q σ d (.bit o x y)) ↔ W (fun a => W (fun b => W (fun a => W (fun b => a.1 = b.1 ∧ k (.c (.one (.f (.int a.1 (Go.bits o a.1 a.2 b.2)))), σ)) ⟨⟩ (int? b)) ⟨⟩ (int? a)) ⟨⟩ (val σ y)) ⟨⟩ (val σ x) := by
  simp only [cZ, dR, bB, bO, one, bJ]
@[go_sem ↓] theorem aei {l : Bool} : W k u (cZ Γ q σ d (.QW l x y)) ↔ W (fun a => W (fun b => W (fun a => W (fun b => 0 ≤ b.2 ∧ k (.c (.one (.f (.int a.1 (if l then a.1.wrap (a.2 * 2 ^ (min b.2.toNat a.1.bits)) else a.2.fdiv (2 ^ (min b.2.toNat a.1.bits)))))), σ)) ⟨⟩ (int? b)) ⟨⟩ (int? a)) ⟨⟩ (val σ y)) ⟨⟩ (val σ x) := by
  simp only [cZ, dR, bB, bO, one, bJ]
@[go_sem ↓] theorem acX {lo hi : Option d9} : W k u (cZ Γ q σ d (.GZ x lo hi)) ↔ W (fun v => W (fun s => W (fun p => k (.c (.one (.f (.str (s.extract p.1 p.2)))), σ)) ⟨⟩ (rng s.size σ lo hi)) ⟨⟩ (qd v)) ⟨⟩ (val σ x) := by
  simp only [cZ, dR, bB]
  refine dH fun v => ?_
  cases v with
  | agg l => exact bZ
  | one p => cases p with
    | f a =>
      cases a with
      | str s => simp only [qd, bJ, bB, one]
      | _ => exact bZ
    | _ => exact bZ
section
variable {k : Nat × Nat → Prop} {u : Tok k} {len : Nat} {lo hi : Option d9}
@[go_sem ↓] theorem aej : W k u (rng len σ lo hi) ↔ W (fun h => W (fun l => k (l, h)) ⟨⟩ (bnd σ h lo 0)) ⟨⟩ (bnd σ len hi len) := by
  simp only [rng, dR, bB, bY]
end
section
variable {k : Nat → Prop} {u : Tok k} {len dd : Nat}
@[go_sem ↓] theorem R9 : W k u (bnd σ len none dd) ↔ k dd := gH
@[go_sem ↓] theorem Sb : W k u (bnd σ len (some x) dd) ↔ W (fun v => W (fun p => (0 ≤ p.2 ∧ p.2 ≤ (len : Int)) ∧ k p.2.toNat) ⟨⟩ (int? v)) ⟨⟩ (val σ x) := by
  simp only [bnd, dR, bB, bO, bJ]
end
def CU (q : Bool) (σ : St) (sz : Nat) (lo hi : Option d9) : CV → Option (PV × St)
  | .one (.f (.sl rows)) => if rows.all (fun r => r.length == sz) = false then none else (rng rows.length σ lo hi).bind fun p => one (.sl ((rows.drop p.1).take (p.2 - p.1))) σ
  | .one .fG => (rng 0 σ lo hi).bind fun p => one (.sl []) σ
  | .one (.own key _) => (iy σ key).bind fun o => if o.1 ≠ sz then none else (rng o.2.length σ lo hi).bind fun p => if q then none else (yC σ key).bind fun s => one (.sl ((o.2.drop p.1).take (p.2 - p.1))) s
  | _ => none
@[go_sem ↓] theorem aek {sz : Nat} {lo hi : Option d9} : W k u (cZ Γ q σ d (.cut sz x lo hi)) ↔ W (fun v => W k ⟨⟩ (CU q σ sz lo hi v)) ⟨⟩ (val σ x) := by
  simp only [cZ, dR, bB]
  refine dH fun v => ?_
  cases v with
  | agg l => exact Iff.rfl
  | one p => cases p with
    | f a => cases a <;> exact Iff.rfl
    | own key n => simp only [CU, iy]; cases get σ.ob key with | none => exact Iff.rfl | some o => cases o <;> exact Iff.rfl
    | _ => exact Iff.rfl
@[go_sem ↓] theorem WB {sz : Nat} {lo hi : Option d9} {rows : List (List FV)} : W k u (CU q σ sz lo hi (.one (.f (.sl rows)))) ↔ rows.all (fun r => r.length == sz) = true ∧ W (fun p => k (.c (.one (.f (.sl ((rows.drop p.1).take (p.2 - p.1))))), σ)) ⟨⟩ (rng rows.length σ lo hi) := by
  simp only [CU, dR, bB, dG, one, bJ, Bool.not_eq_false]
@[go_sem ↓] theorem WC {sz : Nat} {lo hi : Option d9} : W k u (CU q σ sz lo hi (.one .fG)) ↔ W (fun p => k (.c (.one (.f (.sl []))), σ)) ⟨⟩ (rng 0 σ lo hi) := by
  simp only [CU, dR, bB, one, bJ]
@[go_sem ↓] theorem WE {sz key n : Nat} {lo hi : Option d9} : W k u (CU q σ sz lo hi (.one (.own key n))) ↔ W (fun o => o.1 = sz ∧ W (fun p => q = false ∧ W (fun s => k (.c (.one (.f (.sl ((o.2.drop p.1).take (p.2 - p.1))))), s)) ⟨⟩ (yC σ key)) ⟨⟩ (rng o.2.length σ lo hi)) ⟨⟩ (iy σ key) := by
  simp only [CU, dR, bB, dG, one, bJ, ne_eq, Decidable.not_not, Bool.not_eq_true]
@[go_sem ↓] theorem ael {off n : Nat} {agg : Bool} : W k u (cZ Γ q σ d (.Ma off n agg x)) ↔ W (fun v => W (fun l => W (fun l => W (fun z => k (.c z, σ)) ⟨⟩ (mk agg l)) ⟨⟩ (seg n off l)) ⟨⟩ (J7 v)) ⟨⟩ (val σ x) := by
  simp only [cZ, dR, bB]
  refine dH fun v => ?_
  cases v with
  | agg l => simp only [J7, bJ, bB, bY]
  | one p => exact bZ
def Sc (σ : St) (sz : Nat) (i : Int) : CV → Option PL
  | .one (.f (.sl rows)) => rows[i.toNat]?.bind fun r => if r.length = sz then some (.fp r) else none
  | .one (.own key n) => (iy σ key).bind fun o => if o.1 = sz ∧ i < n ∧ n = o.2.length then some (.rp key sz i.toNat 0) else none
  | _ => none
@[go_sem ↓] theorem af7 {sz : Nat} : W k u (cZ Γ q σ d (.ia sz x y)) ↔ W (fun v => W (fun j => W (fun p => 0 ≤ p.2 ∧ W (fun l => k (.c (.one l), σ)) ⟨⟩ (Sc σ sz p.2 v)) ⟨⟩ (int? j)) ⟨⟩ (val σ y)) ⟨⟩ (val σ x) := by
  simp only [cZ, dR, bB, bO]
  refine dH fun v => dH fun j => dH fun p => and_congr Iff.rfl ?_
  cases v with
  | agg l => exact bZ
  | one a =>
    cases a with
    | f a =>
      cases a with
      | sl rows => simp only [Sc, bB, bO, bJ]
      | _ => exact bZ
    | own key n =>
      simp only [Sc, iy]
      cases get σ.ob key with
      | none => exact bZ
      | some o =>
        cases o with
        | row sz' rows => simp only [J9, Option.bind_some, bO, bJ]
        | _ => exact bZ
    | _ => exact bZ
section
variable {k : PL → Prop} {u : Tok k} {sz : Nat} {i : Int}
@[go_sem ↓] theorem aai {rows : List (List FV)} : W k u (Sc σ sz i (.one (.f (.sl rows)))) ↔ W (fun r => r.length = sz ∧ k (.fp r)) ⟨⟩ (rows[i.toNat]?) := by
  simp only [Sc, dR, bB, bO, bJ]
@[go_sem ↓] theorem aaj {key n : Nat} : W k u (Sc σ sz i (.one (.own key n))) ↔ W (fun o => (o.1 = sz ∧ i < n ∧ n = o.2.length) ∧ k (.rp key sz i.toNat 0)) ⟨⟩ (iy σ key) := by
  simp only [Sc, dR, bB, bO, bJ]
end
@[go_sem ↓] theorem aem {sz len : Nat} {agg : Bool} : W k u (cZ Γ q σ d (.idx sz len agg x y)) ↔ W (fun v => W (fun j => W (fun p => (0 ≤ p.2 ∧ p.2 < (len : Int)) ∧ W (fun l => W (fun l => W (fun z => k (.c z, σ)) ⟨⟩ (mk agg l)) ⟨⟩ (seg sz (p.2.toNat * sz) l)) ⟨⟩ (J7 v)) ⟨⟩ (int? j)) ⟨⟩ (val σ y)) ⟨⟩ (val σ x) := by
  simp only [cZ, dR, bB, bO]
  refine dH fun v => dH fun j => dH fun p => and_congr Iff.rfl ?_
  cases v with
  | agg l => simp only [J7, bJ, bB, bY]
  | one p => exact bZ
@[go_sem ↓] theorem aen : W k u (cZ Γ q σ d (.chr x y)) ↔ W (fun v => W (fun j => W (fun p => W (fun s => 0 ≤ p.2 ∧ W (fun b => k (.c (.one (.f (.int .u8 b.toNat))), σ)) ⟨⟩ (s.data[p.2.toNat]?)) ⟨⟩ (qd v)) ⟨⟩ (int? j)) ⟨⟩ (val σ y)) ⟨⟩ (val σ x) := by
  simp only [cZ, dR, bB]
  refine dH fun v => dH fun j => dH fun p => ?_
  cases v with
  | agg l => exact bZ
  | one p => cases p with
    | f a =>
      cases a with
      | str s => simp only [qd, bJ, bO, bB, one]
      | _ => exact bZ
    | _ => exact bZ
@[go_sem ↓] theorem aeo {i : Nat} : W k u (cZ Γ q σ d (.ext x i)) ↔ W (fun v => W (fun l => W (fun w => k (.c w, σ)) ⟨⟩ (l[i]?)) ⟨⟩ (RQ v)) ⟨⟩ (rG σ x) := by
  simp only [cZ, dR]
  cases rG σ x with
  | none => exact bZ
  | some v =>
    rw [bJ]
    cases v with
    | c y => exact bZ
    | tZ l => simp only [RQ, bJ, bY]
@[go_sem ↓] theorem acY : W k u (cZ Γ q σ d (.BS x)) ↔ W (fun v => W (fun s => k (.c (.one (.f (.int .i64 s.size))), σ)) ⟨⟩ (qd v)) ⟨⟩ (val σ x) := by
  simp only [cZ, dR, bB]
  refine dH fun v => ?_
  cases v with
  | agg l => exact bZ
  | one p => cases p with
    | f a => cases a <;> first | exact bZ | exact kY Iff.rfl
    | _ => exact bZ
def MS (σ : St) : CV → Option Nat
  | .one .fA => some 0
  | .one (.mp key) => (nL σ key).map fun o => o.2.length
  | _ => none
@[go_sem] theorem WG : MS σ (.one .fA) = some 0 := rfl
@[go_sem] theorem aak {key : Nat} : MS σ (.one (.mp key)) = (nL σ key).map fun o => o.2.length := rfl
def MU : CV → Option Nat
  | .one (.f (.sl rows)) => some rows.length
  | .one .fG => some 0
  | .one (.own _ n) => some n
  | _ => none
@[go_sem] theorem acZ {rows : List (List FV)} : MU (.one (.f (.sl rows))) = some rows.length := rfl
@[go_sem] theorem ac0 : MU (.one .fG) = some 0 := rfl
@[go_sem] theorem ac1 {k n : Nat} : MU (.one (.own k n)) = some n := rfl
@[go_sem ↓] theorem ac2 : W k u (cZ Γ q σ d (.iZ x)) ↔ W (fun v => W (fun n : Nat => k (.c (.one (.f (.int .i64 (n : Int)))), σ)) ⟨⟩ (MU v)) ⟨⟩ (val σ x) := by
  simp only [cZ, dR, bB]
  refine dH fun v => ?_
  cases v with
  | agg l => exact bZ
  | one p => cases p with
    | f a => cases a <;> first | exact bZ | exact kY Iff.rfl
    | _ => first | exact bZ | exact kY Iff.rfl
@[go_sem ↓] theorem ac3 {neg : Bool} : W k u (cZ Γ q σ d (.Ab neg x)) ↔ W (fun v => W (fun b => k (.c (.one (.f (.bool (if neg then !b else b)))), σ)) ⟨⟩ (RS v)) ⟨⟩ (val σ x) := by
  simp only [cZ, dR, bB]
  refine dH fun v => ?_
  cases v with
  | agg l => exact bZ
  | one p => cases p with
    | f a =>
      cases a with
      | sl rows => cases rows <;> first | exact bZ | (cases neg <;> exact kY Iff.rfl)
      | _ => exact bZ
    | fG => cases neg <;> exact kY Iff.rfl
    | _ => exact bZ
end
end Go.Proofs.Ytdkkgecdhapfhaa.Ev
namespace Go.Proofs.Ytdkkgecdhapfhaa.Ev
open Go
section
variable {Γ : Env} {F d : Nat} {q : Bool} {σ : St} {k : PV × St → Prop} {u : Tok k} {x y z : d9}
def Ke (σ : St) (sh : KS) : CV → Option (Option (Nat × List (KV × FC)))
  | .one .fA => some none
  | .one (.mp key) => (nL σ key).bind fun o => if o.1 = sh then some (some (key, o.2)) else none
  | _ => none
@[go_sem] theorem WH {sh : KS} : Ke σ sh (.one .fA) = some none := rfl
section
variable {k : Option (Nat × List (KV × FC)) → Prop} {u : Tok k}
@[go_sem ↓] theorem ac4 {sh : KS} {key : Nat} : W k u (Ke σ sh (.one (.mp key))) ↔ W (fun o => o.1 = sh ∧ k (some (key, o.2))) ⟨⟩ (nL σ key) := by
  simp only [Ke, dR, bB, bO, bJ]
end
def rP (m : Option (Nat × List (KV × FC))) (a : KV) : Option FC := m.bind fun m => BU m.2 a
def cnt (m : Option (Nat × List (KV × FC))) : Nat := match m with
  | none => 0
  | some m => m.2.length
@[go_sem] theorem WI {a : KV} : rP none a = none := rfl
@[go_sem] theorem WJ {key : Nat} {l : List (KV × FC)} {a : KV} : rP (some (key, l)) a = BU l a := rfl
@[go_sem] theorem WK : cnt none = 0 := rfl
@[go_sem] theorem WL {key : Nat} {l : List (KV × FC)} : cnt (some (key, l)) = l.length := rfl
def lkv (z : FC) (ok : Bool) (r : Option FC) : PV := if ok then .tZ [wo (r.getD z), .one (.f (.bool r.isSome))] else .c (wo (r.getD z))
@[go_sem] theorem ac5 {z : FC} {r : Option FC} : lkv z true r = .tZ [wo (r.getD z), .one (.f (.bool r.isSome))] := rfl
@[go_sem] theorem ac6 {z : FC} {r : Option FC} : lkv z false r = .c (wo (r.getD z)) := rfl
@[go_sem] theorem WM {x : FV} : wo (.one x) = .one (.f x) := rfl
@[go_sem] theorem WO {xs : List FV} : wo (.agg xs) = .agg (xs.map .f) := rfl
@[go_sem ↓] theorem ac7 {sh : KS} {z : FC} {ok : Bool} : W k u (cZ Γ q σ d (.look sh z ok x y)) ↔ W (fun v => W (fun w => W (fun a => a.ks = sh ∧ W (fun m => k (lkv z ok (rP m a), σ)) ⟨⟩ (Ke σ sh v)) ⟨⟩ (keyOf w)) ⟨⟩ (val σ y)) ⟨⟩ (val σ x) := by
  simp only [cZ, dR, bB, dG, bY, ne_eq, Decidable.not_not]
  refine dH fun v => dH fun w => dH fun a => and_congr Iff.rfl ?_
  cases v with
  | agg l => exact bZ
  | one p =>
    cases p with
    | fA => exact kY Iff.rfl
    | mp key =>
      simp only [Ke, nL]
      cases get σ.ob key with
      | none => exact bZ
      | some o =>
        cases o with
        | map sh' ents =>
          simp only [om, Option.bind_some]
          by_cases hs : sh' = sh
          · rw [if_pos hs, if_pos hs]; exact kY (by cases ok <;> exact Iff.rfl)
          · rw [if_neg hs, if_neg hs]; exact bZ
        | _ => exact bZ
    | _ => exact bZ
@[go_sem ↓] theorem ac8 : W k u (cZ Γ q σ d (.G5 x)) ↔ W (fun v => W (fun n : Nat => k (.c (.one (.f (.int .i64 (n : Int)))), σ)) ⟨⟩ (MS σ v)) ⟨⟩ (val σ x) := by
  simp only [cZ, dR, bB]
  refine dH fun v => ?_
  cases v with
  | agg l => exact bZ
  | one p =>
    cases p with
    | fA => exact kY Iff.rfl
    | mp key =>
      simp only [MS, nL]
      cases get σ.ob key with
      | none => exact bZ
      | some o => cases o <;> first | exact bZ | exact kY Iff.rfl
    | _ => exact bZ
def upv (σ : St) (sh : KS) (a : KV) (p : FC × St) : CV → Option St
  | .one (.mp key) => (nL p.2 key).bind fun o => if o.1 = sh then some (jc p.2 key (.map sh (Ec o.2 a p.1))) else none
  | _ => none
@[go_sem ↓] theorem ac9 {sh : KS} : W k u (cZ Γ q σ d (.Aa sh x y z)) ↔ W (fun v => W (fun w => W (fun a => a.ks = sh ∧ W (fun w => (q && (cells w).any gu) = false ∧ W (fun p => W (fun s => k (.c (.one .und), s)) ⟨⟩ (upv σ sh a p v)) ⟨⟩ (Ur σ w)) ⟨⟩ (val σ z)) ⟨⟩ (keyOf w)) ⟨⟩ (val σ y)) ⟨⟩ (val σ x) := by
  simp only [cZ, dR, bB, dG, ne_eq, Decidable.not_not, Bool.not_eq_true]
  refine dH fun v => dH fun w => dH fun a => and_congr Iff.rfl (dH fun w => and_congr Iff.rfl (dH fun p => ?_))
  cases v with
  | agg l => exact bZ
  | one b =>
    cases b with
    | mp key =>
      simp only [upv, nL]
      cases get p.2.ob key with
      | none => exact bZ
      | some o =>
        cases o with
        | map sh' ents =>
          simp only [om, Option.bind_some]
          split
          · exact kY Iff.rfl
          · exact bZ
        | _ => exact bZ
    | _ => exact bZ
section
variable {k : St → Prop} {u : Tok k} {sh : KS} {a : KV} {key : Nat}
@[go_sem ↓] theorem aep {p : FC × St} : W k u (upv σ sh a p (.one (.mp key))) ↔ W (fun o => o.1 = sh ∧ k (jc p.2 key (.map sh (Ec o.2 a p.1)))) ⟨⟩ (nL p.2 key) := by
  simp only [upv, dR, bB, bO, bJ]
end
def WQ (σ : St) (sh : KS) (a : KV) : CV → Option St
  | .one .fA => some σ
  | .one (.mp key) => (nL σ key).bind fun o => if o.1 = sh then some (jc σ key (.map sh (Ed o.2 a))) else none
  | _ => none
@[go_sem] theorem aal {sh : KS} {a : KV} : WQ σ sh a (.one .fA) = some σ := rfl
section
variable {k : St → Prop} {u : Tok k} {sh : KS} {a : KV} {key : Nat}
@[go_sem ↓] theorem aer : W k u (WQ σ sh a (.one (.mp key))) ↔ W (fun o => o.1 = sh ∧ k (jc σ key (.map sh (Ed o.2 a)))) ⟨⟩ (nL σ key) := by
  simp only [WQ, dR, bB, bO, bJ]
end
@[go_sem ↓] theorem aes {sh : KS} : W k u (cZ Γ q σ d (.del sh x y)) ↔ W (fun v => W (fun w => W (fun a => a.ks = sh ∧ W (fun s => k (.tZ [], s)) ⟨⟩ (WQ σ sh a v)) ⟨⟩ (keyOf w)) ⟨⟩ (val σ y)) ⟨⟩ (val σ x) := by
  simp only [cZ, dR, bB, dG, ne_eq, Decidable.not_not]
  refine dH fun v => dH fun w => dH fun a => and_congr Iff.rfl ?_
  cases v with
  | agg l => exact bZ
  | one b =>
    cases b with
    | fA => exact kY Iff.rfl
    | mp key =>
      simp only [WQ, nL]
      cases get σ.ob key with
      | none => exact bZ
      | some o =>
        cases o with
        | map sh' ents =>
          simp only [om, Option.bind_some]
          split
          · exact kY Iff.rfl
          · exact bZ
        | _ => exact bZ
    | _ => exact bZ
def UJ (σ : St) : CV → Option (List (List FV))
  | .one .fG => some []
  | .one (.f (.sl rows)) => some rows
  | .one (.own key _) => (iy σ key).map (·.2)
  | _ => none
@[go_sem] theorem aeu : UJ σ (.one .fG) = some [] := rfl
@[go_sem] theorem aev {rows : List (List FV)} : UJ σ (.one (.f (.sl rows))) = some rows := rfl
@[go_sem] theorem aew {key n : Nat} : UJ σ (.one (.own key n)) = (iy σ key).map (·.2) := rfl
def UK (q : Bool) (σ : St) (d sz bytes : Nat) (w : CV) (CW : List (List FV)) : CV → Option (PV × St)
  | .one .fG => if q = false ∧ CW.length * bytes ≤ 140737488355328 ∧ CW.all (fun r => r.length == sz) then (new σ (dD d) (.row sz CW)).map fun s => (.c (.one (.own (dD d) CW.length)), s) else none
  | .one (.own key n) => (iy σ key).bind fun o => if q = false ∧ (o.2.length + CW.length) * bytes ≤ 140737488355328 ∧ o.1 = sz ∧ n = o.2.length ∧ uR key w = false ∧ key % 2 = 0 ∧ CW.all (fun r => r.length == sz) then
      some (.c (.one (.own key (o.2.length + CW.length))), jc (sub σ key .any) key (.row sz (o.2 ++ CW))) else none
  | _ => none
@[go_sem ↓] theorem aex {e : TypeId} {sz bytes : Nat} : W k u (cZ Γ q σ d (.app e sz bytes x y)) ↔ W (fun v => W (fun w => W (fun l => W k ⟨⟩ (UK q σ d sz bytes w l v)) ⟨⟩ (UJ σ w)) ⟨⟩ (val σ y)) ⟨⟩ (val σ x) := by
  simp only [cZ, dR, bB]
  refine dH fun v => dH fun w => ?_
  have e : oV σ w = UJ σ w := by
    cases w with
    | agg l => rfl
    | one p => cases p with
      | f a => cases a <;> rfl
      | own key n => simp only [oV, UJ, iy]; cases get σ.ob key with | none => rfl | some o => cases o <;> rfl
      | _ => rfl
  rw [e]
  refine dH fun l => ?_
  cases v with
  | agg l => exact bZ
  | one p =>
    cases p with
    | fG => exact Iff.rfl
    | own key n =>
      simp only [UK, iy]
      cases get σ.ob key with
      | none => exact bZ
      | some o => cases o <;> exact Iff.rfl
    | _ => exact bZ
@[go_sem ↓] theorem aam {sz bytes : Nat} {w : CV} {l : List (List FV)} : W k u (UK q σ d sz bytes w l (.one .fG)) ↔ (q = false ∧ l.length * bytes ≤ 140737488355328 ∧ l.all (fun r => r.length == sz) = true) ∧ W (fun s => k (.c (.one (.own (dD d) l.length)), s)) ⟨⟩ (new σ (dD d) (.row sz l)) := by
  simp only [UK, dR, bO, bY]
@[go_sem ↓] theorem aan {sz bytes key n : Nat} {w : CV} {l : List (List FV)} : W k u (UK q σ d sz bytes w l (.one (.own key n))) ↔ W (fun o => (q = false ∧ (o.2.length + l.length) * bytes ≤ 140737488355328 ∧ o.1 = sz ∧ n = o.2.length ∧ uR key w = false ∧ key % 2 = 0 ∧ l.all (fun r => r.length == sz) = true) ∧ k (.c (.one (.own key (o.2.length + l.length))), jc (sub σ key .any) key (.row sz (o.2 ++ l)))) ⟨⟩ (iy σ key) := by
  simp only [UK, dR, bB, bO, bJ]
def cov (σ : St) (sz : Nat) (i : Int) : CV → Option (PV × St)
  | .one (.own key n) => (iy σ key).bind fun o => if o.1 = sz ∧ key % 2 = 0 ∧ 0 ≤ i ∧ i ≤ o.2.length then some (.c (.one (.own key i.toNat)), jc (sub σ key .any) key (.row sz (o.2.take i.toNat))) else none
  | _ => none
@[go_sem ↓] theorem ada {sz : Nat} : W k u (cZ Γ q σ d (.D9 sz x y)) ↔ q = false ∧ W (fun v => W (fun j => W (fun p => W k ⟨⟩ (cov σ sz p.2 v)) ⟨⟩ (int? j)) ⟨⟩ (val σ y)) ⟨⟩ (val σ x) := by
  simp only [cZ, dR, bB, dG, Bool.not_eq_true]
  refine and_congr Iff.rfl (dH fun v => dH fun j => dH fun p => ?_)
  cases v with
  | agg l => exact bZ
  | one b =>
    cases b with
    | own key n =>
      simp only [cov, iy]
      cases get σ.ob key with
      | none => exact bZ
      | some o => cases o <;> exact Iff.rfl
    | _ => exact bZ
@[go_sem ↓] theorem aey {sz key n : Nat} {i : Int} : W k u (cov σ sz i (.one (.own key n))) ↔ W (fun o => (o.1 = sz ∧ key % 2 = 0 ∧ 0 ≤ i ∧ i ≤ (o.2.length : Int)) ∧ k (.c (.one (.own key i.toNat)), jc (sub σ key .any) key (.row sz (o.2.take i.toNat)))) ⟨⟩ (iy σ key) := by
  simp only [cov, dR, bB, bO, bJ]
def cvv (σ : St) (sz : Nat) (i : Int) : CV → Option PL
  | .one (.own key n) => (iy σ key).bind fun o => if o.1 = sz ∧ 0 ≤ i ∧ i ≤ o.2.length then some (.vw key sz o.2.length i.toNat) else none
  | _ => none
@[go_sem ↓] theorem adb {sz : Nat} : W k u (cZ Γ q σ d (.cutV sz x y)) ↔ W (fun v => W (fun j => W (fun p => W (fun l => k (.c (.one l), σ)) ⟨⟩ (cvv σ sz p.2 v)) ⟨⟩ (int? j)) ⟨⟩ (val σ y)) ⟨⟩ (val σ x) := by
  simp only [cZ, dR, bB]
  refine dH fun v => dH fun j => dH fun p => ?_
  cases v with
  | agg l => exact bZ
  | one b =>
    cases b with
    | own key n =>
      simp only [cvv, iy]
      cases get σ.ob key with
      | none => exact bZ
      | some o =>
        cases o with
        | row sz' rows => simp only [J9, Option.bind_some, bO, bJ]
        | _ => exact bZ
    | _ => exact bZ
section
variable {k : PL → Prop} {u : Tok k}
@[go_sem ↓] theorem aez {sz key n : Nat} {i : Int} : W k u (cvv σ sz i (.one (.own key n))) ↔ W (fun o => (o.1 = sz ∧ 0 ≤ i ∧ i ≤ (o.2.length : Int)) ∧ k (.vw key sz o.2.length i.toNat)) ⟨⟩ (iy σ key) := by
  simp only [cvv, dR, bB, bO, bJ]
end
def vw? : CV → Option (Nat × Nat × Nat × Nat)
  | .one (.vw key z n lo) => some (key, z, n, lo)
  | _ => none
@[go_sem] theorem ade {a b c e : Nat} : vw? (.one (.vw a b c e)) = some (a, b, c, e) := rfl
@[go_sem ↓] theorem aeA {sz : Nat} {zs : List FV} : W k u (cZ Γ q σ d (.Px sz zs x)) ↔ W (fun v => W (fun p => W (fun o => (o.1 = sz ∧ p.2.1 = sz ∧ zs.length = sz ∧ p.2.2.1 = o.2.length ∧ p.2.2.2 ≤ p.2.2.1) ∧ k (.tZ [], jc σ p.1 (.row sz (o.2.take p.2.2.2 ++ List.replicate (p.2.2.1 - p.2.2.2) zs)))) ⟨⟩ (iy σ p.1)) ⟨⟩ (vw? v)) ⟨⟩ (val σ x) := by
  simp only [cZ, dR, bB]
  refine dH fun v => ?_
  cases v with
  | agg l => exact bZ
  | one b =>
    cases b with
    | vw key z n lo =>
      simp only [vw?, bJ, iy]
      cases get σ.ob key with
      | none => exact bZ
      | some o =>
        cases o with
        | row sz' rows => simp only [J9, bO, bJ]
        | _ => exact bZ
    | _ => exact bZ
def PW (σ : St) : CV → Option (List (List FV))
  | .one (.f (.sl rows)) => some rows
  | .one .fG => some []
  | .one (.own key _) => (iy σ key).bind fun o => if o.1 = 1 then some o.2 else none
  | _ => none
@[go_sem] theorem aeB {rows : List (List FV)} : PW σ (.one (.f (.sl rows))) = some rows := rfl
@[go_sem] theorem aeC : PW σ (.one .fG) = some [] := rfl
@[go_sem] theorem PX : bytesOf [] = some ⟨#[]⟩ := rfl
@[go_sem] theorem MV {n : Int} {l : List (List FV)} : bytesOf ([.int .u8 n] :: l) = (bytesOf l).map fun s => ⟨#[UInt8.ofNat n.toNat] ++ s.data⟩ := rfl
section
variable {k : List (List FV) → Prop} {u : Tok k}
@[go_sem ↓] theorem aeD {key n : Nat} : W k u (PW σ (.one (.own key n))) ↔ W (fun o => o.1 = 1 ∧ k o.2) ⟨⟩ (iy σ key) := by
  simp only [PW, dR, bB, bO, bJ]
end
@[go_sem ↓] theorem aeE : W k u (cZ Γ q σ d (.Uo x)) ↔ W (fun v => W (fun l => W (fun s => k (.c (.one (.f (.str s))), σ)) ⟨⟩ (bytesOf l)) ⟨⟩ (PW σ v)) ⟨⟩ (val σ x) := by
  simp only [cZ, dR, bB]
  refine dH fun v => ?_
  cases v with
  | agg l => exact bZ
  | one b =>
    cases b with
    | f a =>
      cases a with
      | sl rows => simp only [PW, bB, bJ, one]
      | _ => exact bZ
    | fG => simp only [PW, bJ, bytesOf, one]
    | own key n =>
      simp only [PW, iy]
      cases get σ.ob key with
      | none => exact bZ
      | some o =>
        cases o with
        | row sz' rows => simp only [J9, Option.bind_some, bO, bB, bJ, one]
        | _ => exact bZ
    | _ => exact bZ
@[go_sem ↓] theorem aeF {f : FuncId} {xs : List d9} : W k u (cZ Γ q σ d (.QX f xs)) ↔ W (fun l => W (fun p => k (.c (.one (.fn f p.1)), p.2)) ⟨⟩ (lD q σ l)) ⟨⟩ (iV σ xs) := by
  simp only [cZ, dR, bB, bY]
@[go_sem ↓] theorem adf {f : FuncId} {xs : List d9} : W k u (cZ Γ q σ d (.yE f xs)) ↔ W (fun l => W (fun gG => W (fun r => W (fun p => W (fun s => k (.c (.one (.own (dD d) p.2.length)), s)) ⟨⟩ (new σ (dD d) (.row p.1 p.2))) ⟨⟩ (Q0 r.1)) ⟨⟩ (Γ f gG)) ⟨⟩ (Jg l)) ⟨⟩ (iV σ xs) := by
  simp only [cZ, rF, dR, bB, bY]
attribute [go_sem] Zu Mf avC Jg
@[go_sem] theorem WR {sz : Nat} {rows : List (List FV)} : Q0 [.one (.own sz rows)] = some (sz, rows) := rfl
@[go_sem ↓] theorem aao {gv : Bool} {f : FuncId} {xs : List d9} : W k u (cZ Γ q σ d (.call gv f xs)) ↔ W (fun l => W k ⟨⟩ (kG Γ gv q σ d f l)) ⟨⟩ (iV σ xs) := by
  simp only [cZ, dR, bB]
def fn? : CV → Option (FuncId × List (List FV))
  | .one (.fn f caps) => some (f, caps)
  | _ => none
@[go_sem] theorem adg {f : FuncId} {caps : List (List FV)} : fn? (.one (.fn f caps)) = some (f, caps) := rfl
@[go_sem ↓] theorem aeG {xs : List d9} : W k u (cZ Γ q σ d (.dyn x xs)) ↔ W (fun v => W (fun p => W (fun l => W k ⟨⟩ (kG Γ false q σ d p.1 (l ++ p.2.map fun c => .one (.fp c)))) ⟨⟩ (iV σ xs)) ⟨⟩ (fn? v)) ⟨⟩ (val σ x) := by
  simp only [cZ, dR, bB]
  refine dH fun v => ?_
  cases v with
  | agg l => exact bZ
  | one b =>
    cases b with
    | fn f caps => simp only [fn?, bJ, bB]
    | _ => exact bZ
def EB (gv : Bool) (args : List CV) (p : List AV × St) (r : List AV × List AV) : Option St := if (!gv && ((r.1.any vC || !p.1.all fE) && args.any (fun x => (cells x).any gu))) = true then rE p.2 args else some p.2
def EC (d : Nat) (σ : St) (args : List CV) (p : List AV × St) (r : List AV × List AV) (s : St) : Option St := if p.1.all fE = true then some s else yG σ (args.flatMap cells) (dD d + 10000) s args r.2
@[go_sem ↓] theorem WS {gv : Bool} {f : FuncId} {args : List CV} : W k u (kG Γ gv q σ d f args) ↔ W (fun p => W (fun r0 => W (fun r => ((q && !(p.1.all fE && r.1.all fE)) = false ∧ (q && ((r.1.any vC || !p.1.all fE) && args.any (fun x => (cells x).any gu))) = false) ∧
    W (fun s => W (fun s => W (fun v => k (G9 v.1, v.2)) ⟨⟩ (wB (dD d) 0 [] s r.1)) ⟨⟩ (EC d σ args p r s)) ⟨⟩ (EB gv args p r)) ⟨⟩ (some (QZ q r0))) ⟨⟩ (Γ f p.1)) ⟨⟩ (rD gv σ args) := by
  simp only [kG, dR, bB, dG, bY, bJ, EB, EC, Bool.not_eq_true, and_assoc]
@[go_sem] theorem adh {r : List AV × List AV} : QZ false r = r := rfl
@[go_sem] theorem aap {r : List AV × List AV} : QZ true r = (r.1.map Me, r.2) := rfl
@[go_sem] theorem aaq {sz : Nat} {rows : List (List FV)} : Me (.one (.own sz rows)) = .one (.f (.sl rows)) := rfl
@[go_sem] theorem aeH {x : FV} : Me (.one (.f x)) = .one (.f x) := rfl
@[go_sem] theorem aar {xs : List TV} : Me (.agg xs) = .agg xs := rfl
@[go_sem] theorem aas {xs : List CL} : Me (.one (.ptr xs)) = .one (.ptr xs) := rfl
end
section
variable {Γ : Env} {F : Nat} {k : List AV × List AV → Prop} {u : Tok k} {cf : CF} {gG : List AV}
@[go_sem ↓] theorem aeI : W k u (I9 Γ F cf gG) ↔ gG.length = cf.np ∧ W (fun e => W (fun p => (∀ id, p.1 ≠ .ext id) ∧ W (fun b => W (fun l => W (fun r => k (r.1, b.1)) ⟨⟩ (mW cf.ro b.2 l)) ⟨⟩ (slots b.2 cf.res)) ⟨⟩ (kH p.2 e.1 gG)) ⟨⟩ (ev Γ F cf.body e.2)) ⟨⟩ (enter cf.bo 0 [] ⟨[], []⟩ gG) := by
  simp only [I9, dR, dG, bB, ne_eq, Decidable.not_not]
  refine and_congr Iff.rfl (dH fun e => dH fun p => ?_)
  obtain ⟨o, s⟩ := p
  cases o with
  | ext id => simp [jV]
  | _ => simp [bB, bY]
@[go_sem] theorem aat : (∀ id, Out.jq ≠ .ext id) ↔ True := by simp
@[go_sem] theorem aau : (∀ id, Out.ret ≠ .ext id) ↔ True := by simp
@[go_sem] theorem aav {i : Nat} : (∀ id, Out.ext i ≠ .ext id) ↔ False := by simp
end
end Go.Proofs.Ytdkkgecdhapfhaa.Ev
namespace Go.Proofs.Ytdkkgecdhapfhaa.Ev
open Go
attribute [go_sem] dD dW uR qw lK nH Ea Mc G6 sub jc nZ gu jB plain fE Py Jf vC Md G9 Ji Q5 Q6 Q7 Jh QY rowsOf KV.ks SV.sk
attribute [go_sem] List.any_cons List.any_nil List.all_cons List.all_nil List.map_cons List.map_nil List.length_cons List.length_nil List.append_nil List.nil_append List.cons_append List.flatMap_cons List.flatMap_nil List.take_succ_cons List.take_zero List.take_nil List.drop_succ_cons List.drop_zero List.drop_nil Option.getD_some Option.getD_none List.filter_nil List.filter_cons List.headD_nil List.headD_cons List.tail_cons List.tail_nil
section
variable {σ : St} {α : Type}
section
variable {k : St → Prop} {u : Tok k} {key : Nat} {o : Ob} {pend : List PL}
@[go_sem ↓] theorem aeJ : W k u (new σ key o) ↔ (rem σ.ob key).any (fun p => lK key p.2) = false ∧ k ⟨σ.tm.filter (fun p => !qw key p.2), (key, o) :: rem σ.ob key⟩ := by
  simp only [new, Uq, dR, bY, dG, bJ, Bool.not_eq_true]
@[go_sem ↓] theorem adi : W k u (newP pend σ key o) ↔ pend.any (dW key) = false ∧ W k ⟨⟩ (new σ key o) := by
  simp only [newP, dR, dG, Bool.not_eq_true]
@[go_sem ↓] theorem aeK : W k u (yC σ key) ↔ W (fun p => k (sub ⟨σ.tm, rem σ.ob key⟩ key (.f (.sl p.2)))) ⟨⟩ (iy σ key) := by
  simp only [yC, iy, dR]
  cases get σ.ob key with
  | none => exact bZ
  | some o => cases o <;> first | exact bZ | exact kY Iff.rfl
@[go_sem ↓] theorem Sd : W k u (wC σ []) ↔ k σ := gH
@[go_sem ↓] theorem PY : W k u (rE σ []) ↔ k σ := gH
@[go_sem ↓] theorem MW {x : CV} {xs : List CV} : W k u (rE σ (x :: xs)) ↔ W (fun s => W k ⟨⟩ (rE s xs)) ⟨⟩ (wC σ (cells x)) := by
  simp only [rE, dR, bB]
def oD (σ : St) : PL → Option St
  | .own key _ => yC σ key
  | _ => some σ
@[go_sem ↓] theorem PZ {x : PL} {xs : List PL} : W k u (wC σ (x :: xs)) ↔ W (fun s => W k ⟨⟩ (wC s xs)) ⟨⟩ (oD σ x) := by
  simp only [dR]
  cases x <;> simp only [wC, oD, bB, bJ]
@[go_sem ↓] theorem P5 {n : Nat} : W k u (oD σ (.own key n)) ↔ W k ⟨⟩ (yC σ key) := Iff.rfl
@[go_sem] theorem aaw {x : FV} : oD σ (.f x) = some σ := rfl
@[go_sem] theorem UL : oD σ .fG = some σ := rfl
@[go_sem] theorem UM {n : Nat} : oD σ (.ptr key n) = some σ := rfl
@[go_sem] theorem WT : oD σ (.mp key) = some σ := rfl
@[go_sem] theorem UN : oD σ .jo = some σ := rfl
@[go_sem] theorem Sg : oD σ .fA = some σ := rfl
@[go_sem] theorem WU {f : FuncId} {c : List (List FV)} : oD σ (.fn f c) = some σ := rfl
@[go_sem] theorem WV {c : List FV} : oD σ (.fp c) = some σ := rfl
end
section
variable {k : FV × St → Prop} {u : Tok k} {key n : Nat}
@[go_sem] theorem aeL {x : FV} : wh σ (.f x) = some (x, σ) := rfl
@[go_sem] theorem aax : wh σ .fG = some (.sl [], σ) := rfl
@[go_sem ↓] theorem UO : W k u (wh σ (.own key n)) ↔ W (fun p => k (.sl p.2, sub ⟨σ.tm, rem σ.ob key⟩ key (.f (.sl p.2)))) ⟨⟩ (iy σ key) := by
  simp only [wh, yC, iy, dR]
  cases get σ.ob key with
  | none => exact bZ
  | some o => cases o <;> first | exact bZ | (simp only [Option.map_some]; exact kY Iff.rfl)
end
section
variable {k : List FV × St → Prop} {u : Tok k}
@[go_sem ↓] theorem Si : W k u (kF σ []) ↔ k ([], σ) := gH
@[go_sem ↓] theorem P6 {x : PL} {xs : List PL} : W k u (kF σ (x :: xs)) ↔ W (fun p => W (fun r => k (p.1 :: r.1, r.2)) ⟨⟩ (kF p.2 xs)) ⟨⟩ (wh σ x) := by
  simp only [kF, dR, bB, bY]
@[go_sem ↓] theorem aeM {key : Nat} : W k u (Us σ key) ↔ W (fun xs => W (fun p => W (fun _ => k (p.1, Q7 (Jh key p.1) ⟨p.2.tm, rem p.2.ob key⟩)) ⟨⟩ (get p.2.ob key)) ⟨⟩ (kF σ xs)) ⟨⟩ (nV σ key) := by
  simp only [Us, nV, dR]
  cases get σ.ob key with
  | none => exact bZ
  | some o =>
    cases o with
    | mK xs =>
      simp only [oc, bJ, bB]
      refine dH fun p => ?_
      cases get p.2.ob key with
      | none => exact bZ
      | some o => exact kY Iff.rfl
    | _ => exact bZ
end
section
variable {k : FC × St → Prop} {u : Tok k}
@[go_sem ↓] theorem UQ {x : PL} : W k u (Ur σ (.one x)) ↔ W (fun p => k (.one p.1, p.2)) ⟨⟩ (wh σ x) := by simp only [Ur, dR, bY]
@[go_sem ↓] theorem UR {xs : List PL} : W k u (Ur σ (.agg xs)) ↔ W (fun p => k (.agg p.1, p.2)) ⟨⟩ (kF σ xs) := by simp only [Ur, dR, bY]
end
section
variable {k : List (List FV) × St → Prop} {u : Tok k} {q : Bool}
@[go_sem ↓] theorem Sj : W k u (lD q σ []) ↔ k ([], σ) := by simp only [lD, dR, bJ]
@[go_sem ↓] theorem UU {cs : List FV} {l : List CV} : W k u (lD q σ (.one (.fp cs) :: l)) ↔ W (fun r => k (cs :: r.1, r.2)) ⟨⟩ (lD q σ l) := by simp only [lD, dR, bY]
@[go_sem ↓] theorem Sk {key : Nat} {l : List CV} : W k u (lD q σ (.one (.ptr key 0) :: l)) ↔ q = false ∧ W (fun p => W (fun r => k (p.1 :: r.1, r.2)) ⟨⟩ (lD q p.2 l)) ⟨⟩ (Us σ key) := by
  simp only [lD, dR, dG, bB, bY, Bool.not_eq_true]
end
section
variable {k : List (Nat × Nat × CV) → Prop} {u : Tok k}
@[go_sem ↓] theorem Sl : W k u (vals σ []) ↔ k [] := gH
@[go_sem ↓] theorem P7 {o n : Nat} {x : d9} {ps : List (Nat × Nat × d9)} : W k u (vals σ ((o, n, x) :: ps)) ↔ W (fun v => W (fun l => k ((o, n, v) :: l)) ⟨⟩ (vals σ ps)) ⟨⟩ (val σ x) := by
  simp only [vals, dR, bB, bY]
end
section
variable {k : List CV → Prop} {u : Tok k}
@[go_sem ↓] theorem P8 : W k u (iV σ []) ↔ k [] := gH
@[go_sem ↓] theorem MX {x : d9} {xs : List d9} : W k u (iV σ (x :: xs)) ↔ W (fun v => W (fun l => k (v :: l)) ⟨⟩ (iV σ xs)) ⟨⟩ (val σ x) := by
  simp only [iV, dR, bB, bY]
@[go_sem ↓] theorem P9 : W k u (slots σ []) ↔ k [] := gH
@[go_sem ↓] theorem MZ {x : Rs} {xs : List Rs} : W k u (slots σ (x :: xs)) ↔ W (fun v => W (fun l => k (v :: l)) ⟨⟩ (slots σ xs)) ⟨⟩ (slot σ x) := by
  simp only [slots, dR, bB, bY]
end
section
variable {k : CV → Prop} {u : Tok k} {i n : Nat} {agg : Bool}
@[go_sem ↓] theorem WW : W k u (slot σ (.t i)) ↔ W k ⟨⟩ (vl (get σ.tm i)) := by rw [← Wo]; exact Iff.rfl
@[go_sem ↓] theorem Qa : W k u (slot σ (.cell i n agg)) ↔ W (fun v => W (fun p => W (fun xs => W (fun l => W k ⟨⟩ (mk agg l)) ⟨⟩ (seg n p.2 xs)) ⟨⟩ (nV σ p.1)) ⟨⟩ (Hu v)) ⟨⟩ (vl (get σ.tm i)) := by
  simp only [slot, dR]
  cases get σ.tm i with
  | none => exact bZ
  | some v =>
    cases v with
    | tZ l => exact bZ
    | c x =>
      simp only [vl, bJ]
      cases x with
      | agg l => exact bZ
      | one p =>
        cases p with
        | ptr key off =>
          simp only [Hu, bJ, nV]
          cases get σ.ob key with
          | none => exact bZ
          | some o => cases o <;> first | exact bZ | (simp only [oc, bJ, bB])
        | _ => exact bZ
end
section
variable {k : List PL → Prop} {u : Tok k} {z : List PL}
@[go_sem ↓] theorem Sm : W k u (fill z []) ↔ k z := by simp only [fill, dR, bJ]
@[go_sem ↓] theorem Qb {off n : Nat} {v : CV} {ps : List (Nat × Nat × CV)} : W k u (fill z ((off, n, v) :: ps)) ↔ ((cells v).length = n ∧ (cells v).any nZ = false) ∧ W (fun z => W k ⟨⟩ (fill z ps)) ⟨⟩ (lay off (cells v) z) := by
  simp only [fill, dR, bO, bB]
end
@[go_sem] theorem WX {kk : IntKind} {n : Int} : wm (.int kk n) = some (.int kk n) := rfl
@[go_sem] theorem UW {b : Bool} : wm (.bool b) = some (.bool b) := rfl
@[go_sem] theorem WY {s : ByteArray} : wm (.str s) = some (.str s) := rfl
section
variable {k : KV → Prop} {u : Tok k}
@[go_sem ↓] theorem UY {x : FV} : W k u (keyOf (.one (.f x))) ↔ W (fun s => k (.one s)) ⟨⟩ (wm x) := by simp only [keyOf, Fp, Option.bind_some, dR, bY]
@[go_sem ↓] theorem UZ {xs : List PL} : W k u (keyOf (.agg xs)) ↔ W (fun l => W (fun s => k (.agg s)) ⟨⟩ (rC l)) ⟨⟩ (nI xs) := by simp only [keyOf, dR, bB, bY]
end
section
variable {k : List SV → Prop} {u : Tok k}
@[go_sem ↓] theorem Qc : W k u (rC []) ↔ k [] := gH
@[go_sem ↓] theorem M0 {x : FV} {xs : List FV} : W k u (rC (x :: xs)) ↔ W (fun s => W (fun l => k (s :: l)) ⟨⟩ (rC xs)) ⟨⟩ (wm x) := by simp only [rC, dR, bB, bY]
end
section
variable {k : List FV → Prop} {u : Tok k}
@[go_sem ↓] theorem M4 : W k u (nI []) ↔ k [] := gH
@[go_sem ↓] theorem LX {x : FV} {xs : List PL} : W k u (nI (.f x :: xs)) ↔ W (fun l => k (x :: l)) ⟨⟩ (nI xs) := by simp only [nI, Fp, Option.bind_some, dR, bY]
end
section
variable {k : CL × St → Prop} {u : Tok k} {key n : Nat}
@[go_sem] theorem aeN {x : FV} : G7 σ (.f x) = some (.f x, σ) := rfl
@[go_sem] theorem aay : G7 σ .fG = some (.f (.sl []), σ) := rfl
@[go_sem] theorem aaz : G7 σ .jo = some (.jo, σ) := rfl
@[go_sem] theorem WZ : G7 σ .fA = some (.fA, σ) := rfl
@[go_sem ↓] theorem U0 : W k u (G7 σ (.own key n)) ↔ W (fun o => k (.own o.1 o.2, ⟨σ.tm, rem σ.ob key⟩)) ⟨⟩ (iy σ key) := by
  simp only [G7, iy, dR]
  cases get σ.ob key with
  | none => exact bZ
  | some o => cases o <;> first | exact bZ | exact kY Iff.rfl
@[go_sem ↓] theorem W9 : W k u (G7 σ (.mp key)) ↔ W (fun o => k (.mp o.1 o.2, ⟨σ.tm, rem σ.ob key⟩)) ⟨⟩ (nL σ key) := by
  simp only [G7, nL, dR]
  cases get σ.ob key with
  | none => exact bZ
  | some o => cases o <;> first | exact bZ | exact kY Iff.rfl
end
section
variable {k : List CL × St → Prop} {u : Tok k}
@[go_sem ↓] theorem Sn : W k u (yF σ []) ↔ k ([], σ) := gH
@[go_sem ↓] theorem Qd {x : PL} {xs : List PL} : W k u (yF σ (x :: xs)) ↔ W (fun p => W (fun r => k (p.1 :: r.1, r.2)) ⟨⟩ (yF p.2 xs)) ⟨⟩ (G7 σ x) := by
  simp only [yF, dR, bB, bY]
end
section
variable {k : TV × St → Prop} {u : Tok k} {key n : Nat} {gv : Bool}
@[go_sem] theorem aeO {x : FV} : qH gv σ (.f x) = some (.f x, σ) := rfl
@[go_sem] theorem aaA : qH gv σ .fG = some (.f (.sl []), σ) := rfl
@[go_sem] theorem aaB : qH gv σ .jo = some (.jo, σ) := rfl
@[go_sem] theorem Xa : qH gv σ .fA = some (.fA, σ) := rfl
@[go_sem] theorem adj {cs : List FV} : qH gv σ (.fp cs) = some (.fp cs, σ) := rfl
@[go_sem] theorem adk {f : FuncId} {cs : List (List FV)} : qH gv σ (.fn f cs) = some (.fn f cs, σ) := rfl
@[go_sem ↓] theorem U1 : W k u (qH false σ (.own key n)) ↔ W (fun o => k (.f (.sl o.2), σ)) ⟨⟩ (iy σ key) := by
  simp only [qH, iy, dR]
  cases get σ.ob key with
  | none => exact bZ
  | some o => cases o <;> first | exact bZ | exact kY Iff.rfl
@[go_sem ↓] theorem Sq : W k u (qH true σ (.own key n)) ↔ W (fun o => k (.own o.1 o.2, ⟨σ.tm, rem σ.ob key⟩)) ⟨⟩ (iy σ key) := by
  simp only [qH, iy, dR]
  cases get σ.ob key with
  | none => exact bZ
  | some o => cases o <;> first | exact bZ | exact kY Iff.rfl
@[go_sem ↓] theorem Xb : W k u (qH gv σ (.mp key)) ↔ W (fun o => k (.mp o.1 o.2, ⟨σ.tm, rem σ.ob key⟩)) ⟨⟩ (nL σ key) := by
  simp only [qH, nL, dR]
  cases get σ.ob key with
  | none => exact bZ
  | some o => cases o <;> first | exact bZ | exact kY Iff.rfl
@[go_sem ↓] theorem U2 : W k u (qH gv σ (.ptr key 0)) ↔ W (fun xs => W (fun p => k (.ptr p.1, p.2)) ⟨⟩ (yF ⟨σ.tm, rem σ.ob key⟩ xs)) ⟨⟩ (nV σ key) := by
  simp only [qH, nV, dR]
  cases get σ.ob key with
  | none => exact bZ
  | some o => cases o <;> first | exact bZ | (simp only [oc, bJ, bY])
end
section
variable {k : List TV × St → Prop} {u : Tok k} {gv : Bool}
@[go_sem ↓] theorem Sw : W k u (qI gv σ []) ↔ k ([], σ) := gH
@[go_sem ↓] theorem Qe {x : PL} {xs : List PL} : W k u (qI gv σ (x :: xs)) ↔ W (fun p => W (fun r => k (p.1 :: r.1, r.2)) ⟨⟩ (qI gv p.2 xs)) ⟨⟩ (qH gv σ x) := by
  simp only [qI, dR, bB, bY]
end
section
variable {k : AV × St → Prop} {u : Tok k} {gv : Bool}
@[go_sem ↓] theorem U3 {x : PL} : W k u (I7 gv σ (.one x)) ↔ W (fun p => k (.one p.1, p.2)) ⟨⟩ (qH gv σ x) := by simp only [I7, dR, bY]
@[go_sem ↓] theorem U4 {xs : List PL} : W k u (I7 gv σ (.agg xs)) ↔ W (fun p => k (.agg p.1, p.2)) ⟨⟩ (qI gv σ xs) := by simp only [I7, dR, bY]
end
section
variable {k : List AV × St → Prop} {u : Tok k} {gv : Bool}
@[go_sem ↓] theorem Sy : W k u (rD gv σ []) ↔ k ([], σ) := gH
@[go_sem ↓] theorem Qf {x : CV} {xs : List CV} : W k u (rD gv σ (x :: xs)) ↔ W (fun p => W (fun r => k (p.1 :: r.1, r.2)) ⟨⟩ (rD gv p.2 xs)) ⟨⟩ (I7 gv σ x) := by
  simp only [rD, dR, bB, bY]
end
section
variable {k : List PL × St → Prop} {u : Tok k} {kf : Nat → Nat} {c base j : Nat} {pend : List PL}
@[go_sem ↓] theorem SA : W k u (qb kf c pend σ []) ↔ k ([], σ) := by simp only [qb, dR, bJ]
def M5 (kf : Nat → Nat) (c : Nat) (pend : List PL) (σ : St) : CL → Option (PL × St)
  | .f x => some (.f x, σ)
  | .jo => some (.jo, σ)
  | .fA => some (.fA, σ)
  | .mp sh ents => (newP pend σ (kf c) (.map sh ents)).map fun s => (.mp (kf c), s)
  | .own sz rows => (newP pend σ (kf c + kf c % 2) (.row sz rows)).map fun s => (.own (kf c + kf c % 2) rows.length, s)
@[go_sem ↓] theorem Qg {x : CL} {xs : List CL} : W k u (qb kf c pend σ (x :: xs)) ↔ W (fun p => W (fun r => k (p.1 :: r.1, r.2)) ⟨⟩ (qb kf (c + 1) (p.1 :: pend) p.2 xs)) ⟨⟩ (M5 kf c pend σ x) := by
  simp only [dR]
  cases x <;> simp only [qb, M5, bJ, bB, bY]
@[go_sem ↓] theorem SB : W k u (wz base j pend σ []) ↔ k ([], σ) := by simp only [wz, dR, bJ]
@[go_sem ↓] theorem Qh {x : TV} {xs : List TV} : W k u (wz base j pend σ (x :: xs)) ↔ W (fun p => W (fun r => k (p.1 :: r.1, r.2)) ⟨⟩ (wz base (j + 1) (p.1 :: pend) p.2 xs)) ⟨⟩ (BO (base + 200 * (j + 1)) pend σ x) := by
  simp only [wz, dR, bB, bY]
end
section
variable {k : PL × St → Prop} {u : Tok k} {kf : Nat → Nat} {c key : Nat} {pend : List PL}
@[go_sem] theorem aeP {x : FV} : M5 kf c pend σ (.f x) = some (.f x, σ) := rfl
@[go_sem] theorem aaC : M5 kf c pend σ .jo = some (.jo, σ) := rfl
@[go_sem] theorem Xc : M5 kf c pend σ .fA = some (.fA, σ) := rfl
@[go_sem ↓] theorem Xd {sh : KS} {ents : List (KV × FC)} : W k u (M5 kf c pend σ (.mp sh ents)) ↔ W (fun s => k (.mp (kf c), s)) ⟨⟩ (newP pend σ (kf c) (.map sh ents)) := by simp only [M5, dR, bY]
@[go_sem ↓] theorem U5 {sz : Nat} {rows : List (List FV)} : W k u (M5 kf c pend σ (.own sz rows)) ↔ W (fun s => k (.own (kf c + kf c % 2) rows.length, s)) ⟨⟩ (newP pend σ (kf c + kf c % 2) (.row sz rows)) := by simp only [M5, dR, bY]
@[go_sem] theorem aeQ {x : FV} : BO key pend σ (.f x) = some (.f x, σ) := rfl
@[go_sem] theorem aaD : BO key pend σ .jo = some (.jo, σ) := rfl
@[go_sem] theorem Xe : BO key pend σ .fA = some (.fA, σ) := rfl
@[go_sem] theorem adl {cs : List FV} : BO key pend σ (.fp cs) = some (.fp cs, σ) := rfl
@[go_sem] theorem adn {f : FuncId} {cs : List (List FV)} : BO key pend σ (.fn f cs) = some (.fn f cs, σ) := rfl
@[go_sem] theorem aaE : BO key pend σ .any = some (.any, σ) := rfl
@[go_sem ↓] theorem Xf {sh : KS} {ents : List (KV × FC)} : W k u (BO key pend σ (.mp sh ents)) ↔ W (fun s => k (.mp key, s)) ⟨⟩ (newP pend σ key (.map sh ents)) := by simp only [BO, dR, bY]
@[go_sem ↓] theorem U6 {sz : Nat} {rows : List (List FV)} : W k u (BO key pend σ (.own sz rows)) ↔ W (fun s => k (.own (ow key) rows.length, s)) ⟨⟩ (newP pend σ (ow key) (.row sz rows)) := by simp only [BO, dR, bY]
@[go_sem ↓] theorem U7 {cs : List CL} : W k u (BO key pend σ (.ptr cs)) ↔ W (fun p => p.1.any (dW key) = false ∧ W (fun s => k (.ptr key 0, s)) ⟨⟩ (newP pend p.2 key (.mK p.1))) ⟨⟩ (qb (Md key) 0 pend σ cs) := by
  simp only [BO, dR, bB, dG, bY, Bool.not_eq_true]
end
section
variable {k : CV × St → Prop} {u : Tok k} {base : Nat} {pend : List PL}
@[go_sem ↓] theorem U8 {x : TV} : W k u (I8 base pend σ (.one x)) ↔ W (fun p => k (.one p.1, p.2)) ⟨⟩ (BO (base + 200) pend σ x) := by simp only [I8, dR, bY]
@[go_sem ↓] theorem U9 {xs : List TV} : W k u (I8 base pend σ (.agg xs)) ↔ W (fun p => k (.agg p.1, p.2)) ⟨⟩ (wz base 0 pend σ xs) := by simp only [I8, dR, bY]
end
section
variable {k : List CV × St → Prop} {u : Tok k} {base i : Nat} {pend : List PL} {bo : List Nat}
@[go_sem] theorem aeR : ab bo i = if bo.contains i then dD i + 10001 else dD i + 1 := rfl
@[go_sem] theorem aeS {key : Nat} : ow key = if key / 10000 % 2 = 0 then key + key % 2 else key := rfl
@[go_sem ↓] theorem SC : W k u (wB base i pend σ []) ↔ k ([], σ) := by simp only [wB, dR, bJ]
@[go_sem ↓] theorem Qi {x : AV} {xs : List AV} : W k u (wB base i pend σ (x :: xs)) ↔ W (fun p => W (fun r => k (p.1 :: r.1, r.2)) ⟨⟩ (wB base (i + 1) (cells p.1 ++ pend) p.2 xs)) ⟨⟩ (I8 (base + 2000 * i) pend σ x) := by
  simp only [wB, dR, bB, bY]
@[go_sem ↓] theorem Qj : W k u (enter bo i pend σ []) ↔ k ([], σ) := by simp only [enter, dR, bJ]
@[go_sem ↓] theorem M6 {x : AV} {xs : List AV} : W k u (enter bo i pend σ (x :: xs)) ↔ W (fun p => W (fun s => W (fun r => k (p.1 :: r.1, r.2)) ⟨⟩ (enter bo (i + 1) (cells p.1 ++ pend) s xs)) ⟨⟩ (some ⟨put p.2.tm i (.c p.1), p.2.ob⟩)) ⟨⟩ (I8 (ab bo i) pend σ x) := by
  simp only [enter, dR, bB, bY, bJ]
end
section
variable {k : St → Prop} {u : Tok k} {fH : St} {base : Nat} {pend : List PL}
@[go_sem ↓] theorem SE : W k u (yG fH pend base σ [] []) ↔ k σ := by simp only [yG, dR, bJ]
@[go_sem ↓] theorem Qk {x : CV} {xs : List CV} {y : AV} {ys : List AV} : W k u (yG fH pend base σ (x :: xs) (y :: ys)) ↔ W (fun s => W k ⟨⟩ (yG fH pend (base + 1000) s xs ys)) ⟨⟩ (Vp fH pend base σ x y) := by
  simp only [yG, dR, bB]
@[go_sem ↓] theorem Va {x : PL} {y : TV} : W k u (Vp fH pend base σ (.one x) (.one y)) ↔ W k ⟨⟩ (BP fH pend base σ x y) := Iff.rfl
@[go_sem ↓] theorem Vb {x : List PL} {y : List TV} : W k u (Vp fH pend base σ (.agg x) (.agg y)) ↔ W k ⟨⟩ (Ac fH pend base σ x y) := Iff.rfl
@[go_sem ↓] theorem SF : W k u (Ac fH pend base σ [] []) ↔ k σ := by simp only [Ac, dR, bJ]
@[go_sem ↓] theorem Ql {x : PL} {xs : List PL} {y : TV} {ys : List TV} : W k u (Ac fH pend base σ (x :: xs) (y :: ys)) ↔ W (fun s => W k ⟨⟩ (Ac fH pend (base + 200) s xs ys)) ⟨⟩ (BP fH pend base σ x y) := by
  simp only [Ac, dR, bB]
@[go_sem ↓] theorem Vd {key off : Nat} {cs : List CL} : W k u (BP fH pend base σ (.ptr key off) (.ptr cs)) ↔ W (fun xs => W (fun p => k (jc p.2 key (.mK p.1))) ⟨⟩ (qb (G8 base xs) 0 pend σ cs)) ⟨⟩ (nV fH key) := by
  simp only [BP, nV, dR]
  cases get fH.ob key with
  | none => exact bZ
  | some o => cases o <;> first | exact bZ | (simp only [oc, bJ, bY])
@[go_sem] theorem ado {key : Nat} {sh : KS} {ents : List (KV × FC)} : BP fH pend base σ (.mp key) (.mp sh ents) = some (jc σ key (.map sh ents)) := rfl
@[go_sem] theorem Xg {key n sz : Nat} {rows : List (List FV)} : BP fH pend base σ (.own key n) (.own sz rows) = some (jc σ key (.row sz rows)) := rfl
@[go_sem] theorem aeT {x y : FV} : BP fH pend base σ (.f x) (.f y) = some σ := rfl
@[go_sem] theorem aaF {y : FV} : BP fH pend base σ .fG (.f y) = some σ := rfl
@[go_sem] theorem aaG : BP fH pend base σ .jo .jo = some σ := rfl
@[go_sem] theorem Xh : BP fH pend base σ .fA .fA = some σ := rfl
@[go_sem] theorem aaH {key n : Nat} {y : FV} : BP fH pend base σ (.own key n) (.f y) = some σ := rfl
@[go_sem] theorem aaI {key n : Nat} : BP fH pend base σ (.own key n) .any = some σ := rfl
@[go_sem] theorem adp {a b : List FV} : BP fH pend base σ (.fp a) (.fp b) = some σ := rfl
@[go_sem] theorem adq {f g : FuncId} {a b : List (List FV)} : BP fH pend base σ (.fn f a) (.fn g b) = some σ := rfl
end
def Ve (base c : Nat) : Option PL → Nat
  | some (.mp k) => if k % 2 = 0 then k else base + 2 * (c + 1)
  | some (.own k _) => if k % 2 = 0 then k else base + 2 * (c + 1)
  | _ => base + 2 * (c + 1)
@[go_sem] theorem aaJ {base c : Nat} {xs : List PL} : G8 base xs c = Ve base c (xs[c]?) := by
  unfold G8
  cases xs[c]? with
  | none => rfl
  | some x => cases x <;> rfl
@[go_sem] theorem adr {base c k : Nat} : Ve base c (some (.mp k)) = if k % 2 = 0 then k else base + 2 * (c + 1) := rfl
@[go_sem] theorem aaK {base c k n : Nat} : Ve base c (some (.own k n)) = if k % 2 = 0 then k else base + 2 * (c + 1) := rfl
@[go_sem] theorem aeU {base c : Nat} {x : FV} : Ve base c (some (.f x)) = base + 2 * (c + 1) := rfl
@[go_sem] theorem aaL {base c : Nat} : Ve base c (some .fG) = base + 2 * (c + 1) := rfl
@[go_sem] theorem Xi {base c : Nat} : Ve base c (some .fA) = base + 2 * (c + 1) := rfl
section
variable {k : TV × St → Prop} {u : Tok k} {key n : Nat}
@[go_sem] theorem ads {x : FV} : outT σ (.f x) = some (.f x, σ) := rfl
@[go_sem] theorem Xj : outT σ .fG = some (.f (.sl []), σ) := rfl
@[go_sem] theorem Xk : outT σ .jo = some (.jo, σ) := rfl
@[go_sem] theorem Vf : outT σ .fA = some (.fA, σ) := rfl
@[go_sem] theorem aaM {cs : List FV} : outT σ (.fp cs) = some (.fp cs, σ) := rfl
@[go_sem] theorem aaN {f : FuncId} {cs : List (List FV)} : outT σ (.fn f cs) = some (.fn f cs, σ) := rfl
@[go_sem ↓] theorem SG : W k u (outT σ (.own key n)) ↔ W (fun p => k (.f p.1, p.2)) ⟨⟩ (wh σ (.own key n)) := by simp only [outT, dR, bY]
@[go_sem ↓] theorem Vg : W k u (outT σ (.mp key)) ↔ W (fun o => k (.mp o.1 o.2, ⟨σ.tm, rem σ.ob key⟩)) ⟨⟩ (nL σ key) := by
  simp only [outT, nL, dR]
  cases get σ.ob key with
  | none => exact bZ
  | some o => cases o <;> first | exact bZ | exact kY Iff.rfl
@[go_sem ↓] theorem SH : W k u (outT σ (.ptr key 0)) ↔ W (fun xs => W (fun p => k (.ptr p.1, p.2)) ⟨⟩ (yF ⟨σ.tm, rem σ.ob key⟩ xs)) ⟨⟩ (nV σ key) := by
  simp only [outT, nV, dR]
  cases get σ.ob key with
  | none => exact bZ
  | some o => cases o <;> first | exact bZ | (simp only [oc, bJ, bY])
@[go_sem ↓] theorem SI {sz : Nat} : W k u (Ad sz σ (.own key n)) ↔ W (fun o => o.1 = sz ∧ k (.own sz o.2, ⟨σ.tm, rem σ.ob key⟩)) ⟨⟩ (iy σ key) := by
  simp only [Ad, iy, dR]
  cases get σ.ob key with
  | none => exact bZ
  | some o => cases o <;> first | exact bZ | (simp only [J9, bJ, bO])
@[go_sem ↓] theorem SL {sz : Nat} : W k u (Ad sz σ .fG) ↔ ¬ sz = 0 ∧ k (.own sz [], σ) := by simp only [Ad, dR, dG, bJ]
@[go_sem] theorem aaO {x : PL} {y : FV} : jH σ x (.f y) = some (.f y, σ) := by cases x <;> first | rfl | (rename_i a b; cases b <;> rfl)
@[go_sem] theorem Vh {x : PL} : jH σ x .jo = some (.jo, σ) := by cases x <;> first | rfl | (rename_i a b; cases b <;> rfl)
@[go_sem] theorem SN {x : PL} : jH σ x .fA = some (.fA, σ) := by cases x <;> first | rfl | (rename_i a b; cases b <;> rfl)
def bko (σ : St) (key : Nat) : Nat → Option (TV × St)
  | 1 => (J9 (get σ.ob key)).map fun p => (.own p.1 p.2, ⟨σ.tm, rem σ.ob key⟩)
  | _ => some (.any, σ)
@[go_sem] theorem aeV : bko σ key 0 = some (.any, σ) := rfl
@[go_sem] theorem Xl : bko σ key 1 = (J9 (get σ.ob key)).map fun p => (.own p.1 p.2, ⟨σ.tm, rem σ.ob key⟩) := rfl
@[go_sem] theorem Vi {n sz : Nat} {rows : List (List FV)} : jH σ (.own key n) (.own sz rows) = bko σ key (key % 2) := by
  simp only [jH]
  rcases Nat.mod_two_eq_zero_or_one key with h | h
  · rw [h, if_neg (by decide)]; rfl
  · rw [h, if_pos rfl, Xl]
    cases get σ.ob key with
    | none => rfl
    | some o => cases o <;> rfl
@[go_sem] theorem Vj {sz : Nat} {rows : List (List FV)} : jH σ .fG (.own sz rows) = some (.any, σ) := rfl
@[go_sem] theorem Vk {x : PL} : jH σ x .any = some (.any, σ) := by cases x <;> first | rfl | (rename_i a b; cases b <;> rfl)
@[go_sem] theorem Xm {x : PL} {cs : List FV} : jH σ x (.fp cs) = some (.fp cs, σ) := by cases x <;> first | rfl | (rename_i a b; cases b <;> rfl)
@[go_sem] theorem Xn {x : PL} {f : FuncId} {cs : List (List FV)} : jH σ x (.fn f cs) = some (.fn f cs, σ) := by cases x <;> first | rfl | (rename_i a b; cases b <;> rfl)
@[go_sem ↓] theorem Qm {cs : List CL} : W k u (jH σ (.ptr key 0) (.ptr cs)) ↔ key % 2 = 1 ∧ W k ⟨⟩ (outT σ (.ptr key 0)) := by simp only [jH, dR, bO]
@[go_sem ↓] theorem SQ {sh : KS} {ents : List (KV × FC)} : W k u (jH σ (.mp key) (.mp sh ents)) ↔ key % 2 = 1 ∧ W k ⟨⟩ (outT σ (.mp key)) := by simp only [jH, dR, bO]
end
section
variable {k : List TV × St → Prop} {u : Tok k}
@[go_sem ↓] theorem Qo : W k u (uS σ []) ↔ k ([], σ) := gH
@[go_sem ↓] theorem M7 {x : PL} {xs : List PL} : W k u (uS σ (x :: xs)) ↔ W (fun p => W (fun r => k (p.1 :: r.1, r.2)) ⟨⟩ (uS p.2 xs)) ⟨⟩ (outT σ x) := by
  simp only [uS, dR, bB, bY]
@[go_sem ↓] theorem M8 : W k u (nJ σ [] []) ↔ k ([], σ) := by simp only [nJ, dR, bJ]
@[go_sem ↓] theorem LY {l : PL} {ls : List PL} {x : TV} {xs : List TV} : W k u (nJ σ (l :: ls) (x :: xs)) ↔ W (fun p => W (fun r => k (p.1 :: r.1, r.2)) ⟨⟩ (nJ p.2 ls xs)) ⟨⟩ (jH σ l x) := by
  simp only [nJ, dR, bB, bY]
end
section
variable {k : AV × St → Prop} {u : Tok k}
@[go_sem ↓] theorem Jb {x : PL} : W k u (Ae none σ (.one x)) ↔ W (fun p => k (.one p.1, p.2)) ⟨⟩ (outT σ x) := by simp only [Ae, Mh, dR, bY]
@[go_sem ↓] theorem Jc {xs : List PL} : W k u (Ae none σ (.agg xs)) ↔ W (fun p => k (.agg p.1, p.2)) ⟨⟩ (uS σ xs) := by simp only [Ae, Mh, dR, bY]
@[go_sem ↓] theorem Qp {sz : Nat} {x : PL} : W k u (Ae (some sz) σ (.one x)) ↔ W (fun p => k (.one p.1, p.2)) ⟨⟩ (Ad sz σ x) := by simp only [Ae, dR, bY]
@[go_sem ↓] theorem Qq {l : PL} {x : TV} : W k u (wD σ (.one l) (.one x)) ↔ W (fun p => k (.one p.1, p.2)) ⟨⟩ (jH σ l x) := by simp only [wD, dR, bY]
@[go_sem ↓] theorem Qr {l : List PL} {x : List TV} : W k u (wD σ (.agg l) (.agg x)) ↔ W (fun p => k (.agg p.1, p.2)) ⟨⟩ (nJ σ l x) := by simp only [wD, dR, bY]
end
section
variable {k : List AV × St → Prop} {u : Tok k}
@[go_sem ↓] theorem Qs {fl : List (Option Nat)} : W k u (mW fl σ []) ↔ k ([], σ) := by simp only [mW, dR, bJ]
@[go_sem ↓] theorem M9 {fl : List (Option Nat)} {x : CV} {xs : List CV} : W k u (mW fl σ (x :: xs)) ↔ W (fun p => W (fun r => k (p.1 :: r.1, r.2)) ⟨⟩ (mW fl.tail p.2 xs)) ⟨⟩ (Ae (fl.headD none) σ x) := by
  simp only [mW, dR, bB, bY]
@[go_sem ↓] theorem Na : W k u (kH σ [] []) ↔ k ([], σ) := by simp only [kH, dR, bJ]
@[go_sem ↓] theorem LZ {l : CV} {ls : List CV} {x : AV} {xs : List AV} : W k u (kH σ (l :: ls) (x :: xs)) ↔ W (fun p => W (fun r => k (p.1 :: r.1, r.2)) ⟨⟩ (kH p.2 ls xs)) ⟨⟩ (wD σ l x) := by
  simp only [kH, dR, bB, bY]
end
section
variable {k : St → Prop} {u : Tok k} {gv : Bool} {d : Nat} {args : List CV} {p : List AV × St} {r : List AV × List AV} {s : St}
@[go_sem ↓] theorem adt : W k u (EB gv args p r) ↔ (if (!gv && ((r.1.any vC || !p.1.all fE) && args.any (fun x => (cells x).any gu))) = true then W k ⟨⟩ (rE p.2 args) else k p.2) := by
  simp only [EB, dR]
  split
  · exact Iff.rfl
  · exact bJ
@[go_sem ↓] theorem adu : W k u (EC d σ args p r s) ↔ (if p.1.all fE = true then k s else W k ⟨⟩ (yG σ (args.flatMap cells) (dD d + 10000) s args r.2)) := by
  simp only [EC, dR]
  split
  · exact bJ
  · exact Iff.rfl
end
end
section
variable {σ : St} {ks BN : List Nat} {rws : List (Nat × Nat)}
@[go_sem] theorem adv : res ks BN rws σ = ⟨pick ks (jq σ rws).tm, pick BN (jq σ rws).ob⟩ := rfl
@[go_sem] theorem aaP : jq σ [] = σ := rfl
end
attribute [go_sem] if_true if_false true_and and_true Bool.not_false Bool.not_true Bool.and_false Bool.false_and Bool.and_true Bool.true_and Bool.or_false Bool.false_or Bool.or_true Bool.true_or Bool.false_eq_true not_true_eq_false not_false_eq_true ne_eq forall_const and_self implies_true KV.one.injEq KV.agg.injEq SV.str.injEq SV.int.injEq SV.bool.injEq List.cons.injEq List.getElem?_cons_zero List.getElem?_cons_succ List.getD_cons_zero List.getD_cons_succ List.contains_cons List.contains_nil decide_true decide_false fresh
end Go.Proofs.Ytdkkgecdhapfhaa.Ev

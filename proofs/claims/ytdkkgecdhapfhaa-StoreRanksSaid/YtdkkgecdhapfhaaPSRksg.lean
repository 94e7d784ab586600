/- A part of the proof of StoreRanks: cut, joined and given short names by a program of this session (wip/tools/pack.py); Lean checks it. No condition. -/
import Derived.Test.YtdkkgecdhapfhaaPSRksf
import Derived.Test.YtdkkgecdhapfhaaPSRksd
set_option linter.unusedSectionVars false
set_option linter.unusedSimpArgs false
set_option linter.unusedVariables false
namespace Go.Proofs.Ytdkkgecdhapfhaa.Ev
open Go
attribute [go_sem ↓] EC J5 uz ED EF
attribute [go_sem] gI
attribute [go_sem ↓] MW J6 RU
section
variable {α β : Type} {k : α → Prop} {u : Tok k}
@[go_sem ↓] theorem acG {c : Prop} [Decidable c] {a b : Option α} : W k u (if c then a else b) ↔ (c → W k u a) ∧ (¬ c → W k u b) := V9
end
def Hy : CV → Option (Nat × Nat)
  | .one (.ptr k o) => some (k, o)
  | _ => none
def qo : CV → Option ByteArray
  | .one (.f (.str s)) => some s
  | _ => none
def Ke : CV → Option (List PL)
  | .agg l => some l
  | _ => none
def RV : PV → Option (List CV)
  | .uf l => some l
  | _ => none
@[go_sem] theorem Wh {l : List CV} : RV (.uf l) = some l := rfl
def ZK (off : Nat) : CV → Option CV
  | .one (.ptr key o) => some (.one (.ptr key (o + off)))
  | .one (.fp cs) => some (.one (.fp (cs.drop off)))
  | .one (.rp key z i o) => some (.one (.rp key z i (o + off)))
  | _ => none
@[go_sem] theorem ZL {off k o : Nat} : ZK off (.one (.ptr k o)) = some (.one (.ptr k (o + off))) := rfl
@[go_sem] theorem acH {off : Nat} {cs : List FV} : ZK off (.one (.fp cs)) = some (.one (.fp (cs.drop off))) := rfl
@[go_sem] theorem acI {off k z i o : Nat} : ZK off (.one (.rp k z i o)) = some (.one (.rp k z i (o + off))) := rfl
def RX : CV → Option Bool
  | .one .fH => some true
  | .one (.f (.sl (_ :: _))) => some false
  | _ => none
@[go_sem] theorem acJ : RX (.one .fH) = some true := rfl
@[go_sem] theorem acK {r : List FV} {l : List (List FV)} : RX (.one (.f (.sl (r :: l)))) = some false := rfl
section
variable {α : Type}
@[go_sem] theorem get_nil {i : Nat} : get ([] : List (Nat × α)) i = none := rfl
@[go_sem] theorem Wi {k : Nat} {v : α} {l : List (Nat × α)} {i : Nat} : get ((k, v) :: l) i = if k = i then some v else get l i := rfl
@[go_sem] theorem ZM {i : Nat} : rem ([] : List (Nat × α)) i = [] := rfl
@[go_sem] theorem Wj {k : Nat} {v : α} {l : List (Nat × α)} {i : Nat} : rem ((k, v) :: l) i = if k = i then rem l i else (k, v) :: rem l i := rfl
@[go_sem] theorem ZN {i : Nat} {v : α} : put ([] : List (Nat × α)) i v = [(i, v)] := rfl
@[go_sem] theorem Wm {k : Nat} {w : α} {l : List (Nat × α)} {i : Nat} {v : α} : put ((k, w) :: l) i v = if k = i then (i, v) :: rem l i else (k, w) :: put l i v := rfl
def Kg (k : Nat) (r : List (Nat × α)) : Option α → List (Nat × α)
  | some v => (k, v) :: r
  | none => r
@[go_sem] theorem RY {k : Nat} {v : α} {r : List (Nat × α)} : Kg k r (some v) = (k, v) :: r := rfl
@[go_sem] theorem RZ {k : Nat} {r : List (Nat × α)} : Kg k r none = r := rfl
@[go_sem] theorem Wn {l : List (Nat × α)} : pick [] l = [] := rfl
@[go_sem] theorem Uy {k : Nat} {ks : List Nat} {l : List (Nat × α)} : pick (k :: ks) l = Kg k (pick ks l) (get l k) := by
  unfold pick
  rw [List.filterMap_cons]
  cases get l k <;> rfl
end
section
variable {Γ : Env} {F d : Nat} {q : Bool} {σ : St}
section
variable {k : Out × St → Prop} {u : Tok k}
@[go_sem ↓] theorem acL : W k u (ev Γ F .skip σ) ↔ k (.jq, σ) := by simp only [ev]; exact gI
@[go_sem ↓] theorem ad4 {is : List G} {ks : List Nat} : W k u (ev Γ F (.reg is ks) σ) ↔ W (fun s => W k ⟨⟩ (some (.jq, ⟨pick ks s.tm, s.ob⟩))) ⟨⟩ (Ca Γ false is σ) := by simp only [ev, dR, bZ, bJ]
@[go_sem ↓] theorem ad5 {pre : List (G × List Nat)} {lD : List Nat} {jH rest : List G} {ks : List Nat} : W k u (ev Γ F (.tZ pre lD jH rest ks) σ) ↔ W (fun s => W k ⟨⟩ (some (.jq, ⟨pick ks s.tm, s.ob⟩))) ⟨⟩ (Uw Γ pre lD jH rest σ) := by simp only [ev, dR, bZ, bJ]
@[go_sem ↓] theorem Wo {gs : List G} {ks rC : List Nat} {r : St} : nY Γ gs ks rC σ r [] ↔ True := Iff.rfl
@[go_sem ↓] theorem Uz {gs : List G} {ks rC : List Nat} {r : St} {o : List Nat} {os : List (List Nat)} : nY Γ gs ks rC σ r (o :: os) ↔ W (fun s => W (fun t => t = r) ⟨⟩ (some (⟨pick ks s.tm, pick rC s.ob⟩ : St))) ⟨⟩ (Ca Γ false (o.map fun i => gs.getD i default) σ) ∧ nY Γ gs ks rC σ r os := by
  conv => lhs; unfold nY
  simp only [dR, V, Option.some.injEq, exists_eq_left']
@[go_sem ↓] theorem ad6 {gs : List G} {o : List Nat} {os : List (List Nat)} {ks rC : List Nat} : W k u (ev Γ F (.any gs (o :: os) ks rC) σ) ↔ W (fun s => W (fun r => nY Γ gs ks rC σ r os ∧ W k ⟨⟩ (some (.jq, r))) ⟨⟩ (some (⟨pick ks s.tm, pick rC s.ob⟩ : St))) ⟨⟩ (Ca Γ false (o.map fun i => gs.getD i default) σ) := by
  simp only [ev, evO, dR, bB, bO, bJ]
@[go_sem ↓] theorem ad7 {a b : CC} : W k u (ev Γ F (.seq a b) σ) ↔ W (fun p => match p.1 with
    | .jq => W k ⟨⟩ (ev Γ F b p.2)
    | o => k (o, p.2)) ⟨⟩ (ev Γ F a σ) := by
  simp only [ev, dR, bB]
  refine dH fun p => ?_
  obtain ⟨o, s⟩ := p
  cases o <;> first | rfl | exact bJ
@[go_sem ↓] theorem acM {c : eu} {a b : CC} : W k u (ev Γ F (.cond c a b) σ) ↔ W (fun v => W (fun t => Br t (fun _ => W k ⟨⟩ (ev Γ F a σ)) (fun _ => W k ⟨⟩ (ev Γ F b σ)) ⟨⟩) ⟨⟩ (bool? v)) ⟨⟩ (val σ c) := by
  simp only [ev, dR, bB]
  refine dH fun v => dH fun t => ?_
  cases t <;> simp [Br, dR]
@[go_sem ↓] theorem ZO {id : Nat} {c : CC} : W k u (ev Γ F (.block id c) σ) ↔ W (fun p => match p.1 with
    | .ext i => if i = id then k (.jq, p.2) else k (.ext i, p.2)
    | o => k (o, p.2)) ⟨⟩ (ev Γ F c σ) := by
  simp only [ev, dR, bZ]
  refine dH fun p => ?_
  obtain ⟨o, s⟩ := p
  cases o with
  | ext i => by_cases hi : i = id <;> simp [hi]
  | _ => exact Iff.rfl
@[go_sem ↓] theorem AX {keep BQ : List Nat} {rws : List (Nat × Nat)} {c : CC} : W k u (ev Γ F (.loop keep BQ rws c) σ) ↔ W k u (iter (ev Γ F c) (res keep BQ rws) F σ) := by simp only [ev]
@[go_sem ↓] theorem acN {id : Nat} : W k u (ev Γ F (.exit id) σ) ↔ k (.ext id, σ) := by simp only [ev]; exact gI
@[go_sem ↓] theorem ad8 : W k u (ev Γ F .ret σ) ↔ k (.ret, σ) := by simp only [ev]; exact gI
end
section
variable {k : St → Prop} {u : Tok k}
@[go_sem ↓] theorem UA : W k u (Ca Γ q [] σ) ↔ k σ := gI
@[go_sem ↓] theorem R3 {g : G} {l : List G} : W k u (Ca Γ q (g :: l) σ) ↔ W (fun s => W k ⟨⟩ (Ca Γ q l s)) ⟨⟩ (PI Γ q σ g) := by
  show W k u ((PI Γ q σ g).bind (Ca Γ q l)) ↔ _
  rw [EC]
@[go_sem ↓] theorem ad9 {g : G} : W k u (PI Γ q σ g) ↔ W (fun p => W k ⟨⟩ (some (rP p.2 g.dst p.1))) ⟨⟩ (lN Γ q σ g) := by simp only [PI, dR, bZ, bJ]
def R4 (f : Nat → Option (PV × St)) : List Nat → Prop
  | [] => True
  | j :: l => W (fun _ => True) ⟨⟩ (f j) ∧ R4 f l
theorem FU {f : Nat → Option (PV × St)} : ∀ {l : List Nat}, l.all (fun j => (f j).isSome) = true ↔ R4 f l
  | [] => by simp [R4]
  | j :: l => by
    rw [List.all_cons, Bool.and_eq_true, FU (l := l)]
    refine and_congr_left fun _ => ?_
    cases h : f j with
    | none => simp [uz]
    | some y => simp [gI]
@[go_sem ↓] theorem ZP {f : Nat → Option (PV × St)} : R4 f [] ↔ True := Iff.rfl
@[go_sem ↓] theorem Wp {f : Nat → Option (PV × St)} {j : Nat} {l : List Nat} : R4 f (j :: l) ↔ W (fun _ => True) ⟨⟩ (f j) ∧ R4 f l := Iff.rfl
def wkv : Option CV → List Nat
  | some (.one (.ptr k _)) => [k]
  | _ => []
@[go_sem] theorem ZR {k o : Nat} : wkv (some (.one (.ptr k o))) = [k] := rfl
@[go_sem] theorem ZT {tm : List (Nat × PV)} {dst : Option Nat} {gd : Option (Option Nat × Bool)} {n : Nat} {x y : eu} : rT tm ⟨dst, gd, .store n x y⟩ = wkv (val ⟨tm, []⟩ x) := by
  show (match val ⟨tm, []⟩ x with | some (.one (.ptr k _)) => [k] | _ => []) = _
  cases val ⟨tm, []⟩ x with
  | none => rfl
  | some v => cases v with
    | one y => cases y <;> rfl
    | agg _ => rfl
@[go_sem ↓] theorem aea {pre : List (G × List Nat)} {lD : List Nat} {jH rest : List G} : W k u (Uw Γ pre lD jH rest σ) ↔ pre.all (fun g => !jB g.1.i || fresh σ (dD (g.1.dst.getD 999))) = true ∧ W (fun s => W (fun tm => R4 (fun j => lN Γ true ⟨tm, σ.ob.filter (fun p => !(jH.flatMap (rT tm)).contains p.1)⟩ (pre.getD j default).1) lD ∧ W (fun ob => W (fun s => W k ⟨⟩ (Ca Γ false rest s)) ⟨⟩ (some ⟨tm, ob⟩)) ⟨⟩ (Jl Γ tm jH s.ob)) ⟨⟩ (some (pick (s.tm.map (·.1)) s.tm))) ⟨⟩ (Mr Γ σ.ob pre σ) := by
  simp only [Uw, dR, bB, bO, bJ, ← FU]
@[go_sem ↓] theorem UC {qD : List (Nat × Ob)} : W k u (Mr Γ qD [] σ) ↔ k σ := gI
@[go_sem ↓] theorem R5 {qD : List (Nat × Ob)} {g : G} {nk : List Nat} {l : List (G × List Nat)} : W k u (Mr Γ qD ((g, nk) :: l) σ) ↔ W (fun p => nk.any (fun k => qC k p.1 || (jB g.i && (p.2.ob.take 1).any (fun r => r.1 == k || lM k r.2))) = false ∧ W (fun s => W k ⟨⟩ (Mr Γ qD l s)) ⟨⟩ (some ⟨rR g.dst σ.tm p.1, if jB g.i then p.2.ob.take 1 ++ σ.ob else σ.ob⟩)) ⟨⟩ (lN Γ true ⟨σ.tm, qD⟩ g) := by
  conv => lhs; unfold Mr
  simp only [dR, bB, dG, bJ, Bool.not_eq_true]
end
section
variable {k : List (Nat × Ob) → Prop} {u : Tok k} {tm : List (Nat × PV)} {ob : List (Nat × Ob)}
@[go_sem ↓] theorem UD : W k u (Jl Γ tm [] ob) ↔ k ob := gI
@[go_sem ↓] theorem R6 {n : Nat} {x y : eu} {dst : Option Nat} {gd : Option (Option Nat × Bool)} {l : List G} : W k u (Jl Γ tm (⟨dst, gd, .store n x y⟩ :: l) ob) ↔ W (fun v => W (fun _ => W (fun p => W k ⟨⟩ (Jl Γ tm l p.2.ob)) ⟨⟩ (cZ Γ true ⟨tm, ob⟩ 999 (.store n x y))) ⟨⟩ (Hy v)) ⟨⟩ (val ⟨tm, ob⟩ x) := by
  conv => lhs; unfold Jl
  simp only
  cases hv : val ⟨tm, ob⟩ x with
  | none => simp only [uz]
  | some v =>
    rw [gI]
    cases v with
    | one y => cases y <;> simp only [Hy, dR, jW, bJ, bB]
    | agg xs => simp only [Hy, uz]
end
section
variable {i : Nat}
def vl : Option PV → Option CV
  | some (.c x) => some x
  | _ => none
@[go_sem] theorem ZU {x : CV} : vl (some (.c x)) = some x := rfl
@[go_sem] theorem Wq : val σ (.t i) = vl (get σ.tm i) := by simp only [val]; cases get σ.tm i with | none => rfl | some v => cases v <;> rfl
@[go_sem] theorem aeb {x : CV} : val σ (.k x) = some x := rfl
@[go_sem] theorem acO : rM σ (.t i) = get σ.tm i := rfl
@[go_sem] theorem acP {x : CV} : rM σ (.k x) = some (.c x) := rfl
@[go_sem] theorem Ws {k : IntKind} {n : Int} : int? (.one (.f (.int k n))) = some (k, n) := rfl
@[go_sem] theorem R7 {b : Bool} : bool? (.one (.f (.bool b))) = some b := rfl
@[go_sem] theorem Wt {k o : Nat} : Hy (.one (.ptr k o)) = some (k, o) := rfl
@[go_sem] theorem Wu {s : ByteArray} : qo (.one (.f (.str s))) = some s := rfl
@[go_sem] theorem Wv {l : List PL} : Ke (.agg l) = some l := rfl
@[go_sem] theorem cells_one {x : PL} : cells (.one x) = [x] := rfl
@[go_sem] theorem UE {xs : List PL} : cells (.agg xs) = xs := rfl
def oc : Option Ob → Option (List PL)
  | some (.mV xs) => some xs
  | _ => none
def Kh : Option Ob → Option (Nat × List (List FV))
  | some (.row sz rows) => some (sz, rows)
  | _ => none
def om : Option Ob → Option (KS × List (KV × FC))
  | some (.map sh ents) => some (sh, ents)
  | _ => none
@[go_sem] theorem acQ {xs : List PL} : oc (some (.mV xs)) = some xs := rfl
@[go_sem] theorem ZV {sz : Nat} {rows : List (List FV)} : Kh (some (.row sz rows)) = some (sz, rows) := rfl
@[go_sem] theorem acR {sh : KS} {ents : List (KV × FC)} : om (some (.map sh ents)) = some (sh, ents) := rfl
def gb (want : Bool) : Option PV → Option Bool
  | some (.c (.one (.f (.bool b)))) => some (b == want)
  | some (.c (.one .und)) => some false
  | _ => none
@[go_sem] theorem ZW {b : Bool} : gb true (some (.c (.one (.f (.bool b))))) = some b := by cases b <;> rfl
@[go_sem] theorem Ww {b : Bool} : gb false (some (.c (.one (.f (.bool b))))) = some (!b) := by cases b <;> rfl
@[go_sem] theorem acS {w : Bool} : gb w (some (.c (.one .und))) = some false := rfl
@[go_sem] theorem UF {v : PV} : rP σ (some i) v = ⟨put σ.tm i v, σ.ob⟩ := rfl
@[go_sem] theorem UG {v : PV} : rP σ none v = σ := rfl
@[go_sem] theorem UH {tm : List (Nat × PV)} {v : PV} : rR (some i) tm v = put tm i v := rfl
@[go_sem] theorem UJ {tm : List (Nat × PV)} {v : PV} : rR none tm v = tm := rfl
end
section
variable {α : Type} {n off : Nat} {x : α} {xs ys : List α}
@[go_sem] theorem Wx : seg 0 0 xs = some [] := by simp [seg]
@[go_sem] theorem Wy : seg (n + 1) 0 (x :: xs) = (seg n 0 xs).map (x :: ·) := by
  unfold seg
  simp only [Nat.zero_add, List.length_cons, Nat.add_le_add_iff_right, List.drop_zero, List.take_succ_cons]
  split <;> rfl
@[go_sem] theorem Wz : seg n (off + 1) (x :: xs) = seg n off xs := by
  unfold seg
  simp only [List.length_cons, List.drop_succ_cons]
  by_cases h : off + n ≤ xs.length
  · rw [if_pos h, if_pos (by omega)]
  · rw [if_neg h, if_neg (by omega)]
@[go_sem] theorem ZX : lay 0 ([] : List α) xs = some xs := by simp [lay]
@[go_sem] theorem ZY {y : α} : lay 0 (y :: ys) (x :: xs) = (lay 0 ys xs).map (y :: ·) := by
  unfold lay
  simp only [Nat.zero_add, List.length_cons, Nat.add_le_add_iff_right, List.take_zero, List.drop_succ_cons, List.nil_append, List.cons_append]
  split <;> rfl
@[go_sem] theorem WA : lay (off + 1) ys (x :: xs) = (lay off ys xs).map (x :: ·) := by
  unfold lay
  simp only [List.length_cons, List.take_succ_cons]
  rw [show off + 1 + ys.length = off + ys.length + 1 from by omega]
  by_cases h : off + ys.length ≤ xs.length
  · rw [if_pos h, if_pos (by omega)]; rfl
  · rw [if_neg h, if_neg (by omega)]; rfl
end
@[go_sem] theorem acT {xs : List PL} : mk true xs = some (.agg xs) := rfl
@[go_sem] theorem mk_one {x : PL} : mk false [x] = some (.one x) := rfl
def nZ (σ : St) (key : Nat) : Option (List PL) := oc (get σ.ob key)
def iy (σ : St) (key : Nat) : Option (Nat × List (List FV)) := Kh (get σ.ob key)
def nN (σ : St) (key : Nat) : Option (KS × List (KV × FC)) := om (get σ.ob key)
attribute [go_sem] nZ iy nN Option.map_some Option.map_none Option.bind_some Option.bind_none
def jX (σ : St) (n : Nat) : CV → Option (List PL)
  | .one (.ptr key off) => (nZ σ key).bind (seg n off)
  | .one (.fp cs) => (seg n 0 cs).map (·.map .f)
  | .one (.rp key z i off) => (iy σ key).bind fun p => if p.1 ≠ z then none else p.2[i]?.bind fun r => (seg n off r).map (·.map .f)
  | _ => none
@[go_sem ↓] theorem PY {n key off : Nat} : jX σ n (.one (.ptr key off)) = (nZ σ key).bind (seg n off) := rfl
@[go_sem] theorem R8 {n : Nat} {cs : List FV} : jX σ n (.one (.fp cs)) = (seg n 0 cs).map (·.map .f) := rfl
section
variable {k : List PL → Prop} {u : Tok k}
@[go_sem ↓] theorem PZ {n key off : Nat} : W k u (jX σ n (.one (.ptr key off))) ↔ W (fun xs => W k ⟨⟩ (seg n off xs)) ⟨⟩ (nZ σ key) := EC
@[go_sem ↓] theorem R9 {n : Nat} {cs : List FV} : W k u (jX σ n (.one (.fp cs))) ↔ W (fun l => k (l.map .f)) ⟨⟩ (seg n 0 cs) := J5
@[go_sem ↓] theorem Sb {n key z i off : Nat} : W k u (jX σ n (.one (.rp key z i off))) ↔ W (fun p => p.1 = z ∧ W (fun r => W (fun l => k (l.map .f)) ⟨⟩ (seg n off r)) ⟨⟩ (p.2[i]?)) ⟨⟩ (iy σ key) := by
  simp only [jX, dR, bB, bZ, dG, ne_eq, Decidable.not_not]
end
section
variable {k : PV × St → Prop} {u : Tok k} {x y c : eu}
@[go_sem ↓] theorem acU {dst : Option Nat} {i : I} : W k u (lN Γ q σ ⟨dst, none, i⟩) ↔ W k u (cZ Γ q σ (dst.getD 999) i) := Iff.rfl
@[go_sem ↓] theorem UK {dst : Option Nat} {s : Nat} {want : Bool} {i : I} : W k u (lN Γ q σ ⟨dst, some (some s, want), i⟩) ↔ W (fun w => Br w (fun _ => W k ⟨⟩ (cZ Γ q σ (dst.getD 999) i)) (fun _ => k (.c (.one .und), σ)) ⟨⟩) ⟨⟩ (gb want (get σ.tm s)) := by
  have h : yJ σ (some (some s, want)) = gb want (get σ.tm s) := by
    simp only [yJ]
    cases get σ.tm s with
    | none => rfl
    | some v =>
      cases v with
      | uf l => rfl
      | c x =>
        cases x with
        | agg l => rfl
        | one p =>
          cases p with
          | f z => cases z <;> rfl
          | _ => rfl
  simp only [lN, dR, bB, h]
  refine dH fun t => ?_
  cases t <;> simp [bJ, Br, dR]
@[go_sem ↓] theorem af3 : W k u (cZ Γ q σ d (.mv x)) ↔ W (fun v => k (v, σ)) ⟨⟩ (rM σ x) := by simp only [cZ]; exact J5
@[go_sem ↓] theorem acV : W k u (cZ Γ q σ d (.pick c x y)) ↔ W (fun v => W (fun t => Br t (fun _ => W (fun z => k (.c z, σ)) ⟨⟩ (val σ x)) (fun _ => W (fun z => k (.c z, σ)) ⟨⟩ (val σ y)) ⟨⟩) ⟨⟩ (bool? v)) ⟨⟩ (val σ c) := by
  simp only [cZ, dR, bB, bZ]
  refine dH fun v => dH fun t => ?_
  cases t <;> simp [Br, dR]
@[go_sem ↓] theorem Z0 {e : TypeId} {z : List PL} : W k u (cZ Γ q σ d (.alloc e z)) ↔ z.any (dX (dD d)) = false ∧ W (fun s => k (.c (.one (.ptr (dD d) 0)), s)) ⟨⟩ (new σ (dD d) (.mV z)) := by
  simp only [cZ, dR, dG, gZ, bZ, Bool.not_eq_true]
@[go_sem ↓] theorem aec {e : TypeId} : W k u (cZ Γ q σ d (.box e x)) ↔ W (fun v => ((cells v).any ou || (cells v).any (dX (dD d))) = false ∧ W (fun s => k (.c (.one (.ptr (dD d) 0)), s)) ⟨⟩ (new σ (dD d) (.mV (cells v)))) ⟨⟩ (val σ x) := by
  simp only [cZ, dR, bB, dG, gZ, bZ, Bool.not_eq_true]
@[go_sem ↓] theorem Z4 {z : List PL} {ps : List (Nat × Nat × eu)} : W k u (cZ Γ q σ d (.build z ps)) ↔ W (fun l => W (fun z => k (.c (.agg z), σ)) ⟨⟩ (fill z l)) ⟨⟩ (vals σ ps) := by
  simp only [cZ, dR, bB, bZ]
@[go_sem ↓] theorem aed {e : TypeId} {sz len : Nat} {z : List PL} {ps : List (Nat × Nat × eu)} : W k u (cZ Γ q σ d (.Fq e sz len z ps)) ↔ W (fun l => W (fun z => (q && z.any gy) = false ∧ W (fun p => W (fun s => k (.c (.one (.own (dD d) len)), s)) ⟨⟩ (new p.2 (dD d) (.row sz (rowsOf sz len p.1)))) ⟨⟩ (kG σ z)) ⟨⟩ (fill z l)) ⟨⟩ (vals σ ps) := by
  simp only [cZ, dR, bB, dG, gZ, bZ, Bool.not_eq_true]
@[go_sem ↓] theorem acW {n : Nat} {agg : Bool} : W k u (cZ Γ q σ d (.load n agg x)) ↔ W (fun v => W (fun l => W (fun z => k (.c z, σ)) ⟨⟩ (mk agg l)) ⟨⟩ (jX σ n v)) ⟨⟩ (val σ x) := by
  have h : cZ Γ q σ d (.load n agg x) = (val σ x).bind fun v => (jX σ n v).bind fun l => (mk agg l).map fun z => (.c z, σ) := by
    simp only [cZ]
    congr 1
    funext v
    cases v with
    | agg l => rfl
    | one p =>
      cases p with
      | ptr key off => simp only [jX, nZ]; cases get σ.ob key with | none => rfl | some o => cases o <;> rfl
      | fp cs => simp only [jX]; cases seg n 0 cs <;> rfl
      | rp key z i off =>
        simp only [jX, iy]
        cases get σ.ob key with
        | none => rfl
        | some o =>
          cases o with
          | row sz rows =>
            simp only [Kh, Option.bind_some]
            split
            · rfl
            · cases rows[i]? with
              | none => rfl
              | some r => simp only [Option.bind_some]; cases seg n off r <;> rfl
          | _ => rfl
      | _ => rfl
  rw [h]
  simp only [dR, bB, bZ]
def CW (q : Bool) (σ : St) (ys : List PL) : CV → Option St
  | .one (.ptr key off) => (nZ σ key).bind fun xs => (lay off ys xs).map fun l => jc σ key (.mV l)
  | .one (.rp key z i off) => if q && ys.any gy then none else (kG σ ys).bind fun p => (iy p.2 key).bind fun o => if o.1 ≠ z then none else o.2[i]?.bind fun r => (lay off p.1 r).map fun l => jc p.2 key (.row o.1 (o.2.set i l))
  | _ => none
@[go_sem ↓] theorem Z5 {n : Nat} : W k u (cZ Γ q σ d (.store n x y)) ↔ W (fun v => W (fun z => ((cells z).length = n ∧ (cells z).any ou = false) ∧ W (fun s => k (.c (.one .und), s)) ⟨⟩ (CW q σ (cells z) v)) ⟨⟩ (val σ y)) ⟨⟩ (val σ x) := by
  have h : cZ Γ q σ d (.store n x y) = (val σ x).bind fun v => (val σ y).bind fun z => if (cells z).length = n ∧ (cells z).any ou = false then (CW q σ (cells z) v).map fun s => (.c (.one .und), s) else none := by
    simp only [cZ]
    congr 1
    funext v
    congr 1
    funext z
    split
    · cases v with
      | agg l => rfl
      | one p =>
        cases p with
        | ptr key off =>
          simp only [CW, nZ]
          cases get σ.ob key with
          | none => rfl
          | some o => cases o <;> first | rfl | (simp only [oc, Option.bind_some, Option.map_map]; rfl)
        | rp key zz i off =>
          simp only [CW, iy]
          split
          · rfl
          · cases kG σ (cells z) with
            | none => rfl
            | some p =>
              simp only [Option.bind_some]
              cases get p.2.ob key with
              | none => rfl
              | some o =>
                cases o with
                | row sz rows =>
                  simp only [Kh, Option.bind_some]
                  split
                  · rfl
                  · cases rows[i]? with
                    | none => rfl
                    | some r => simp only [Option.bind_some, Option.map_map]; rfl
                | _ => rfl
        | _ => rfl
    · rfl
  rw [h]
  simp only [dR, bB, bO, bZ]
end
section
variable {k : St → Prop} {u : Tok k}
@[go_sem ↓] theorem Sc {ys : List PL} {key off : Nat} : W k u (CW q σ ys (.one (.ptr key off))) ↔ W (fun xs => W (fun l => k (jc σ key (.mV l))) ⟨⟩ (lay off ys xs)) ⟨⟩ (nZ σ key) := by
  simp only [CW, dR, bB, bZ]
@[go_sem ↓] theorem UL {ys : List PL} {key z i off : Nat} : W k u (CW q σ ys (.one (.rp key z i off))) ↔ (q && ys.any gy) = false ∧ W (fun p => W (fun o => o.1 = z ∧ W (fun r => W (fun l => k (jc p.2 key (.row o.1 (o.2.set i l)))) ⟨⟩ (lay off p.1 r)) ⟨⟩ (o.2[i]?)) ⟨⟩ (iy p.2 key)) ⟨⟩ (kG σ ys) := by
  simp only [CW, dR, dG, bB, bZ, ne_eq, Decidable.not_not, Bool.not_eq_true]
end
end
end Go.Proofs.Ytdkkgecdhapfhaa.Ev
namespace Go.Proofs.Ytdkkgecdhapfhaa.Ev
open Go
section
variable {Γ : Env} {F d : Nat} {q : Bool} {σ : St} {k : PV × St → Prop} {u : Tok k} {x y z : eu}
def MX : CV → Option CV
  | .one (.ptr k o) => some (.one (.ptr k o))
  | .one (.fp cs) => some (.one (.fp cs))
  | .one (.rp k z i o) => some (.one (.rp k z i o))
  | _ => none
@[go_sem] theorem WB {k o : Nat} : MX (.one (.ptr k o)) = some (.one (.ptr k o)) := rfl
@[go_sem] theorem Z6 {cs : List FV} : MX (.one (.fp cs)) = some (.one (.fp cs)) := rfl
@[go_sem] theorem Z7 {k z i o : Nat} : MX (.one (.rp k z i o)) = some (.one (.rp k z i o)) := rfl
@[go_sem ↓] theorem acX : W k u (cZ Γ q σ d (.kX x)) ↔ W (fun v => W (fun w => k (.c w, σ)) ⟨⟩ (MX v)) ⟨⟩ (val σ x) := by
  simp only [cZ, dR, bB]
  refine dH fun v => ?_
  cases v with
  | agg l => exact cu
  | one p => cases p <;> first | exact cu | exact kZ Iff.rfl
def WC : CV → Option Bool
  | .one .jo => some true
  | .one (.ptr _ _) => some false
  | .one (.fp _) => some false
  | .one (.rp _ _ _ _) => some false
  | _ => none
@[go_sem] theorem Z8 : WC (.one .jo) = some true := rfl
@[go_sem] theorem Z9 {k o : Nat} : WC (.one (.ptr k o)) = some false := rfl
@[go_sem] theorem acY {cs : List FV} : WC (.one (.fp cs)) = some false := rfl
@[go_sem] theorem acZ {k z i o : Nat} : WC (.one (.rp k z i o)) = some false := rfl
@[go_sem ↓] theorem ac0 {neg : Bool} : W k u (cZ Γ q σ d (.mW neg x)) ↔ W (fun v => W (fun b => k (.c (.one (.f (.bool (if neg then !b else b)))), σ)) ⟨⟩ (WC v)) ⟨⟩ (val σ x) := by
  simp only [cZ, dR, bB]
  refine dH fun v => ?_
  cases v with
  | agg l => exact cu
  | one p => cases p <;> first | exact cu | (cases neg <;> exact kZ Iff.rfl)
@[go_sem ↓] theorem af4 {off : Nat} : W k u (cZ Γ q σ d (.fa off x)) ↔ W (fun v => W (fun w => k (.c w, σ)) ⟨⟩ (ZK off v)) ⟨⟩ (val σ x) := by
  simp only [cZ, dR, bB]
  refine dH fun v => ?_
  cases v with
  | agg l => exact cu
  | one p => cases p <;> first | exact cu | exact kZ Iff.rfl
@[go_sem ↓] theorem af5 {o : Ar} : W k u (cZ Γ q σ d (.ar o x y)) ↔ W (fun a => W (fun b => W (fun a => W (fun b => a.1 = b.1 ∧ W (fun n => k (.c (.one (.f (.int a.1 n))), σ)) ⟨⟩ (I8 o a.1 a.2 b.2)) ⟨⟩ (int? b)) ⟨⟩ (int? a)) ⟨⟩ (val σ y)) ⟨⟩ (val σ x) := by
  simp only [cZ, dR, bB, bO, one, bJ]
@[go_sem ↓] theorem aee {o : Ur} : W k u (cZ Γ q σ d (.cmp o x y)) ↔ W (fun a => W (fun b => W (fun a => W (fun b => a.1 = b.1 ∧ k (.c (.one (.f (.bool (wB o a.2 b.2)))), σ)) ⟨⟩ (int? b)) ⟨⟩ (int? a)) ⟨⟩ (val σ y)) ⟨⟩ (val σ x) := by
  simp only [cZ, dR, bB, bO, one, bJ]
@[go_sem] theorem aac {k : IntKind} {a b : Int} : I8 .add k a b = some (k.wrap (a + b)) := rfl
@[go_sem] theorem aad {k : IntKind} {a b : Int} : I8 .sub k a b = some (k.wrap (a - b)) := rfl
@[go_sem] theorem aae {k : IntKind} {a b : Int} : I8 .mul k a b = some (k.wrap (a * b)) := rfl
section
variable {k : Int → Prop} {u : Tok k} {kk : IntKind} {a b : Int}
@[go_sem ↓] theorem aef : W k u (I8 .quo kk a b) ↔ ¬ b = 0 ∧ k (kk.wrap (a.tdiv b)) := by simp only [I8, dR, dG, bJ]
@[go_sem ↓] theorem aeg : W k u (I8 .rem kk a b) ↔ ¬ b = 0 ∧ k (a.tmod b) := by simp only [I8, dR, dG, bJ]
end
section
variable {a b : Int}
@[go_sem] theorem aaf : wB .eq a b = decide (a = b) := rfl
@[go_sem] theorem aag : wB .ne a b = !decide (a = b) := rfl
@[go_sem] theorem aah : wB .lt a b = decide (a < b) := rfl
@[go_sem] theorem aai : wB .le a b = decide (a ≤ b) := rfl
@[go_sem] theorem aaj : wB .gt a b = decide (b < a) := rfl
@[go_sem] theorem aak : wB .ge a b = decide (b ≤ a) := rfl
end
@[go_sem ↓] theorem aeh {sh : KS} {neg : Bool} : W k u (cZ Γ q σ d (.ug sh neg x y)) ↔ W (fun a => W (fun b => W (fun a => W (fun b => (a.ks = sh ∧ b.ks = sh) ∧ k (.c (.one (.f (.bool (if neg then !decide (a = b) else decide (a = b))))), σ)) ⟨⟩ (keyOf b)) ⟨⟩ (keyOf a)) ⟨⟩ (val σ y)) ⟨⟩ (val σ x) := by
  simp only [cZ, dR, bB, bO, one, bJ]
@[go_sem ↓] theorem aei : W k u (cZ Γ q σ d (.cat x y)) ↔ W (fun a => W (fun b => W (fun a => W (fun b => a.size + b.size ≤ 9223372036854775807 ∧ k (.c (.one (.f (.str (a ++ b)))), σ)) ⟨⟩ (qo b)) ⟨⟩ (qo a)) ⟨⟩ (val σ y)) ⟨⟩ (val σ x) := by
  simp only [cZ, dR, bB]
  refine dH fun v => dH fun w => ?_
  have no : V k none ↔ False := jW
  have nb : ∀ {g : ByteArray → Prop}, V g none ↔ False := jW
  have nn : ∀ {x : Option ByteArray}, V (fun _ : ByteArray => False) x ↔ False := by intro x; cases x <;> simp [V]
  cases v with
  | agg l => simp only [qo, no, nb]
  | one p =>
    cases p with
    | f a =>
      cases a with
      | str s =>
        cases w with
        | agg l => simp only [qo, no, nb, bJ]
        | one p =>
          cases p with
          | f b =>
            cases b with
            | str t => simp only [qo, bJ, bO, one]
            | _ => simp only [qo, no, nb, bJ]
          | _ => simp only [qo, no, nb, bJ]
      | _ => simp only [qo, no, nb]
    | _ => simp only [qo, no, nb]
@[go_sem ↓] theorem af6 : W k u (cZ Γ q σ d (.no x)) ↔ W (fun v => W (fun b => k (.c (.one (.f (.bool (!b)))), σ)) ⟨⟩ (bool? v)) ⟨⟩ (val σ x) := by
  simp only [cZ, dR, bB, one, bJ]
@[go_sem ↓] theorem af7 {kk : IntKind} : W k u (cZ Γ q σ d (.ci kk x)) ↔ W (fun v => W (fun a => k (.c (.one (.f (.int kk (kk.wrap a.2)))), σ)) ⟨⟩ (int? v)) ⟨⟩ (val σ x) := by
  simp only [cZ, dR, bB, one, bJ]
@[go_sem ↓] theorem aej : W k u (cZ Γ q σ d (.mX x)) ↔ W (fun v => W (fun s => k (.c (.one (.f (.str s))), σ)) ⟨⟩ (qo v)) ⟨⟩ (val σ x) := by
  simp only [cZ, dR, bB]
  refine dH fun v => ?_
  cases v with
  | agg l => exact cu
  | one p => cases p with
    | f a => cases a <;> first | exact cu | exact kZ Iff.rfl
    | _ => exact cu
@[go_sem ↓] theorem aal {sh : KS} : W k u (cZ Γ q σ d (.rE sh)) ↔ W (fun s => k (.c (.one (.mp (dD d))), s)) ⟨⟩ (new σ (dD d) (.map sh [])) := by
  simp only [cZ, gZ, dR, bZ]
@[go_sem ↓] theorem af8 : W k u (cZ Γ q σ d (.mn x y)) ↔ W (fun a => W (fun b => W (fun a => W (fun b => a.1 = b.1 ∧ k (.c (.one (.f (.int a.1 (if b.2 < a.2 then b.2 else a.2)))), σ)) ⟨⟩ (int? b)) ⟨⟩ (int? a)) ⟨⟩ (val σ y)) ⟨⟩ (val σ x) := by
  simp only [cZ, dR, bB, bO, one, bJ]
@[go_sem ↓] theorem af9 : W k u (cZ Γ q σ d (.mx x y)) ↔ W (fun a => W (fun b => W (fun a => W (fun b => a.1 = b.1 ∧ k (.c (.one (.f (.int a.1 (if a.2 < b.2 then b.2 else a.2)))), σ)) ⟨⟩ (int? b)) ⟨⟩ (int? a)) ⟨⟩ (val σ y)) ⟨⟩ (val σ x) := by
  simp only [cZ, dR, bB, bO, one, bJ]
@[go_sem ↓] theorem aek {o : BinOp} : W k u (cZ Γ q σ d (.bit o x y)) ↔ W (fun a => W (fun b => W (fun a => W (fun b => a.1 = b.1 ∧ k (.c (.one (.f (.int a.1 (Go.bits o a.1 a.2 b.2)))), σ)) ⟨⟩ (int? b)) ⟨⟩ (int? a)) ⟨⟩ (val σ y)) ⟨⟩ (val σ x) := by
  simp only [cZ, dR, bB, bO, one, bJ]
@[go_sem ↓] theorem ael {l : Bool} : W k u (cZ Γ q σ d (.QZ l x y)) ↔ W (fun a => W (fun b => W (fun a => W (fun b => 0 ≤ b.2 ∧ k (.c (.one (.f (.int a.1 (if l then a.1.wrap (a.2 * 2 ^ (min b.2.toNat a.1.bits)) else a.2.fdiv (2 ^ (min b.2.toNat a.1.bits)))))), σ)) ⟨⟩ (int? b)) ⟨⟩ (int? a)) ⟨⟩ (val σ y)) ⟨⟩ (val σ x) := by
  simp only [cZ, dR, bB, bO, one, bJ]
@[go_sem ↓] theorem ac1 {lo hi : Option eu} : W k u (cZ Γ q σ d (.G6 x lo hi)) ↔ W (fun v => W (fun s => W (fun p => k (.c (.one (.f (.str (s.extract p.1 p.2)))), σ)) ⟨⟩ (rng s.size σ lo hi)) ⟨⟩ (qo v)) ⟨⟩ (val σ x) := by
  simp only [cZ, dR, bB]
  refine dH fun v => ?_
  cases v with
  | agg l => exact cu
  | one p => cases p with
    | f a =>
      cases a with
      | str s => simp only [qo, bJ, bB, one]
      | _ => exact cu
    | _ => exact cu
section
variable {k : Nat × Nat → Prop} {u : Tok k} {len : Nat} {lo hi : Option eu}
@[go_sem ↓] theorem aem : W k u (rng len σ lo hi) ↔ W (fun h => W (fun l => k (l, h)) ⟨⟩ (bnd σ h lo 0)) ⟨⟩ (bnd σ len hi len) := by
  simp only [rng, dR, bB, bZ]
end
section
variable {k : Nat → Prop} {u : Tok k} {len dd : Nat}
@[go_sem ↓] theorem Sd : W k u (bnd σ len none dd) ↔ k dd := gI
@[go_sem ↓] theorem Sg : W k u (bnd σ len (some x) dd) ↔ W (fun v => W (fun p => (0 ≤ p.2 ∧ p.2 ≤ (len : Int)) ∧ k p.2.toNat) ⟨⟩ (int? v)) ⟨⟩ (val σ x) := by
  simp only [bnd, dR, bB, bO, bJ]
end
def CX (q : Bool) (σ : St) (sz : Nat) (lo hi : Option eu) : CV → Option (PV × St)
  | .one (.f (.sl rows)) => if rows.all (fun r => r.length == sz) = false then none else (rng rows.length σ lo hi).bind fun p => one (.sl ((rows.drop p.1).take (p.2 - p.1))) σ
  | .one .fH => (rng 0 σ lo hi).bind fun p => one (.sl []) σ
  | .one (.own key _) => (iy σ key).bind fun o => if o.1 ≠ sz then none else (rng o.2.length σ lo hi).bind fun p => if q then none else (yD σ key).bind fun s => one (.sl ((o.2.drop p.1).take (p.2 - p.1))) s
  | _ => none
@[go_sem ↓] theorem aen {sz : Nat} {lo hi : Option eu} : W k u (cZ Γ q σ d (.cut sz x lo hi)) ↔ W (fun v => W k ⟨⟩ (CX q σ sz lo hi v)) ⟨⟩ (val σ x) := by
  simp only [cZ, dR, bB]
  refine dH fun v => ?_
  cases v with
  | agg l => exact Iff.rfl
  | one p => cases p with
    | f a => cases a <;> exact Iff.rfl
    | own key n => simp only [CX, iy]; cases get σ.ob key with | none => exact Iff.rfl | some o => cases o <;> exact Iff.rfl
    | _ => exact Iff.rfl
@[go_sem ↓] theorem WE {sz : Nat} {lo hi : Option eu} {rows : List (List FV)} : W k u (CX q σ sz lo hi (.one (.f (.sl rows)))) ↔ rows.all (fun r => r.length == sz) = true ∧ W (fun p => k (.c (.one (.f (.sl ((rows.drop p.1).take (p.2 - p.1))))), σ)) ⟨⟩ (rng rows.length σ lo hi) := by
  simp only [CX, dR, bB, dG, one, bJ, Bool.not_eq_false]
@[go_sem ↓] theorem WG {sz : Nat} {lo hi : Option eu} : W k u (CX q σ sz lo hi (.one .fH)) ↔ W (fun p => k (.c (.one (.f (.sl []))), σ)) ⟨⟩ (rng 0 σ lo hi) := by
  simp only [CX, dR, bB, one, bJ]
@[go_sem ↓] theorem WH {sz key n : Nat} {lo hi : Option eu} : W k u (CX q σ sz lo hi (.one (.own key n))) ↔ W (fun o => o.1 = sz ∧ W (fun p => q = false ∧ W (fun s => k (.c (.one (.f (.sl ((o.2.drop p.1).take (p.2 - p.1))))), s)) ⟨⟩ (yD σ key)) ⟨⟩ (rng o.2.length σ lo hi)) ⟨⟩ (iy σ key) := by
  simp only [CX, dR, bB, dG, one, bJ, ne_eq, Decidable.not_not, Bool.not_eq_true]
@[go_sem ↓] theorem aeo {off n : Nat} {agg : Bool} : W k u (cZ Γ q σ d (.Mg off n agg x)) ↔ W (fun v => W (fun l => W (fun l => W (fun z => k (.c z, σ)) ⟨⟩ (mk agg l)) ⟨⟩ (seg n off l)) ⟨⟩ (Ke v)) ⟨⟩ (val σ x) := by
  simp only [cZ, dR, bB]
  refine dH fun v => ?_
  cases v with
  | agg l => simp only [Ke, bJ, bB, bZ]
  | one p => exact cu
def Si (σ : St) (sz : Nat) (i : Int) : CV → Option PL
  | .one (.f (.sl rows)) => rows[i.toNat]?.bind fun r => if r.length = sz then some (.fp r) else none
  | .one (.own key n) => (iy σ key).bind fun o => if o.1 = sz ∧ i < n ∧ n = o.2.length then some (.rp key sz i.toNat 0) else none
  | _ => none
@[go_sem ↓] theorem aga {sz : Nat} : W k u (cZ Γ q σ d (.ia sz x y)) ↔ W (fun v => W (fun j => W (fun p => 0 ≤ p.2 ∧ W (fun l => k (.c (.one l), σ)) ⟨⟩ (Si σ sz p.2 v)) ⟨⟩ (int? j)) ⟨⟩ (val σ y)) ⟨⟩ (val σ x) := by
  simp only [cZ, dR, bB, bO]
  refine dH fun v => dH fun j => dH fun p => and_congr Iff.rfl ?_
  cases v with
  | agg l => exact cu
  | one a =>
    cases a with
    | f a =>
      cases a with
      | sl rows => simp only [Si, bB, bO, bJ]
      | _ => exact cu
    | own key n =>
      simp only [Si, iy]
      cases get σ.ob key with
      | none => exact cu
      | some o =>
        cases o with
        | row sz' rows => simp only [Kh, Option.bind_some, bO, bJ]
        | _ => exact cu
    | _ => exact cu
section
variable {k : PL → Prop} {u : Tok k} {sz : Nat} {i : Int}
@[go_sem ↓] theorem aam {rows : List (List FV)} : W k u (Si σ sz i (.one (.f (.sl rows)))) ↔ W (fun r => r.length = sz ∧ k (.fp r)) ⟨⟩ (rows[i.toNat]?) := by
  simp only [Si, dR, bB, bO, bJ]
@[go_sem ↓] theorem aan {key n : Nat} : W k u (Si σ sz i (.one (.own key n))) ↔ W (fun o => (o.1 = sz ∧ i < n ∧ n = o.2.length) ∧ k (.rp key sz i.toNat 0)) ⟨⟩ (iy σ key) := by
  simp only [Si, dR, bB, bO, bJ]
end
@[go_sem ↓] theorem aep {sz len : Nat} {agg : Bool} : W k u (cZ Γ q σ d (.idx sz len agg x y)) ↔ W (fun v => W (fun j => W (fun p => (0 ≤ p.2 ∧ p.2 < (len : Int)) ∧ W (fun l => W (fun l => W (fun z => k (.c z, σ)) ⟨⟩ (mk agg l)) ⟨⟩ (seg sz (p.2.toNat * sz) l)) ⟨⟩ (Ke v)) ⟨⟩ (int? j)) ⟨⟩ (val σ y)) ⟨⟩ (val σ x) := by
  simp only [cZ, dR, bB, bO]
  refine dH fun v => dH fun j => dH fun p => and_congr Iff.rfl ?_
  cases v with
  | agg l => simp only [Ke, bJ, bB, bZ]
  | one p => exact cu
@[go_sem ↓] theorem aer : W k u (cZ Γ q σ d (.chr x y)) ↔ W (fun v => W (fun j => W (fun p => W (fun s => 0 ≤ p.2 ∧ W (fun b => k (.c (.one (.f (.int .u8 b.toNat))), σ)) ⟨⟩ (s.data[p.2.toNat]?)) ⟨⟩ (qo v)) ⟨⟩ (int? j)) ⟨⟩ (val σ y)) ⟨⟩ (val σ x) := by
  simp only [cZ, dR, bB]
  refine dH fun v => dH fun j => dH fun p => ?_
  cases v with
  | agg l => exact cu
  | one p => cases p with
    | f a =>
      cases a with
      | str s => simp only [qo, bJ, bO, bB, one]
      | _ => exact cu
    | _ => exact cu
@[go_sem ↓] theorem aes {i : Nat} : W k u (cZ Γ q σ d (.ext x i)) ↔ W (fun v => W (fun l => W (fun w => k (.c w, σ)) ⟨⟩ (l[i]?)) ⟨⟩ (RV v)) ⟨⟩ (rM σ x) := by
  simp only [cZ, dR]
  cases rM σ x with
  | none => exact cu
  | some v =>
    rw [bJ]
    cases v with
    | c y => exact cu
    | uf l => simp only [RV, bJ, bZ]
@[go_sem ↓] theorem ac2 : W k u (cZ Γ q σ d (.BX x)) ↔ W (fun v => W (fun s => k (.c (.one (.f (.int .i64 s.size))), σ)) ⟨⟩ (qo v)) ⟨⟩ (val σ x) := by
  simp only [cZ, dR, bB]
  refine dH fun v => ?_
  cases v with
  | agg l => exact cu
  | one p => cases p with
    | f a => cases a <;> first | exact cu | exact kZ Iff.rfl
    | _ => exact cu
def MZ (σ : St) : CV → Option Nat
  | .one .fA => some 0
  | .one (.mp key) => (nN σ key).map fun o => o.2.length
  | _ => none
@[go_sem] theorem WI : MZ σ (.one .fA) = some 0 := rfl
@[go_sem] theorem aao {key : Nat} : MZ σ (.one (.mp key)) = (nN σ key).map fun o => o.2.length := rfl
def M0 : CV → Option Nat
  | .one (.f (.sl rows)) => some rows.length
  | .one .fH => some 0
  | .one (.own _ n) => some n
  | _ => none
@[go_sem] theorem ac3 {rows : List (List FV)} : M0 (.one (.f (.sl rows))) = some rows.length := rfl
@[go_sem] theorem ac4 : M0 (.one .fH) = some 0 := rfl
@[go_sem] theorem ac5 {k n : Nat} : M0 (.one (.own k n)) = some n := rfl
@[go_sem ↓] theorem ac6 : W k u (cZ Γ q σ d (.jG x)) ↔ W (fun v => W (fun n : Nat => k (.c (.one (.f (.int .i64 (n : Int)))), σ)) ⟨⟩ (M0 v)) ⟨⟩ (val σ x) := by
  simp only [cZ, dR, bB]
  refine dH fun v => ?_
  cases v with
  | agg l => exact cu
  | one p => cases p with
    | f a => cases a <;> first | exact cu | exact kZ Iff.rfl
    | _ => first | exact cu | exact kZ Iff.rfl
@[go_sem ↓] theorem ac7 {neg : Bool} : W k u (cZ Γ q σ d (.Ac neg x)) ↔ W (fun v => W (fun b => k (.c (.one (.f (.bool (if neg then !b else b)))), σ)) ⟨⟩ (RX v)) ⟨⟩ (val σ x) := by
  simp only [cZ, dR, bB]
  refine dH fun v => ?_
  cases v with
  | agg l => exact cu
  | one p => cases p with
    | f a =>
      cases a with
      | sl rows => cases rows <;> first | exact cu | (cases neg <;> exact kZ Iff.rfl)
      | _ => exact cu
    | fH => cases neg <;> exact kZ Iff.rfl
    | _ => exact cu
end
end Go.Proofs.Ytdkkgecdhapfhaa.Ev
namespace Go.Proofs.Ytdkkgecdhapfhaa.Ev
open Go
section
variable {Γ : Env} {F d : Nat} {q : Bool} {σ : St} {k : PV × St → Prop} {u : Tok k} {x y z : eu}
def Ki (σ : St) (sh : KS) : CV → Option (Option (Nat × List (KV × FC)))
  | .one .fA => some none
  | .one (.mp key) => (nN σ key).bind fun o => if o.1 = sh then some (some (key, o.2)) else none
  | _ => none
@[go_sem] theorem WJ {sh : KS} : Ki σ sh (.one .fA) = some none := rfl
section
variable {k : Option (Nat × List (KV × FC)) → Prop} {u : Tok k}
@[go_sem ↓] theorem ac8 {sh : KS} {key : Nat} : W k u (Ki σ sh (.one (.mp key))) ↔ W (fun o => o.1 = sh ∧ k (some (key, o.2))) ⟨⟩ (nN σ key) := by
  simp only [Ki, dR, bB, bO, bJ]
end
def rU (m : Option (Nat × List (KV × FC))) (a : KV) : Option FC := m.bind fun m => BZ m.2 a
def cnt (m : Option (Nat × List (KV × FC))) : Nat := match m with
  | none => 0
  | some m => m.2.length
@[go_sem] theorem WK {a : KV} : rU none a = none := rfl
@[go_sem] theorem WL {key : Nat} {l : List (KV × FC)} {a : KV} : rU (some (key, l)) a = BZ l a := rfl
@[go_sem] theorem WM : cnt none = 0 := rfl
@[go_sem] theorem WO {key : Nat} {l : List (KV × FC)} : cnt (some (key, l)) = l.length := rfl
def lkv (z : FC) (ok : Bool) (r : Option FC) : PV := if ok then .uf [wz (r.getD z), .one (.f (.bool r.isSome))] else .c (wz (r.getD z))
@[go_sem] theorem ac9 {z : FC} {r : Option FC} : lkv z true r = .uf [wz (r.getD z), .one (.f (.bool r.isSome))] := rfl
@[go_sem] theorem ada {z : FC} {r : Option FC} : lkv z false r = .c (wz (r.getD z)) := rfl
@[go_sem] theorem WQ {x : FV} : wz (.one x) = .one (.f x) := rfl
@[go_sem] theorem WR {xs : List FV} : wz (.agg xs) = .agg (xs.map .f) := rfl
@[go_sem ↓] theorem adb {sh : KS} {z : FC} {ok : Bool} : W k u (cZ Γ q σ d (.look sh z ok x y)) ↔ W (fun v => W (fun w => W (fun a => a.ks = sh ∧ W (fun m => k (lkv z ok (rU m a), σ)) ⟨⟩ (Ki σ sh v)) ⟨⟩ (keyOf w)) ⟨⟩ (val σ y)) ⟨⟩ (val σ x) := by
  simp only [cZ, dR, bB, dG, bZ, ne_eq, Decidable.not_not]
  refine dH fun v => dH fun w => dH fun a => and_congr Iff.rfl ?_
  cases v with
  | agg l => exact cu
  | one p =>
    cases p with
    | fA => exact kZ Iff.rfl
    | mp key =>
      simp only [Ki, nN]
      cases get σ.ob key with
      | none => exact cu
      | some o =>
        cases o with
        | map sh' ents =>
          simp only [om, Option.bind_some]
          by_cases hs : sh' = sh
          · rw [if_pos hs, if_pos hs]; exact kZ (by cases ok <;> exact Iff.rfl)
          · rw [if_neg hs, if_neg hs]; exact cu
        | _ => exact cu
    | _ => exact cu
@[go_sem ↓] theorem ade : W k u (cZ Γ q σ d (.G7 x)) ↔ W (fun v => W (fun n : Nat => k (.c (.one (.f (.int .i64 (n : Int)))), σ)) ⟨⟩ (MZ σ v)) ⟨⟩ (val σ x) := by
  simp only [cZ, dR, bB]
  refine dH fun v => ?_
  cases v with
  | agg l => exact cu
  | one p =>
    cases p with
    | fA => exact kZ Iff.rfl
    | mp key =>
      simp only [MZ, nN]
      cases get σ.ob key with
      | none => exact cu
      | some o => cases o <;> first | exact cu | exact kZ Iff.rfl
    | _ => exact cu
def upv (σ : St) (sh : KS) (a : KV) (p : FC × St) : CV → Option St
  | .one (.mp key) => (nN p.2 key).bind fun o => if o.1 = sh then some (jc p.2 key (.map sh (Eh o.2 a p.1))) else none
  | _ => none
@[go_sem ↓] theorem adf {sh : KS} : W k u (cZ Γ q σ d (.Ab sh x y z)) ↔ W (fun v => W (fun w => W (fun a => a.ks = sh ∧ W (fun w => (q && (cells w).any gy) = false ∧ W (fun p => W (fun s => k (.c (.one .und), s)) ⟨⟩ (upv σ sh a p v)) ⟨⟩ (Uu σ w)) ⟨⟩ (val σ z)) ⟨⟩ (keyOf w)) ⟨⟩ (val σ y)) ⟨⟩ (val σ x) := by
  simp only [cZ, dR, bB, dG, ne_eq, Decidable.not_not, Bool.not_eq_true]
  refine dH fun v => dH fun w => dH fun a => and_congr Iff.rfl (dH fun w => and_congr Iff.rfl (dH fun p => ?_))
  cases v with
  | agg l => exact cu
  | one b =>
    cases b with
    | mp key =>
      simp only [upv, nN]
      cases get p.2.ob key with
      | none => exact cu
      | some o =>
        cases o with
        | map sh' ents =>
          simp only [om, Option.bind_some]
          split
          · exact kZ Iff.rfl
          · exact cu
        | _ => exact cu
    | _ => exact cu
section
variable {k : St → Prop} {u : Tok k} {sh : KS} {a : KV} {key : Nat}
@[go_sem ↓] theorem aeu {p : FC × St} : W k u (upv σ sh a p (.one (.mp key))) ↔ W (fun o => o.1 = sh ∧ k (jc p.2 key (.map sh (Eh o.2 a p.1)))) ⟨⟩ (nN p.2 key) := by
  simp only [upv, dR, bB, bO, bJ]
end
def WS (σ : St) (sh : KS) (a : KV) : CV → Option St
  | .one .fA => some σ
  | .one (.mp key) => (nN σ key).bind fun o => if o.1 = sh then some (jc σ key (.map sh (Ei o.2 a))) else none
  | _ => none
@[go_sem] theorem aap {sh : KS} {a : KV} : WS σ sh a (.one .fA) = some σ := rfl
section
variable {k : St → Prop} {u : Tok k} {sh : KS} {a : KV} {key : Nat}
@[go_sem ↓] theorem aev : W k u (WS σ sh a (.one (.mp key))) ↔ W (fun o => o.1 = sh ∧ k (jc σ key (.map sh (Ei o.2 a)))) ⟨⟩ (nN σ key) := by
  simp only [WS, dR, bB, bO, bJ]
end
@[go_sem ↓] theorem aew {sh : KS} : W k u (cZ Γ q σ d (.del sh x y)) ↔ W (fun v => W (fun w => W (fun a => a.ks = sh ∧ W (fun s => k (.uf [], s)) ⟨⟩ (WS σ sh a v)) ⟨⟩ (keyOf w)) ⟨⟩ (val σ y)) ⟨⟩ (val σ x) := by
  simp only [cZ, dR, bB, dG, ne_eq, Decidable.not_not]
  refine dH fun v => dH fun w => dH fun a => and_congr Iff.rfl ?_
  cases v with
  | agg l => exact cu
  | one b =>
    cases b with
    | fA => exact kZ Iff.rfl
    | mp key =>
      simp only [WS, nN]
      cases get σ.ob key with
      | none => exact cu
      | some o =>
        cases o with
        | map sh' ents =>
          simp only [om, Option.bind_some]
          split
          · exact kZ Iff.rfl
          · exact cu
        | _ => exact cu
    | _ => exact cu
def UM (σ : St) : CV → Option (List (List FV))
  | .one .fH => some []
  | .one (.f (.sl rows)) => some rows
  | .one (.own key _) => (iy σ key).map (·.2)
  | _ => none
@[go_sem] theorem aex : UM σ (.one .fH) = some [] := rfl
@[go_sem] theorem aey {rows : List (List FV)} : UM σ (.one (.f (.sl rows))) = some rows := rfl
@[go_sem] theorem aez {key n : Nat} : UM σ (.one (.own key n)) = (iy σ key).map (·.2) := rfl
def UN (q : Bool) (σ : St) (d sz bytes : Nat) (w : CV) (CY : List (List FV)) : CV → Option (PV × St)
  | .one .fH => if q = false ∧ CY.length * bytes ≤ 140737488355328 ∧ CY.all (fun r => r.length == sz) then (new σ (dD d) (.row sz CY)).map fun s => (.c (.one (.own (dD d) CY.length)), s) else none
  | .one (.own key n) => (iy σ key).bind fun o => if q = false ∧ (o.2.length + CY.length) * bytes ≤ 140737488355328 ∧ o.1 = sz ∧ n = o.2.length ∧ uS key w = false ∧ key % 2 = 0 ∧ CY.all (fun r => r.length == sz) then
      some (.c (.one (.own key (o.2.length + CY.length))), jc (sub σ key .any) key (.row sz (o.2 ++ CY))) else none
  | _ => none
@[go_sem ↓] theorem aeA {e : TypeId} {sz bytes : Nat} : W k u (cZ Γ q σ d (.app e sz bytes x y)) ↔ W (fun v => W (fun w => W (fun l => W k ⟨⟩ (UN q σ d sz bytes w l v)) ⟨⟩ (UM σ w)) ⟨⟩ (val σ y)) ⟨⟩ (val σ x) := by
  simp only [cZ, dR, bB]
  refine dH fun v => dH fun w => ?_
  have e : pF σ w = UM σ w := by
    cases w with
    | agg l => rfl
    | one p => cases p with
      | f a => cases a <;> rfl
      | own key n => simp only [pF, UM, iy]; cases get σ.ob key with | none => rfl | some o => cases o <;> rfl
      | _ => rfl
  rw [e]
  refine dH fun l => ?_
  cases v with
  | agg l => exact cu
  | one p =>
    cases p with
    | fH => exact Iff.rfl
    | own key n =>
      simp only [UN, iy]
      cases get σ.ob key with
      | none => exact cu
      | some o => cases o <;> exact Iff.rfl
    | _ => exact cu
@[go_sem ↓] theorem aaq {sz bytes : Nat} {w : CV} {l : List (List FV)} : W k u (UN q σ d sz bytes w l (.one .fH)) ↔ (q = false ∧ l.length * bytes ≤ 140737488355328 ∧ l.all (fun r => r.length == sz) = true) ∧ W (fun s => k (.c (.one (.own (dD d) l.length)), s)) ⟨⟩ (new σ (dD d) (.row sz l)) := by
  simp only [UN, dR, bO, bZ]
@[go_sem ↓] theorem aar {sz bytes key n : Nat} {w : CV} {l : List (List FV)} : W k u (UN q σ d sz bytes w l (.one (.own key n))) ↔ W (fun o => (q = false ∧ (o.2.length + l.length) * bytes ≤ 140737488355328 ∧ o.1 = sz ∧ n = o.2.length ∧ uS key w = false ∧ key % 2 = 0 ∧ l.all (fun r => r.length == sz) = true) ∧ k (.c (.one (.own key (o.2.length + l.length))), jc (sub σ key .any) key (.row sz (o.2 ++ l)))) ⟨⟩ (iy σ key) := by
  simp only [UN, dR, bB, bO, bJ]
def cov (σ : St) (sz : Nat) (i : Int) : CV → Option (PV × St)
  | .one (.own key n) => (iy σ key).bind fun o => if o.1 = sz ∧ key % 2 = 0 ∧ 0 ≤ i ∧ i ≤ o.2.length then some (.c (.one (.own key i.toNat)), jc (sub σ key .any) key (.row sz (o.2.take i.toNat))) else none
  | _ => none
@[go_sem ↓] theorem adg {sz : Nat} : W k u (cZ Γ q σ d (.Ed sz x y)) ↔ q = false ∧ W (fun v => W (fun j => W (fun p => W k ⟨⟩ (cov σ sz p.2 v)) ⟨⟩ (int? j)) ⟨⟩ (val σ y)) ⟨⟩ (val σ x) := by
  simp only [cZ, dR, bB, dG, Bool.not_eq_true]
  refine and_congr Iff.rfl (dH fun v => dH fun j => dH fun p => ?_)
  cases v with
  | agg l => exact cu
  | one b =>
    cases b with
    | own key n =>
      simp only [cov, iy]
      cases get σ.ob key with
      | none => exact cu
      | some o => cases o <;> exact Iff.rfl
    | _ => exact cu
@[go_sem ↓] theorem aeB {sz key n : Nat} {i : Int} : W k u (cov σ sz i (.one (.own key n))) ↔ W (fun o => (o.1 = sz ∧ key % 2 = 0 ∧ 0 ≤ i ∧ i ≤ (o.2.length : Int)) ∧ k (.c (.one (.own key i.toNat)), jc (sub σ key .any) key (.row sz (o.2.take i.toNat)))) ⟨⟩ (iy σ key) := by
  simp only [cov, dR, bB, bO, bJ]
def cvv (σ : St) (sz : Nat) (i : Int) : CV → Option PL
  | .one (.own key n) => (iy σ key).bind fun o => if o.1 = sz ∧ 0 ≤ i ∧ i ≤ o.2.length then some (.vw key sz o.2.length i.toNat) else none
  | _ => none
@[go_sem ↓] theorem adh {sz : Nat} : W k u (cZ Γ q σ d (.cutV sz x y)) ↔ W (fun v => W (fun j => W (fun p => W (fun l => k (.c (.one l), σ)) ⟨⟩ (cvv σ sz p.2 v)) ⟨⟩ (int? j)) ⟨⟩ (val σ y)) ⟨⟩ (val σ x) := by
  simp only [cZ, dR, bB]
  refine dH fun v => dH fun j => dH fun p => ?_
  cases v with
  | agg l => exact cu
  | one b =>
    cases b with
    | own key n =>
      simp only [cvv, iy]
      cases get σ.ob key with
      | none => exact cu
      | some o =>
        cases o with
        | row sz' rows => simp only [Kh, Option.bind_some, bO, bJ]
        | _ => exact cu
    | _ => exact cu
section
variable {k : PL → Prop} {u : Tok k}
@[go_sem ↓] theorem aeC {sz key n : Nat} {i : Int} : W k u (cvv σ sz i (.one (.own key n))) ↔ W (fun o => (o.1 = sz ∧ 0 ≤ i ∧ i ≤ (o.2.length : Int)) ∧ k (.vw key sz o.2.length i.toNat)) ⟨⟩ (iy σ key) := by
  simp only [cvv, dR, bB, bO, bJ]
end
def vw? : CV → Option (Nat × Nat × Nat × Nat)
  | .one (.vw key z n lo) => some (key, z, n, lo)
  | _ => none
@[go_sem] theorem adi {a b c e : Nat} : vw? (.one (.vw a b c e)) = some (a, b, c, e) := rfl
@[go_sem ↓] theorem aeD {sz : Nat} {zs : List FV} : W k u (cZ Γ q σ d (.PE sz zs x)) ↔ W (fun v => W (fun p => W (fun o => (o.1 = sz ∧ p.2.1 = sz ∧ zs.length = sz ∧ p.2.2.1 = o.2.length ∧ p.2.2.2 ≤ p.2.2.1) ∧ k (.uf [], jc σ p.1 (.row sz (o.2.take p.2.2.2 ++ List.replicate (p.2.2.1 - p.2.2.2) zs)))) ⟨⟩ (iy σ p.1)) ⟨⟩ (vw? v)) ⟨⟩ (val σ x) := by
  simp only [cZ, dR, bB]
  refine dH fun v => ?_
  cases v with
  | agg l => exact cu
  | one b =>
    cases b with
    | vw key z n lo =>
      simp only [vw?, bJ, iy]
      cases get σ.ob key with
      | none => exact cu
      | some o =>
        cases o with
        | row sz' rows => simp only [Kh, bO, bJ]
        | _ => exact cu
    | _ => exact cu
def P5 (σ : St) : CV → Option (List (List FV))
  | .one (.f (.sl rows)) => some rows
  | .one .fH => some []
  | .one (.own key _) => (iy σ key).bind fun o => if o.1 = 1 then some o.2 else none
  | _ => none
@[go_sem] theorem aeE {rows : List (List FV)} : P5 σ (.one (.f (.sl rows))) = some rows := rfl
@[go_sem] theorem aeF : P5 σ (.one .fH) = some [] := rfl
@[go_sem] theorem P6 : bytesOf [] = some ⟨#[]⟩ := rfl
@[go_sem] theorem M4 {n : Int} {l : List (List FV)} : bytesOf ([.int .u8 n] :: l) = (bytesOf l).map fun s => ⟨#[UInt8.ofNat n.toNat] ++ s.data⟩ := rfl
section
variable {k : List (List FV) → Prop} {u : Tok k}
@[go_sem ↓] theorem aeG {key n : Nat} : W k u (P5 σ (.one (.own key n))) ↔ W (fun o => o.1 = 1 ∧ k o.2) ⟨⟩ (iy σ key) := by
  simp only [P5, dR, bB, bO, bJ]
end
@[go_sem ↓] theorem aeH : W k u (cZ Γ q σ d (.Us x)) ↔ W (fun v => W (fun l => W (fun s => k (.c (.one (.f (.str s))), σ)) ⟨⟩ (bytesOf l)) ⟨⟩ (P5 σ v)) ⟨⟩ (val σ x) := by
  simp only [cZ, dR, bB]
  refine dH fun v => ?_
  cases v with
  | agg l => exact cu
  | one b =>
    cases b with
    | f a =>
      cases a with
      | sl rows => simp only [P5, bB, bJ, one]
      | _ => exact cu
    | fH => simp only [P5, bJ, bytesOf, one]
    | own key n =>
      simp only [P5, iy]
      cases get σ.ob key with
      | none => exact cu
      | some o =>
        cases o with
        | row sz' rows => simp only [Kh, Option.bind_some, bO, bB, bJ, one]
        | _ => exact cu
    | _ => exact cu
@[go_sem ↓] theorem aeI {f : FuncId} {xs : List eu} : W k u (cZ Γ q σ d (.Q0 f xs)) ↔ W (fun l => W (fun p => k (.c (.one (.fn f p.1)), p.2)) ⟨⟩ (lF q σ l)) ⟨⟩ (iW σ xs) := by
  simp only [cZ, dR, bB, bZ]
@[go_sem ↓] theorem adj {f : FuncId} {xs : List eu} : W k u (cZ Γ q σ d (.yG f xs)) ↔ W (fun l => W (fun gH => W (fun r => W (fun p => W (fun s => k (.c (.one (.own (dD d) p.2.length)), s)) ⟨⟩ (new σ (dD d) (.row p.1 p.2))) ⟨⟩ (Q7 r.1)) ⟨⟩ (Γ f gH)) ⟨⟩ (Ji l)) ⟨⟩ (iW σ xs) := by
  simp only [cZ, rJ, dR, bB, bZ]
attribute [go_sem] Zy Ml avC Ji
@[go_sem] theorem WT {sz : Nat} {rows : List (List FV)} : Q7 [.one (.own sz rows)] = some (sz, rows) := rfl
@[go_sem ↓] theorem aas {gv : Bool} {f : FuncId} {xs : List eu} : W k u (cZ Γ q σ d (.call gv f xs)) ↔ W (fun l => W k ⟨⟩ (kH Γ gv q σ d f l)) ⟨⟩ (iW σ xs) := by
  simp only [cZ, dR, bB]
def fn? : CV → Option (FuncId × List (List FV))
  | .one (.fn f caps) => some (f, caps)
  | _ => none
@[go_sem] theorem adk {f : FuncId} {caps : List (List FV)} : fn? (.one (.fn f caps)) = some (f, caps) := rfl
@[go_sem ↓] theorem aeJ {xs : List eu} : W k u (cZ Γ q σ d (.dyn x xs)) ↔ W (fun v => W (fun p => W (fun l => W k ⟨⟩ (kH Γ false q σ d p.1 (l ++ p.2.map fun c => .one (.fp c)))) ⟨⟩ (iW σ xs)) ⟨⟩ (fn? v)) ⟨⟩ (val σ x) := by
  simp only [cZ, dR, bB]
  refine dH fun v => ?_
  cases v with
  | agg l => exact cu
  | one b =>
    cases b with
    | fn f caps => simp only [fn?, bJ, bB]
    | _ => exact cu
def EG (gv : Bool) (args : List CV) (p : List AV × St) (r : List AV × List AV) : Option St := if (!gv && ((r.1.any vF || !p.1.all fF) && args.any (fun x => (cells x).any gy))) = true then rH p.2 args else some p.2
def EH (d : Nat) (σ : St) (args : List CV) (p : List AV × St) (r : List AV × List AV) (s : St) : Option St := if p.1.all fF = true then some s else yI σ (args.flatMap cells) (dD d + 10000) s args r.2
@[go_sem ↓] theorem WU {gv : Bool} {f : FuncId} {args : List CV} : W k u (kH Γ gv q σ d f args) ↔ W (fun p => W (fun r0 => W (fun r => ((q && !(p.1.all fF && r.1.all fF)) = false ∧ (q && ((r.1.any vF || !p.1.all fF) && args.any (fun x => (cells x).any gy))) = false) ∧
    W (fun s => W (fun s => W (fun v => k (Hf v.1, v.2)) ⟨⟩ (wD (dD d) 0 [] s r.1)) ⟨⟩ (EH d σ args p r s)) ⟨⟩ (EG gv args p r)) ⟨⟩ (some (Q6 q r0))) ⟨⟩ (Γ f p.1)) ⟨⟩ (rG gv σ args) := by
  simp only [kH, dR, bB, dG, bZ, bJ, EG, EH, Bool.not_eq_true, and_assoc]
@[go_sem] theorem adl {r : List AV × List AV} : Q6 false r = r := rfl
@[go_sem] theorem aat {r : List AV × List AV} : Q6 true r = (r.1.map Mk, r.2) := rfl
@[go_sem] theorem aau {sz : Nat} {rows : List (List FV)} : Mk (.one (.own sz rows)) = .one (.f (.sl rows)) := rfl
@[go_sem] theorem aeK {x : FV} : Mk (.one (.f x)) = .one (.f x) := rfl
@[go_sem] theorem aav {xs : List TV} : Mk (.agg xs) = .agg xs := rfl
@[go_sem] theorem aaw {xs : List CL} : Mk (.one (.ptr xs)) = .one (.ptr xs) := rfl
end
section
variable {Γ : Env} {F : Nat} {k : List AV × List AV → Prop} {u : Tok k} {cf : CF} {gH : List AV}
@[go_sem ↓] theorem aeL : W k u (Jb Γ F cf gH) ↔ gH.length = cf.np ∧ W (fun e => W (fun p => (∀ id, p.1 ≠ .ext id) ∧ W (fun b => W (fun l => W (fun r => k (r.1, b.1)) ⟨⟩ (mY cf.ro b.2 l)) ⟨⟩ (slots b.2 cf.res)) ⟨⟩ (kI p.2 e.1 gH)) ⟨⟩ (ev Γ F cf.body e.2)) ⟨⟩ (enter cf.bo 0 [] ⟨[], []⟩ gH) := by
  simp only [Jb, dR, dG, bB, ne_eq, Decidable.not_not]
  refine and_congr Iff.rfl (dH fun e => dH fun p => ?_)
  obtain ⟨o, s⟩ := p
  cases o with
  | ext id => simp [jW]
  | _ => simp [bB, bZ]
@[go_sem] theorem aax : (∀ id, Out.jq ≠ .ext id) ↔ True := by simp
@[go_sem] theorem aay : (∀ id, Out.ret ≠ .ext id) ↔ True := by simp
@[go_sem] theorem aaz {i : Nat} : (∀ id, Out.ext i ≠ .ext id) ↔ False := by simp
end
end Go.Proofs.Ytdkkgecdhapfhaa.Ev
namespace Go.Proofs.Ytdkkgecdhapfhaa.Ev
open Go
attribute [go_sem] dD dX uS qC lM nJ Ee Mh G8 sub jc ou gy jB plain fF PG Jh vF Mj Hf Jk Q8 Q9 Ra Jj Q5 rowsOf KV.ks SV.sk
attribute [go_sem] List.any_cons List.any_nil List.all_cons List.all_nil List.map_cons List.map_nil List.length_cons List.length_nil List.append_nil List.nil_append List.cons_append List.flatMap_cons List.flatMap_nil List.take_succ_cons List.take_zero List.take_nil List.drop_succ_cons List.drop_zero List.drop_nil Option.getD_some Option.getD_none List.filter_nil List.filter_cons List.headD_nil List.headD_cons List.tail_cons List.tail_nil
section
variable {σ : St} {α : Type}
section
variable {k : St → Prop} {u : Tok k} {key : Nat} {o : Ob} {pend : List PL}
@[go_sem ↓] theorem aeM : W k u (new σ key o) ↔ (rem σ.ob key).any (fun p => lM key p.2) = false ∧ k ⟨σ.tm.filter (fun p => !qC key p.2), (key, o) :: rem σ.ob key⟩ := by
  simp only [new, Ut, dR, bZ, dG, bJ, Bool.not_eq_true]
@[go_sem ↓] theorem adn : W k u (newP pend σ key o) ↔ pend.any (dX key) = false ∧ W k ⟨⟩ (new σ key o) := by
  simp only [newP, dR, dG, Bool.not_eq_true]
@[go_sem ↓] theorem aeN : W k u (yD σ key) ↔ W (fun p => k (sub ⟨σ.tm, rem σ.ob key⟩ key (.f (.sl p.2)))) ⟨⟩ (iy σ key) := by
  simp only [yD, iy, dR]
  cases get σ.ob key with
  | none => exact cu
  | some o => cases o <;> first | exact cu | exact kZ Iff.rfl
@[go_sem ↓] theorem Sj : W k u (wE σ []) ↔ k σ := gI
@[go_sem ↓] theorem P7 : W k u (rH σ []) ↔ k σ := gI
@[go_sem ↓] theorem M5 {x : CV} {xs : List CV} : W k u (rH σ (x :: xs)) ↔ W (fun s => W k ⟨⟩ (rH s xs)) ⟨⟩ (wE σ (cells x)) := by
  simp only [rH, dR, bB]
def oJ (σ : St) : PL → Option St
  | .own key _ => yD σ key
  | _ => some σ
@[go_sem ↓] theorem P8 {x : PL} {xs : List PL} : W k u (wE σ (x :: xs)) ↔ W (fun s => W k ⟨⟩ (wE s xs)) ⟨⟩ (oJ σ x) := by
  simp only [dR]
  cases x <;> simp only [wE, oJ, bB, bJ]
@[go_sem ↓] theorem P9 {n : Nat} : W k u (oJ σ (.own key n)) ↔ W k ⟨⟩ (yD σ key) := Iff.rfl
@[go_sem] theorem aaA {x : FV} : oJ σ (.f x) = some σ := rfl
@[go_sem] theorem UO : oJ σ .fH = some σ := rfl
@[go_sem] theorem UQ {n : Nat} : oJ σ (.ptr key n) = some σ := rfl
@[go_sem] theorem WV : oJ σ (.mp key) = some σ := rfl
@[go_sem] theorem UR : oJ σ .jo = some σ := rfl
@[go_sem] theorem Sk : oJ σ .fA = some σ := rfl
@[go_sem] theorem WW {f : FuncId} {c : List (List FV)} : oJ σ (.fn f c) = some σ := rfl
@[go_sem] theorem WX {c : List FV} : oJ σ (.fp c) = some σ := rfl
end
section
variable {k : FV × St → Prop} {u : Tok k} {key n : Nat}
@[go_sem] theorem aeO {x : FV} : wo σ (.f x) = some (x, σ) := rfl
@[go_sem] theorem aaB : wo σ .fH = some (.sl [], σ) := rfl
@[go_sem ↓] theorem UU : W k u (wo σ (.own key n)) ↔ W (fun p => k (.sl p.2, sub ⟨σ.tm, rem σ.ob key⟩ key (.f (.sl p.2)))) ⟨⟩ (iy σ key) := by
  simp only [wo, yD, iy, dR]
  cases get σ.ob key with
  | none => exact cu
  | some o => cases o <;> first | exact cu | (simp only [Option.map_some]; exact kZ Iff.rfl)
end
section
variable {k : List FV × St → Prop} {u : Tok k}
@[go_sem ↓] theorem Sl : W k u (kG σ []) ↔ k ([], σ) := gI
@[go_sem ↓] theorem Qa {x : PL} {xs : List PL} : W k u (kG σ (x :: xs)) ↔ W (fun p => W (fun r => k (p.1 :: r.1, r.2)) ⟨⟩ (kG p.2 xs)) ⟨⟩ (wo σ x) := by
  simp only [kG, dR, bB, bZ]
@[go_sem ↓] theorem aeP {key : Nat} : W k u (Uv σ key) ↔ W (fun xs => W (fun p => W (fun _ => k (p.1, Ra (Jj key p.1) ⟨p.2.tm, rem p.2.ob key⟩)) ⟨⟩ (get p.2.ob key)) ⟨⟩ (kG σ xs)) ⟨⟩ (nZ σ key) := by
  simp only [Uv, nZ, dR]
  cases get σ.ob key with
  | none => exact cu
  | some o =>
    cases o with
    | mV xs =>
      simp only [oc, bJ, bB]
      refine dH fun p => ?_
      cases get p.2.ob key with
      | none => exact cu
      | some o => exact kZ Iff.rfl
    | _ => exact cu
end
section
variable {k : FC × St → Prop} {u : Tok k}
@[go_sem ↓] theorem UW {x : PL} : W k u (Uu σ (.one x)) ↔ W (fun p => k (.one p.1, p.2)) ⟨⟩ (wo σ x) := by simp only [Uu, dR, bZ]
@[go_sem ↓] theorem UY {xs : List PL} : W k u (Uu σ (.agg xs)) ↔ W (fun p => k (.agg p.1, p.2)) ⟨⟩ (kG σ xs) := by simp only [Uu, dR, bZ]
end
section
variable {k : List (List FV) × St → Prop} {u : Tok k} {q : Bool}
@[go_sem ↓] theorem Sm : W k u (lF q σ []) ↔ k ([], σ) := by simp only [lF, dR, bJ]
@[go_sem ↓] theorem UZ {cs : List FV} {l : List CV} : W k u (lF q σ (.one (.fp cs) :: l)) ↔ W (fun r => k (cs :: r.1, r.2)) ⟨⟩ (lF q σ l) := by simp only [lF, dR, bZ]
@[go_sem ↓] theorem Sn {key : Nat} {l : List CV} : W k u (lF q σ (.one (.ptr key 0) :: l)) ↔ q = false ∧ W (fun p => W (fun r => k (p.1 :: r.1, r.2)) ⟨⟩ (lF q p.2 l)) ⟨⟩ (Uv σ key) := by
  simp only [lF, dR, dG, bB, bZ, Bool.not_eq_true]
end
section
variable {k : List (Nat × Nat × CV) → Prop} {u : Tok k}
@[go_sem ↓] theorem Sq : W k u (vals σ []) ↔ k [] := gI
@[go_sem ↓] theorem Qb {o n : Nat} {x : eu} {ps : List (Nat × Nat × eu)} : W k u (vals σ ((o, n, x) :: ps)) ↔ W (fun v => W (fun l => k ((o, n, v) :: l)) ⟨⟩ (vals σ ps)) ⟨⟩ (val σ x) := by
  simp only [vals, dR, bB, bZ]
end
section
variable {k : List CV → Prop} {u : Tok k}
@[go_sem ↓] theorem Qc : W k u (iW σ []) ↔ k [] := gI
@[go_sem ↓] theorem M6 {x : eu} {xs : List eu} : W k u (iW σ (x :: xs)) ↔ W (fun v => W (fun l => k (v :: l)) ⟨⟩ (iW σ xs)) ⟨⟩ (val σ x) := by
  simp only [iW, dR, bB, bZ]
@[go_sem ↓] theorem Qd : W k u (slots σ []) ↔ k [] := gI
@[go_sem ↓] theorem M7 {x : Rs} {xs : List Rs} : W k u (slots σ (x :: xs)) ↔ W (fun v => W (fun l => k (v :: l)) ⟨⟩ (slots σ xs)) ⟨⟩ (slot σ x) := by
  simp only [slots, dR, bB, bZ]
end
section
variable {k : CV → Prop} {u : Tok k} {i n : Nat} {agg : Bool}
@[go_sem ↓] theorem WY : W k u (slot σ (.t i)) ↔ W k ⟨⟩ (vl (get σ.tm i)) := by rw [← Wq]; exact Iff.rfl
@[go_sem ↓] theorem Qe : W k u (slot σ (.cell i n agg)) ↔ W (fun v => W (fun p => W (fun xs => W (fun l => W k ⟨⟩ (mk agg l)) ⟨⟩ (seg n p.2 xs)) ⟨⟩ (nZ σ p.1)) ⟨⟩ (Hy v)) ⟨⟩ (vl (get σ.tm i)) := by
  simp only [slot, dR]
  cases get σ.tm i with
  | none => exact cu
  | some v =>
    cases v with
    | uf l => exact cu
    | c x =>
      simp only [vl, bJ]
      cases x with
      | agg l => exact cu
      | one p =>
        cases p with
        | ptr key off =>
          simp only [Hy, bJ, nZ]
          cases get σ.ob key with
          | none => exact cu
          | some o => cases o <;> first | exact cu | (simp only [oc, bJ, bB])
        | _ => exact cu
end
section
variable {k : List PL → Prop} {u : Tok k} {z : List PL}
@[go_sem ↓] theorem Sw : W k u (fill z []) ↔ k z := by simp only [fill, dR, bJ]
@[go_sem ↓] theorem Qf {off n : Nat} {v : CV} {ps : List (Nat × Nat × CV)} : W k u (fill z ((off, n, v) :: ps)) ↔ ((cells v).length = n ∧ (cells v).any ou = false) ∧ W (fun z => W k ⟨⟩ (fill z ps)) ⟨⟩ (lay off (cells v) z) := by
  simp only [fill, dR, bO, bB]
end
@[go_sem] theorem WZ {kk : IntKind} {n : Int} : wu (.int kk n) = some (.int kk n) := rfl
@[go_sem] theorem U0 {b : Bool} : wu (.bool b) = some (.bool b) := rfl
@[go_sem] theorem W9 {s : ByteArray} : wu (.str s) = some (.str s) := rfl
section
variable {k : KV → Prop} {u : Tok k}
@[go_sem ↓] theorem U1 {x : FV} : W k u (keyOf (.one (.f x))) ↔ W (fun s => k (.one s)) ⟨⟩ (wu x) := by simp only [keyOf, Fu, Option.bind_some, dR, bZ]
@[go_sem ↓] theorem U2 {xs : List PL} : W k u (keyOf (.agg xs)) ↔ W (fun l => W (fun s => k (.agg s)) ⟨⟩ (rF l)) ⟨⟩ (nK xs) := by simp only [keyOf, dR, bB, bZ]
end
section
variable {k : List SV → Prop} {u : Tok k}
@[go_sem ↓] theorem Qg : W k u (rF []) ↔ k [] := gI
@[go_sem ↓] theorem M8 {x : FV} {xs : List FV} : W k u (rF (x :: xs)) ↔ W (fun s => W (fun l => k (s :: l)) ⟨⟩ (rF xs)) ⟨⟩ (wu x) := by simp only [rF, dR, bB, bZ]
end
section
variable {k : List FV → Prop} {u : Tok k}
@[go_sem ↓] theorem M9 : W k u (nK []) ↔ k [] := gI
@[go_sem ↓] theorem Ma {x : FV} {xs : List PL} : W k u (nK (.f x :: xs)) ↔ W (fun l => k (x :: l)) ⟨⟩ (nK xs) := by simp only [nK, Fu, Option.bind_some, dR, bZ]
end
section
variable {k : CL × St → Prop} {u : Tok k} {key n : Nat}
@[go_sem] theorem aeQ {x : FV} : G9 σ (.f x) = some (.f x, σ) := rfl
@[go_sem] theorem aaC : G9 σ .fH = some (.f (.sl []), σ) := rfl
@[go_sem] theorem aaD : G9 σ .jo = some (.jo, σ) := rfl
@[go_sem] theorem Xa : G9 σ .fA = some (.fA, σ) := rfl
@[go_sem ↓] theorem U3 : W k u (G9 σ (.own key n)) ↔ W (fun o => k (.own o.1 o.2, ⟨σ.tm, rem σ.ob key⟩)) ⟨⟩ (iy σ key) := by
  simp only [G9, iy, dR]
  cases get σ.ob key with
  | none => exact cu
  | some o => cases o <;> first | exact cu | exact kZ Iff.rfl
@[go_sem ↓] theorem Xb : W k u (G9 σ (.mp key)) ↔ W (fun o => k (.mp o.1 o.2, ⟨σ.tm, rem σ.ob key⟩)) ⟨⟩ (nN σ key) := by
  simp only [G9, nN, dR]
  cases get σ.ob key with
  | none => exact cu
  | some o => cases o <;> first | exact cu | exact kZ Iff.rfl
end
section
variable {k : List CL × St → Prop} {u : Tok k}
@[go_sem ↓] theorem Sy : W k u (yH σ []) ↔ k ([], σ) := gI
@[go_sem ↓] theorem Qh {x : PL} {xs : List PL} : W k u (yH σ (x :: xs)) ↔ W (fun p => W (fun r => k (p.1 :: r.1, r.2)) ⟨⟩ (yH p.2 xs)) ⟨⟩ (G9 σ x) := by
  simp only [yH, dR, bB, bZ]
end
section
variable {k : TV × St → Prop} {u : Tok k} {key n : Nat} {gv : Bool}
@[go_sem] theorem aeR {x : FV} : qN gv σ (.f x) = some (.f x, σ) := rfl
@[go_sem] theorem aaE : qN gv σ .fH = some (.f (.sl []), σ) := rfl
@[go_sem] theorem aaF : qN gv σ .jo = some (.jo, σ) := rfl
@[go_sem] theorem Xc : qN gv σ .fA = some (.fA, σ) := rfl
@[go_sem] theorem ado {cs : List FV} : qN gv σ (.fp cs) = some (.fp cs, σ) := rfl
@[go_sem] theorem adp {f : FuncId} {cs : List (List FV)} : qN gv σ (.fn f cs) = some (.fn f cs, σ) := rfl
@[go_sem ↓] theorem U4 : W k u (qN false σ (.own key n)) ↔ W (fun o => k (.f (.sl o.2), σ)) ⟨⟩ (iy σ key) := by
  simp only [qN, iy, dR]
  cases get σ.ob key with
  | none => exact cu
  | some o => cases o <;> first | exact cu | exact kZ Iff.rfl
@[go_sem ↓] theorem SA : W k u (qN true σ (.own key n)) ↔ W (fun o => k (.own o.1 o.2, ⟨σ.tm, rem σ.ob key⟩)) ⟨⟩ (iy σ key) := by
  simp only [qN, iy, dR]
  cases get σ.ob key with
  | none => exact cu
  | some o => cases o <;> first | exact cu | exact kZ Iff.rfl
@[go_sem ↓] theorem Xd : W k u (qN gv σ (.mp key)) ↔ W (fun o => k (.mp o.1 o.2, ⟨σ.tm, rem σ.ob key⟩)) ⟨⟩ (nN σ key) := by
  simp only [qN, nN, dR]
  cases get σ.ob key with
  | none => exact cu
  | some o => cases o <;> first | exact cu | exact kZ Iff.rfl
@[go_sem ↓] theorem U5 : W k u (qN gv σ (.ptr key 0)) ↔ W (fun xs => W (fun p => k (.ptr p.1, p.2)) ⟨⟩ (yH ⟨σ.tm, rem σ.ob key⟩ xs)) ⟨⟩ (nZ σ key) := by
  simp only [qN, nZ, dR]
  cases get σ.ob key with
  | none => exact cu
  | some o => cases o <;> first | exact cu | (simp only [oc, bJ, bZ])
end
section
variable {k : List TV × St → Prop} {u : Tok k} {gv : Bool}
@[go_sem ↓] theorem SB : W k u (qO gv σ []) ↔ k ([], σ) := gI
@[go_sem ↓] theorem Qi {x : PL} {xs : List PL} : W k u (qO gv σ (x :: xs)) ↔ W (fun p => W (fun r => k (p.1 :: r.1, r.2)) ⟨⟩ (qO gv p.2 xs)) ⟨⟩ (qN gv σ x) := by
  simp only [qO, dR, bB, bZ]
end
section
variable {k : AV × St → Prop} {u : Tok k} {gv : Bool}
@[go_sem ↓] theorem U6 {x : PL} : W k u (I9 gv σ (.one x)) ↔ W (fun p => k (.one p.1, p.2)) ⟨⟩ (qN gv σ x) := by simp only [I9, dR, bZ]
@[go_sem ↓] theorem U7 {xs : List PL} : W k u (I9 gv σ (.agg xs)) ↔ W (fun p => k (.agg p.1, p.2)) ⟨⟩ (qO gv σ xs) := by simp only [I9, dR, bZ]
end
section
variable {k : List AV × St → Prop} {u : Tok k} {gv : Bool}
@[go_sem ↓] theorem SC : W k u (rG gv σ []) ↔ k ([], σ) := gI
@[go_sem ↓] theorem Qj {x : CV} {xs : List CV} : W k u (rG gv σ (x :: xs)) ↔ W (fun p => W (fun r => k (p.1 :: r.1, r.2)) ⟨⟩ (rG gv p.2 xs)) ⟨⟩ (I9 gv σ x) := by
  simp only [rG, dR, bB, bZ]
end
section
variable {k : List PL × St → Prop} {u : Tok k} {kf : Nat → Nat} {c base j : Nat} {pend : List PL}
@[go_sem ↓] theorem SE : W k u (ql kf c pend σ []) ↔ k ([], σ) := by simp only [ql, dR, bJ]
def Na (kf : Nat → Nat) (c : Nat) (pend : List PL) (σ : St) : CL → Option (PL × St)
  | .f x => some (.f x, σ)
  | .jo => some (.jo, σ)
  | .fA => some (.fA, σ)
  | .mp sh ents => (newP pend σ (kf c) (.map sh ents)).map fun s => (.mp (kf c), s)
  | .own sz rows => (newP pend σ (kf c + kf c % 2) (.row sz rows)).map fun s => (.own (kf c + kf c % 2) rows.length, s)
@[go_sem ↓] theorem Qk {x : CL} {xs : List CL} : W k u (ql kf c pend σ (x :: xs)) ↔ W (fun p => W (fun r => k (p.1 :: r.1, r.2)) ⟨⟩ (ql kf (c + 1) (p.1 :: pend) p.2 xs)) ⟨⟩ (Na kf c pend σ x) := by
  simp only [dR]
  cases x <;> simp only [ql, Na, bJ, bB, bZ]
@[go_sem ↓] theorem SF : W k u (wC base j pend σ []) ↔ k ([], σ) := by simp only [wC, dR, bJ]
@[go_sem ↓] theorem Ql {x : TV} {xs : List TV} : W k u (wC base j pend σ (x :: xs)) ↔ W (fun p => W (fun r => k (p.1 :: r.1, r.2)) ⟨⟩ (wC base (j + 1) (p.1 :: pend) p.2 xs)) ⟨⟩ (BR (base + 200 * (j + 1)) pend σ x) := by
  simp only [wC, dR, bB, bZ]
end
section
variable {k : PL × St → Prop} {u : Tok k} {kf : Nat → Nat} {c key : Nat} {pend : List PL}
@[go_sem] theorem aeS {x : FV} : Na kf c pend σ (.f x) = some (.f x, σ) := rfl
@[go_sem] theorem aaG : Na kf c pend σ .jo = some (.jo, σ) := rfl
@[go_sem] theorem Xe : Na kf c pend σ .fA = some (.fA, σ) := rfl
@[go_sem ↓] theorem Xf {sh : KS} {ents : List (KV × FC)} : W k u (Na kf c pend σ (.mp sh ents)) ↔ W (fun s => k (.mp (kf c), s)) ⟨⟩ (newP pend σ (kf c) (.map sh ents)) := by simp only [Na, dR, bZ]
@[go_sem ↓] theorem U8 {sz : Nat} {rows : List (List FV)} : W k u (Na kf c pend σ (.own sz rows)) ↔ W (fun s => k (.own (kf c + kf c % 2) rows.length, s)) ⟨⟩ (newP pend σ (kf c + kf c % 2) (.row sz rows)) := by simp only [Na, dR, bZ]
@[go_sem] theorem aeT {x : FV} : BR key pend σ (.f x) = some (.f x, σ) := rfl
@[go_sem] theorem aaH : BR key pend σ .jo = some (.jo, σ) := rfl
@[go_sem] theorem Xg : BR key pend σ .fA = some (.fA, σ) := rfl
@[go_sem] theorem adq {cs : List FV} : BR key pend σ (.fp cs) = some (.fp cs, σ) := rfl
@[go_sem] theorem adr {f : FuncId} {cs : List (List FV)} : BR key pend σ (.fn f cs) = some (.fn f cs, σ) := rfl
@[go_sem] theorem aaI : BR key pend σ .any = some (.any, σ) := rfl
@[go_sem ↓] theorem Xh {sh : KS} {ents : List (KV × FC)} : W k u (BR key pend σ (.mp sh ents)) ↔ W (fun s => k (.mp key, s)) ⟨⟩ (newP pend σ key (.map sh ents)) := by simp only [BR, dR, bZ]
@[go_sem ↓] theorem U9 {sz : Nat} {rows : List (List FV)} : W k u (BR key pend σ (.own sz rows)) ↔ W (fun s => k (.own (ow key) rows.length, s)) ⟨⟩ (newP pend σ (ow key) (.row sz rows)) := by simp only [BR, dR, bZ]
@[go_sem ↓] theorem Va {cs : List CL} : W k u (BR key pend σ (.ptr cs)) ↔ W (fun p => p.1.any (dX key) = false ∧ W (fun s => k (.ptr key 0, s)) ⟨⟩ (newP pend p.2 key (.mV p.1))) ⟨⟩ (ql (Mj key) 0 pend σ cs) := by
  simp only [BR, dR, bB, dG, bZ, Bool.not_eq_true]
end
section
variable {k : CV × St → Prop} {u : Tok k} {base : Nat} {pend : List PL}
@[go_sem ↓] theorem Vb {x : TV} : W k u (Ja base pend σ (.one x)) ↔ W (fun p => k (.one p.1, p.2)) ⟨⟩ (BR (base + 200) pend σ x) := by simp only [Ja, dR, bZ]
@[go_sem ↓] theorem Vd {xs : List TV} : W k u (Ja base pend σ (.agg xs)) ↔ W (fun p => k (.agg p.1, p.2)) ⟨⟩ (wC base 0 pend σ xs) := by simp only [Ja, dR, bZ]
end
section
variable {k : List CV × St → Prop} {u : Tok k} {base i : Nat} {pend : List PL} {bo : List Nat}
@[go_sem] theorem aeU : ab bo i = if bo.contains i then dD i + 10001 else dD i + 1 := rfl
@[go_sem] theorem aeV {key : Nat} : ow key = if key / 10000 % 2 = 0 then key + key % 2 else key := rfl
@[go_sem ↓] theorem SG : W k u (wD base i pend σ []) ↔ k ([], σ) := by simp only [wD, dR, bJ]
@[go_sem ↓] theorem Qm {x : AV} {xs : List AV} : W k u (wD base i pend σ (x :: xs)) ↔ W (fun p => W (fun r => k (p.1 :: r.1, r.2)) ⟨⟩ (wD base (i + 1) (cells p.1 ++ pend) p.2 xs)) ⟨⟩ (Ja (base + 2000 * i) pend σ x) := by
  simp only [wD, dR, bB, bZ]
@[go_sem ↓] theorem Qo : W k u (enter bo i pend σ []) ↔ k ([], σ) := by simp only [enter, dR, bJ]
@[go_sem ↓] theorem Nb {x : AV} {xs : List AV} : W k u (enter bo i pend σ (x :: xs)) ↔ W (fun p => W (fun s => W (fun r => k (p.1 :: r.1, r.2)) ⟨⟩ (enter bo (i + 1) (cells p.1 ++ pend) s xs)) ⟨⟩ (some ⟨put p.2.tm i (.c p.1), p.2.ob⟩)) ⟨⟩ (Ja (ab bo i) pend σ x) := by
  simp only [enter, dR, bB, bZ, bJ]
end
section
variable {k : St → Prop} {u : Tok k} {fI : St} {base : Nat} {pend : List PL}
@[go_sem ↓] theorem SH : W k u (yI fI pend base σ [] []) ↔ k σ := by simp only [yI, dR, bJ]
@[go_sem ↓] theorem Qp {x : CV} {xs : List CV} {y : AV} {ys : List AV} : W k u (yI fI pend base σ (x :: xs) (y :: ys)) ↔ W (fun s => W k ⟨⟩ (yI fI pend (base + 1000) s xs ys)) ⟨⟩ (Vr fI pend base σ x y) := by
  simp only [yI, dR, bB]
@[go_sem ↓] theorem Ve {x : PL} {y : TV} : W k u (Vr fI pend base σ (.one x) (.one y)) ↔ W k ⟨⟩ (BS fI pend base σ x y) := Iff.rfl
@[go_sem ↓] theorem Vf {x : List PL} {y : List TV} : W k u (Vr fI pend base σ (.agg x) (.agg y)) ↔ W k ⟨⟩ (Ad fI pend base σ x y) := Iff.rfl
@[go_sem ↓] theorem SI : W k u (Ad fI pend base σ [] []) ↔ k σ := by simp only [Ad, dR, bJ]
@[go_sem ↓] theorem Qq {x : PL} {xs : List PL} {y : TV} {ys : List TV} : W k u (Ad fI pend base σ (x :: xs) (y :: ys)) ↔ W (fun s => W k ⟨⟩ (Ad fI pend (base + 200) s xs ys)) ⟨⟩ (BS fI pend base σ x y) := by
  simp only [Ad, dR, bB]
@[go_sem ↓] theorem Vg {key off : Nat} {cs : List CL} : W k u (BS fI pend base σ (.ptr key off) (.ptr cs)) ↔ W (fun xs => W (fun p => k (jc p.2 key (.mV p.1))) ⟨⟩ (ql (He base xs) 0 pend σ cs)) ⟨⟩ (nZ fI key) := by
  simp only [BS, nZ, dR]
  cases get fI.ob key with
  | none => exact cu
  | some o => cases o <;> first | exact cu | (simp only [oc, bJ, bZ])
@[go_sem] theorem ads {key : Nat} {sh : KS} {ents : List (KV × FC)} : BS fI pend base σ (.mp key) (.mp sh ents) = some (jc σ key (.map sh ents)) := rfl
@[go_sem] theorem Xi {key n sz : Nat} {rows : List (List FV)} : BS fI pend base σ (.own key n) (.own sz rows) = some (jc σ key (.row sz rows)) := rfl
@[go_sem] theorem aeW {x y : FV} : BS fI pend base σ (.f x) (.f y) = some σ := rfl
@[go_sem] theorem aaJ {y : FV} : BS fI pend base σ .fH (.f y) = some σ := rfl
@[go_sem] theorem aaK : BS fI pend base σ .jo .jo = some σ := rfl
@[go_sem] theorem Xj : BS fI pend base σ .fA .fA = some σ := rfl
@[go_sem] theorem aaL {key n : Nat} {y : FV} : BS fI pend base σ (.own key n) (.f y) = some σ := rfl
@[go_sem] theorem aaM {key n : Nat} : BS fI pend base σ (.own key n) .any = some σ := rfl
@[go_sem] theorem adt {a b : List FV} : BS fI pend base σ (.fp a) (.fp b) = some σ := rfl
@[go_sem] theorem adu {f g : FuncId} {a b : List (List FV)} : BS fI pend base σ (.fn f a) (.fn g b) = some σ := rfl
end
def Vh (base c : Nat) : Option PL → Nat
  | some (.mp k) => if k % 2 = 0 then k else base + 2 * (c + 1)
  | some (.own k _) => if k % 2 = 0 then k else base + 2 * (c + 1)
  | _ => base + 2 * (c + 1)
@[go_sem] theorem aaN {base c : Nat} {xs : List PL} : He base xs c = Vh base c (xs[c]?) := by
  unfold He
  cases xs[c]? with
  | none => rfl
  | some x => cases x <;> rfl
@[go_sem] theorem adv {base c k : Nat} : Vh base c (some (.mp k)) = if k % 2 = 0 then k else base + 2 * (c + 1) := rfl
@[go_sem] theorem aaO {base c k n : Nat} : Vh base c (some (.own k n)) = if k % 2 = 0 then k else base + 2 * (c + 1) := rfl
@[go_sem] theorem aeX {base c : Nat} {x : FV} : Vh base c (some (.f x)) = base + 2 * (c + 1) := rfl
@[go_sem] theorem aaP {base c : Nat} : Vh base c (some .fH) = base + 2 * (c + 1) := rfl
@[go_sem] theorem Xk {base c : Nat} : Vh base c (some .fA) = base + 2 * (c + 1) := rfl
section
variable {k : TV × St → Prop} {u : Tok k} {key n : Nat}
@[go_sem] theorem adw {x : FV} : outT σ (.f x) = some (.f x, σ) := rfl
@[go_sem] theorem Xl : outT σ .fH = some (.f (.sl []), σ) := rfl
@[go_sem] theorem Xm : outT σ .jo = some (.jo, σ) := rfl
@[go_sem] theorem Vi : outT σ .fA = some (.fA, σ) := rfl
@[go_sem] theorem aaQ {cs : List FV} : outT σ (.fp cs) = some (.fp cs, σ) := rfl
@[go_sem] theorem aaR {f : FuncId} {cs : List (List FV)} : outT σ (.fn f cs) = some (.fn f cs, σ) := rfl
@[go_sem ↓] theorem SL : W k u (outT σ (.own key n)) ↔ W (fun p => k (.f p.1, p.2)) ⟨⟩ (wo σ (.own key n)) := by simp only [outT, dR, bZ]
@[go_sem ↓] theorem Vj : W k u (outT σ (.mp key)) ↔ W (fun o => k (.mp o.1 o.2, ⟨σ.tm, rem σ.ob key⟩)) ⟨⟩ (nN σ key) := by
  simp only [outT, nN, dR]
  cases get σ.ob key with
  | none => exact cu
  | some o => cases o <;> first | exact cu | exact kZ Iff.rfl
@[go_sem ↓] theorem SN : W k u (outT σ (.ptr key 0)) ↔ W (fun xs => W (fun p => k (.ptr p.1, p.2)) ⟨⟩ (yH ⟨σ.tm, rem σ.ob key⟩ xs)) ⟨⟩ (nZ σ key) := by
  simp only [outT, nZ, dR]
  cases get σ.ob key with
  | none => exact cu
  | some o => cases o <;> first | exact cu | (simp only [oc, bJ, bZ])
@[go_sem ↓] theorem SQ {sz : Nat} : W k u (Ae sz σ (.own key n)) ↔ W (fun o => o.1 = sz ∧ k (.own sz o.2, ⟨σ.tm, rem σ.ob key⟩)) ⟨⟩ (iy σ key) := by
  simp only [Ae, iy, dR]
  cases get σ.ob key with
  | none => exact cu
  | some o => cases o <;> first | exact cu | (simp only [Kh, bJ, bO])
@[go_sem ↓] theorem SS {sz : Nat} : W k u (Ae sz σ .fH) ↔ ¬ sz = 0 ∧ k (.own sz [], σ) := by simp only [Ae, dR, dG, bJ]
@[go_sem] theorem aaS {x : PL} {y : FV} : jI σ x (.f y) = some (.f y, σ) := by cases x <;> first | rfl | (rename_i a b; cases b <;> rfl)
@[go_sem] theorem Vk {x : PL} : jI σ x .jo = some (.jo, σ) := by cases x <;> first | rfl | (rename_i a b; cases b <;> rfl)
@[go_sem] theorem SX {x : PL} : jI σ x .fA = some (.fA, σ) := by cases x <;> first | rfl | (rename_i a b; cases b <;> rfl)
def bko (σ : St) (key : Nat) : Nat → Option (TV × St)
  | 1 => (Kh (get σ.ob key)).map fun p => (.own p.1 p.2, ⟨σ.tm, rem σ.ob key⟩)
  | _ => some (.any, σ)
@[go_sem] theorem aeY : bko σ key 0 = some (.any, σ) := rfl
@[go_sem] theorem Xn : bko σ key 1 = (Kh (get σ.ob key)).map fun p => (.own p.1 p.2, ⟨σ.tm, rem σ.ob key⟩) := rfl
@[go_sem] theorem Vl {n sz : Nat} {rows : List (List FV)} : jI σ (.own key n) (.own sz rows) = bko σ key (key % 2) := by
  simp only [jI]
  rcases Nat.mod_two_eq_zero_or_one key with h | h
  · rw [h, if_neg (by decide)]; rfl
  · rw [h, if_pos rfl, Xn]
    cases get σ.ob key with
    | none => rfl
    | some o => cases o <;> rfl
@[go_sem] theorem Vm {sz : Nat} {rows : List (List FV)} : jI σ .fH (.own sz rows) = some (.any, σ) := rfl
@[go_sem] theorem Vn {x : PL} : jI σ x .any = some (.any, σ) := by cases x <;> first | rfl | (rename_i a b; cases b <;> rfl)
@[go_sem] theorem Xo {x : PL} {cs : List FV} : jI σ x (.fp cs) = some (.fp cs, σ) := by cases x <;> first | rfl | (rename_i a b; cases b <;> rfl)
@[go_sem] theorem Xp {x : PL} {f : FuncId} {cs : List (List FV)} : jI σ x (.fn f cs) = some (.fn f cs, σ) := by cases x <;> first | rfl | (rename_i a b; cases b <;> rfl)
@[go_sem ↓] theorem Qr {cs : List CL} : W k u (jI σ (.ptr key 0) (.ptr cs)) ↔ key % 2 = 1 ∧ W k ⟨⟩ (outT σ (.ptr key 0)) := by simp only [jI, dR, bO]
@[go_sem ↓] theorem SY {sh : KS} {ents : List (KV × FC)} : W k u (jI σ (.mp key) (.mp sh ents)) ↔ key % 2 = 1 ∧ W k ⟨⟩ (outT σ (.mp key)) := by simp only [jI, dR, bO]
end
section
variable {k : List TV × St → Prop} {u : Tok k}
@[go_sem ↓] theorem Qs : W k u (uT σ []) ↔ k ([], σ) := gI
@[go_sem ↓] theorem Nc {x : PL} {xs : List PL} : W k u (uT σ (x :: xs)) ↔ W (fun p => W (fun r => k (p.1 :: r.1, r.2)) ⟨⟩ (uT p.2 xs)) ⟨⟩ (outT σ x) := by
  simp only [uT, dR, bB, bZ]
@[go_sem ↓] theorem Nf : W k u (nL σ [] []) ↔ k ([], σ) := by simp only [nL, dR, bJ]
@[go_sem ↓] theorem Mc {l : PL} {ls : List PL} {x : TV} {xs : List TV} : W k u (nL σ (l :: ls) (x :: xs)) ↔ W (fun p => W (fun r => k (p.1 :: r.1, r.2)) ⟨⟩ (nL p.2 ls xs)) ⟨⟩ (jI σ l x) := by
  simp only [nL, dR, bB, bZ]
end
section
variable {k : AV × St → Prop} {u : Tok k}
@[go_sem ↓] theorem Jd {x : PL} : W k u (Af none σ (.one x)) ↔ W (fun p => k (.one p.1, p.2)) ⟨⟩ (outT σ x) := by simp only [Af, Ms, dR, bZ]
@[go_sem ↓] theorem Je {xs : List PL} : W k u (Af none σ (.agg xs)) ↔ W (fun p => k (.agg p.1, p.2)) ⟨⟩ (uT σ xs) := by simp only [Af, Ms, dR, bZ]
@[go_sem ↓] theorem Qt {sz : Nat} {x : PL} : W k u (Af (some sz) σ (.one x)) ↔ W (fun p => k (.one p.1, p.2)) ⟨⟩ (Ae sz σ x) := by simp only [Af, dR, bZ]
@[go_sem ↓] theorem Qu {l : PL} {x : TV} : W k u (wF σ (.one l) (.one x)) ↔ W (fun p => k (.one p.1, p.2)) ⟨⟩ (jI σ l x) := by simp only [wF, dR, bZ]
@[go_sem ↓] theorem Qv {l : List PL} {x : List TV} : W k u (wF σ (.agg l) (.agg x)) ↔ W (fun p => k (.agg p.1, p.2)) ⟨⟩ (nL σ l x) := by simp only [wF, dR, bZ]
end
section
variable {k : List AV × St → Prop} {u : Tok k}
@[go_sem ↓] theorem Qw {fl : List (Option Nat)} : W k u (mY fl σ []) ↔ k ([], σ) := by simp only [mY, dR, bJ]
@[go_sem ↓] theorem Ng {fl : List (Option Nat)} {x : CV} {xs : List CV} : W k u (mY fl σ (x :: xs)) ↔ W (fun p => W (fun r => k (p.1 :: r.1, r.2)) ⟨⟩ (mY fl.tail p.2 xs)) ⟨⟩ (Af (fl.headD none) σ x) := by
  simp only [mY, dR, bB, bZ]
@[go_sem ↓] theorem Nh : W k u (kI σ [] []) ↔ k ([], σ) := by simp only [kI, dR, bJ]
@[go_sem ↓] theorem Md {l : CV} {ls : List CV} {x : AV} {xs : List AV} : W k u (kI σ (l :: ls) (x :: xs)) ↔ W (fun p => W (fun r => k (p.1 :: r.1, r.2)) ⟨⟩ (kI p.2 ls xs)) ⟨⟩ (wF σ l x) := by
  simp only [kI, dR, bB, bZ]
end
section
variable {k : St → Prop} {u : Tok k} {gv : Bool} {d : Nat} {args : List CV} {p : List AV × St} {r : List AV × List AV} {s : St}
@[go_sem ↓] theorem adx : W k u (EG gv args p r) ↔ (if (!gv && ((r.1.any vF || !p.1.all fF) && args.any (fun x => (cells x).any gy))) = true then W k ⟨⟩ (rH p.2 args) else k p.2) := by
  simp only [EG, dR]
  split
  · exact Iff.rfl
  · exact bJ
@[go_sem ↓] theorem ady : W k u (EH d σ args p r s) ↔ (if p.1.all fF = true then k s else W k ⟨⟩ (yI σ (args.flatMap cells) (dD d + 10000) s args r.2)) := by
  simp only [EH, dR]
  split
  · exact bJ
  · exact Iff.rfl
end
end
section
variable {σ : St} {ks BQ : List Nat} {rws : List (Nat × Nat)}
@[go_sem] theorem adz : res ks BQ rws σ = ⟨pick ks (jq σ rws).tm, pick BQ (jq σ rws).ob⟩ := rfl
@[go_sem] theorem aaT : jq σ [] = σ := rfl
end
attribute [go_sem] if_true if_false true_and and_true Bool.not_false Bool.not_true Bool.and_false Bool.false_and Bool.and_true Bool.true_and Bool.or_false Bool.false_or Bool.or_true Bool.true_or Bool.false_eq_true not_true_eq_false not_false_eq_true ne_eq forall_const and_self implies_true KV.one.injEq KV.agg.injEq SV.str.injEq SV.int.injEq SV.bool.injEq List.cons.injEq List.getElem?_cons_zero List.getElem?_cons_succ List.getD_cons_zero List.getD_cons_succ List.contains_cons List.contains_nil decide_true decide_false fresh
end Go.Proofs.Ytdkkgecdhapfhaa.Ev

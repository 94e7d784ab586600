/- A part of the proof of StoreOld: cut, joined and given short names by a program of this session (wip/tools/pack.py); Lean checks it. No condition. -/
import Derived.Test.YtdkkgecdhapfhaaPSOldh
import Derived.Test.YtdkkgecdhapfhaaPSOldf
import Derived.Below
import Derived.Defers
import Derived.Test.YtdkkgecdhapfhaaPSOldd
import Derived.Laws.StructEq
import Derived.Test.YtdkkgecdhapfhaaProg
import Derived.WalkKit
import Derived.Deep.Draws
import Derived.Deep.AppendLies
import Derived.Maps.AppendAt
import Derived.OwnWalk
import Derived.Laws.BytesArg
import Derived.Laws.MakeOwn
import Derived.Laws.OwnMore
import Derived.Deep.OwnRows
import Derived.Tactics
import Derived.Lib.ConvBytes
import Derived.Laws.Slices
import Derived.KernelRfl
import Derived.RowKit3
import Derived.Deep.LoopGhost
import Derived.Deep.QuietTactic
import Derived.BigQuiet
import Derived.WideLaws
import Derived.Deep.DeepCutAuto
import Derived.Deep.CutBlock
import Derived.Deep.RegionHeld3
import Derived.Laws.Rows
import Derived.Lib.AppendStr
import Derived.ArgAppend
import Derived.Laws.IdiomCopy
import Derived.RowKit
import Derived.OrdersHeld
import Derived.Laws.BitsLemmas
set_option linter.unusedSectionVars false
set_option linter.unusedSimpArgs false
set_option linter.unusedVariables false
set_option maxRecDepth 4000
namespace Go.Proofs.Ytdkkgecdhapfhaa.Ka
open Go Ev
variable {ext : Env} {F n : Nat} {θ : Th}
abbrev Se.it (x : Se) (u r : Int) : It := ⟨x.q, x.t, x.c, x.d, x.ttl, u, r⟩
def kZ (θ : Th) (s : Sv) (now : Int) (x : Se) (r : Int) : Sv × Int :=
  let it := x.it (iw now x.ttl) r
  if vE θ s now it ≠ 0 then (s, vE θ s now it)
  else
    let t := BR s.o x.k ++ [x.k]
    (⟨s.room, (t.take (t.length - s.room.toNat)).foldl rid (upd s.m it), t.drop (t.length - s.room.toNat), s.ch + 1⟩, 0)
structure F5 (θ : Th) (ext : Env) : Prop where
  p0 : ∀ now x r, ext 19 [.one .jo, vi now, Se.v x, vi r] = some ([vi 1], [.one .jo, vi now, x.v, vi r])
  p1 : ∀ (s : Sv) now (x : Se) r, 0 ≤ s.room ∧ s.room ≤ 1000000 → 0 ≤ s.ch ∧ s.ch ≤ 1000000000000 → s.o.length ≤ 100000 → s.m.length ≤ 100000 → x.q.size ≤ 1000000 → x.d.length ≤ 1000000 → (∀ y ∈ x.d, y.size ≤ 1000000) →
    ext 19 [s.v, vi now, x.v, vi r] = some ([vi (kZ θ s now x r).2], [(kZ θ s now x r).1.v, vi now, x.v, vi r])
theorem qP (Q : F5 θ ext) (s : Sv) (now : Int) (x : Se) (r : Int) (h1 : 0 ≤ s.room ∧ s.room ≤ 1000000) (h2 : 0 ≤ s.ch ∧ s.ch ≤ 1000000000000) (h3 : s.o.length ≤ 100000) (h3' : s.m.length ≤ 100000) (h4 : x.q.size ≤ 1000000) (h5 : x.d.length ≤ 1000000) (h6 : ∀ y ∈ x.d, y.size ≤ 1000000) : G ext F (n + 1) 19 [s.v, vi now, x.v, vi r] = some ([vi (kZ θ s now x r).2], [(kZ θ s now x r).1.v, vi now, x.v, vi r]) := (congrFun (qN rfl) _).trans (Q.p1 s now x r h1 h2 h3 h3' h4 h5 h6)
abbrev na : ByteArray := ⟨#[1, 97, 0]⟩
abbrev nb : ByteArray := ⟨#[1, 98, 0]⟩
abbrev XA : ByteArray := ⟨#[1, 99, 0]⟩
abbrev dd : ByteArray := ⟨#[49, 49, 49, 49]⟩
structure Th.Live (θ : Th) : Prop where
  a1 : θ.jB na = true
  a2 : θ.low na = na
  b1 : θ.jB nb = true
  b2 : θ.low nb = nb
  c1 : θ.jB XA = true
  c2 : θ.low XA = XA
  e1 : θ.vS 1 dd = true
  e2 : θ.lw 1 dd = dd
abbrev sa : Se := ⟨na, 1, 1, [dd], 5⟩
abbrev sb : Se := ⟨nb, 1, 1, [dd], 5⟩
abbrev sc : Se := ⟨XA, 1, 1, [dd], 5⟩
abbrev sz : Se := ⟨na, 1, 1, [dd], 0⟩
abbrev t0 : Sv := ⟨2, [], [], 0⟩
abbrev t1 : Sv := ⟨2, [sa.it 6 5], [sa.k], 1⟩
abbrev t2 : Sv := ⟨2, [sa.it 6 5, sb.it 6 3], [sa.k, sb.k], 2⟩
abbrev t3 : Sv := ⟨2, [sa.it 6 5, sb.it 6 3], [sb.k, sa.k], 2⟩
abbrev t4 : Sv := ⟨2, [sa.it 6 5, sc.it 7 1], [sa.k, sc.k], 3⟩
abbrev t5 : Sv := ⟨2, [sc.it 7 1], [sc.k], 4⟩
theorem Kt (L : θ.Live) (ttl : Int) (h : 0 ≤ ttl ∧ ttl < 2147483648) : θ.set na 1 1 [dd] ttl = true := by simp [Th.set, Th.key, Th.dat, L.a1, L.a2, L.e1, L.e2, h]
theorem XB (L : θ.Live) : θ.set nb 1 1 [dd] 5 = true := by simp [Th.set, Th.key, Th.dat, L.b1, L.b2, L.e1, L.e2]
theorem XC (L : θ.Live) : θ.set XA 1 1 [dd] 5 = true := by simp [Th.set, Th.key, Th.dat, L.c1, L.c2, L.e1, L.e2]
theorem lv1 (L : θ.Live) : kZ θ t0 1 sa 5 = (t1, 0) := by simp [kZ, vE, Kt L 5 (by decide), iw, ED, jO, old, upd, BR]
theorem lv2 (L : θ.Live) : kZ θ t1 1 sb 3 = (t2, 0) := by simp [kZ, vE, XB L, iw, ED, jO, old, upd, BR, List.findIdx?_cons]
theorem lv3 (L : θ.Live) : kZ θ t2 2 sa 4 = (t2, 10) := by simp [kZ, vE, Kt L 5 (by decide), iw, ED, jO, old, FU]
theorem lv4 : H8 t2 2 sa.k = (t3, sa.it 6 5, true) := by simp [H8, old, jO, ED, BR]
theorem lv5 (L : θ.Live) : kZ θ t3 2 sc 1 = (t4, 0) := by simp [kZ, vE, XC L, iw, ED, jO, old, upd, BR, rid, List.findIdx?_cons, List.eraseP_cons]
theorem lv6 : sF t4 2 sb.k = (Vl, false) := by simp [sF, old]
theorem lv7 : sF t4 6 sa.k = (Vl, false) := by simp [sF, old, jO, ED]
theorem lv8 (L : θ.Live) : kZ θ t4 2 sz 5 = (t4, 14) := by simp [kZ, vE, Kt L 0 (by decide), iw, ED, jO]
theorem lv9 : xq t4 sa.k = (t5, true) := by simp [xq, old, rid, BR, List.eraseP_cons]
theorem adw : xq t5 sa.k = (t5, false) := by simp [xq, old]
theorem adx (L : θ.Live) : kZ θ t5 (-1) sa 5 = (t5, 1) := by simp [kZ, vE, iw, ED]
theorem Ku (Q : F5 θ ext) (C : qO ext) (L : θ.Live) (hF : 200000000000001 ≤ F) : G ext F (n + 7) 15 [] = some ([vb true], []) := by
  refine gM (cf := c15) rfl ?_
  have n2 : ∀ n, G ext F (n + 1) 16 [vi 2] = some ([t0.v], [vi 2]) := fun n => AY 2
  have n0 : ∀ n, G ext F (n + 1) 16 [vi 0] = some ([.one .jo], [vi 0]) := fun n => AY 0
  have n1 : ∀ n, G ext F (n + 1) 16 [vi 1001] = some ([.one .jo], [vi 1001]) := fun n => AY 1001
  have p1 := fun n => qP (F := F) (n := n) Q t0 1 sa 5 (by decide) (by decide) (by decide) (by decide) (by decide) (by decide) (by decide)
  have p2 := fun n => qP (F := F) (n := n) Q t1 1 sb 3 (by decide) (by decide) (by decide) (by decide) (by decide) (by decide) (by decide)
  have p3 := fun n => qP (F := F) (n := n) Q t2 2 sa 4 (by decide) (by decide) (by decide) (by decide) (by decide) (by decide) (by decide)
  have p4 := fun n => Tf (F := F) (n := n) C t2 2 sa.k (by decide) (by decide) hF
  have p5 := fun n => qP (F := F) (n := n) Q t3 2 sc 1 (by decide) (by decide) (by decide) (by decide) (by decide) (by decide) (by decide)
  have p6 := fun n => sG (F := F) (n := n) C t4 2 sb.k (by decide)
  have p7 := fun n => sG (F := F) (n := n) C t4 6 sa.k (by decide)
  have p8 := fun n => qP (F := F) (n := n) Q t4 2 sz 5 (by decide) (by decide) (by decide) (by decide) (by decide) (by decide) (by decide)
  have p9 := fun n => F4 (F := F) (n := n) C t4 sa.k (by decide) (by decide) hF
  have p10 := fun n => F4 (F := F) (n := n) C t5 sa.k (by decide) (by decide) hF
  have p11 := fun n => qP (F := F) (n := n) Q t5 (-1) sa 5 (by decide) (by decide) (by decide) (by decide) (by decide) (by decide) (by decide)
  have c4 := fun n => xk (ext := ext) (F := F) (n := n) (some t4)
  have c5 := fun n => xk (ext := ext) (F := F) (n := n) (some t5)
  have k4 := fun n => Dc (ext := ext) (F := F) (n := n) C (some t4) (by rintro s ⟨⟩; decide)
  rw [lv1 L] at p1
  rw [lv2 L] at p2
  rw [lv3 L] at p3
  rw [lv4] at p4
  rw [lv5 L] at p5
  rw [lv6] at p6
  rw [lv7] at p7
  rw [lv8 L] at p8
  rw [lv9] at p9
  rw [adw] at p10
  rw [adx L] at p11
  simp only [sD, List.map_cons, List.map_nil, gI, ent, rI, rQ, Sv.v, Se.v, It.v, yN, Nj, Se.it, Se.k, kq] at n2 p1 p2 p3 p4 p5 p6 p7 p8 p9 p10 p11 c4 c5 k4
  simp only [c15, n2, n0, n1, p1, p2, p3, p4, p5, p6, p7, p8, p9, p10, p11, c4, c5, k4, show ((2 : Nat) : Int) = 2 from rfl, go_sem, Nat.reduceAdd, Nat.reduceMul, Nat.reduceEqDiff, Nat.reduceBEq, Nat.reduceMod, Nat.reduceDiv, ↓reduceIte, reduceCtorEq]
end Go.Proofs.Ytdkkgecdhapfhaa.Ka
namespace Go.Proofs.Ytdkkgecdhapfhaa.Ka
open Go Ev
variable {θ : Th}
abbrev ks (l : List It) : List Qn := l.map It.k
theorem Nq {l : List It} {a : Qn} : (rid l a).Sublist l := List.eraseP_sublist ..
theorem Kv (l : List It) (x : It) : (x.k ∉ ks l ∧ upd l x = l ++ [x]) ∨ ∃ a y b, l = a ++ y :: b ∧ y.k = x.k ∧ x.k ∉ ks a ∧ upd l x = a ++ x :: b := by
  unfold upd
  cases h : l.findIdx? fun y => decide (y.k = x.k) with
  | none =>
    refine .inl ⟨fun hm => ?_, rfl⟩
    obtain ⟨y, hy, hk⟩ := List.mem_map.mp hm
    have := List.findIdx?_eq_none_iff.mp h y hy
    simp [hk] at this
  | some i =>
    obtain ⟨hi, hx, hb⟩ := List.findIdx?_eq_some_iff_getElem.mp h
    refine .inr ⟨l.take i, l[i], l.drop (i + 1), ?_, by simpa using hx, fun hm => ?_, ?_⟩
    · rw [List.getElem_cons_drop, List.take_append_drop]
    · obtain ⟨y, hy, hk⟩ := List.mem_map.mp hm
      obtain ⟨j, hj, rfl⟩ := List.mem_take_iff_getElem.mp hy
      have := hb j (by omega)
      simp [hk] at this
    · simp only [List.set_eq_take_append_cons_drop, hi, if_true]
end Go.Proofs.Ytdkkgecdhapfhaa.Ka
set_option maxRecDepth 4000
namespace Go.Proofs.Ytdkkgecdhapfhaa.Ka
open Go Ev
variable {ext : Env} {F n : Nat} {θ : Th}
abbrev Op.v (o : Op) : AV := .agg [.f (.int .i64 o.o), .f (.int .i64 o.now), .f (.str o.q), .f (.int .i64 o.t), .f (.int .i64 o.c), .f (.sl (o.d.map gI)), .f (.int .i64 o.ttl), .f (.int .i64 o.r)]
abbrev Op.se (o : Op) : Se := ⟨o.q, o.t, o.c, o.d, o.ttl⟩
theorem Kw (x : It) : G ext F (n + 1) 23 [x.v] = some ([x.v], [x.v]) := Nn x.q x.t x.c x.d x.ttl x.u x.r
end Go.Proofs.Ytdkkgecdhapfhaa.Ka
set_option maxRecDepth 4000
namespace Go.Proofs.Ytdkkgecdhapfhaa.Ka
open Go Ev
variable {ext : Env} {F n : Nat} {θ : Th}
structure Sz (i : Nat) (s : Sv) : Prop where
  r : 0 ≤ s.room ∧ s.room ≤ 1000000
  c : 0 ≤ s.ch ∧ s.ch ≤ i
  o : s.o.length ≤ i
  m : s.m.length ≤ i
  d : ∀ x ∈ s.m, x.d.length ≤ 1000000
theorem Nr {l : List It} {x : It} : (upd l x).length ≤ l.length + 1 := by
  rcases Kv l x with ⟨-, hu⟩ | ⟨a, y, c, rfl, -, -, hu⟩ <;> rw [hu] <;> simp
theorem Ns {l : List It} {x y : It} (h : y ∈ upd l x) : y = x ∨ y ∈ l := by
  rcases Kv l x with ⟨-, hu⟩ | ⟨a, z, c, rfl, -, -, hu⟩ <;> rw [hu] at h <;> simp at h ⊢
  · rcases h with h | h <;> simp [h]
  · rcases h with h | h | h <;> simp [h]
theorem xu : ∀ {g : List Qn} {l : List It}, (g.foldl rid l).Sublist l
  | [], l => List.Sublist.refl _
  | a :: g, l => (xu (g := g)).trans Nq
theorem Sz.put {i : Nat} {s : Sv} (h : Sz i s) (now : Int) (x : Se) (r : Int) (hx : x.d.length ≤ 1000000) : Sz (i + 1) (kZ θ s now x r).1 := by
  have hc := h.c
  have hq := @AX s.o x.k
  have ho := h.o
  have hm := h.m
  have hu := @Nr s.m (x.it (iw now x.ttl) r)
  unfold kZ
  dsimp only
  split
  · exact ⟨h.r, by show 0 ≤ s.ch ∧ s.ch ≤ _; omega, by show s.o.length ≤ _; omega, by show s.m.length ≤ _; omega, h.d⟩
  · refine ⟨h.r, by show 0 ≤ s.ch + 1 ∧ s.ch + 1 ≤ _; omega, ?_, ?_, fun y hy => ?_⟩
    · show (List.drop _ _).length ≤ _
      rw [List.length_drop, List.length_append, List.length_singleton]; omega
    · exact Nat.le_trans xu.length_le (by omega)
    · rcases Ns (xu.subset hy) with rfl | h1
      · exact hx
      · exact h.d y h1
theorem Ti {l : List Op} {x : Op} (h : yO l = true) (hx : x ∈ l) : x.q.size ≤ 1000000 ∧ x.d.length ≤ 1000000 ∧ ∀ y ∈ x.d, y.size ≤ 1000000 := by
  have h1 := List.all_eq_true.mp h x hx
  unfold oF CZ at h1
  rw [Bool.and_eq_true, List.all_eq_true, decide_eq_true_eq] at h1
  refine ⟨by omega, ?_, fun y hy => ?_⟩
  · cases hd : x.d with
    | nil => simp
    | cons y d =>
      have := h1.1 y (by rw [hd]; simp)
      simp only [Bool.and_eq_true, decide_eq_true_eq] at this
      rw [hd] at this; omega
  · have := h1.1 y hy
    simp only [Bool.and_eq_true, decide_eq_true_eq] at this
    omega
theorem Dg (Q : F5 θ ext) (C : qO ext) (L : θ.Live) (hF : 200000000000001 ≤ F) (l : List Op) (now more : Int) (hl : l.length ≤ 200000000000000) (hd : ∀ x ∈ l, x.d.length ≤ 200000000000000) : G ext F (n + 8) 7 [vl (l.map rO), vi now, vi more] = some ([vb true], [vl (l.map rO), vi now, vi more]) := by
  refine gM (cf := c7) rfl ?_
  have hs := fun n => EG (ext := ext) (F := F) (n := n) l 60 hl hd hF
  have hv := fun n => Ku (F := F) (n := n) Q C L hF
  have hn : ∀ n, G ext F (n + 1) 16 [vi 50] = some ([(⟨50, [], [], 0⟩ : Sv).v], [vi 50]) := fun n => AY 50
  cases hf : yO l && decide ((l.length : Int) ≤ 60) with
  | false =>
    rw [hf] at hs
    simp only [c7, hs, hv, go_sem, Nat.reduceAdd, Nat.reduceMul, Nat.reduceEqDiff, Nat.reduceBEq, Nat.reduceMod, Nat.reduceDiv, ↓reduceIte, reduceCtorEq]
  | true =>
  have ady : yO l = true ∧ l.length ≤ 60 := by
    simp only [Bool.and_eq_true, decide_eq_true_eq] at hf
    exact ⟨hf.1, by omega⟩
  rw [hf] at hs
  simp only [c7, hs, hv, hn, go_sem, Nat.reduceAdd, Nat.reduceMul, Nat.reduceEqDiff, Nat.reduceBEq, Nat.reduceMod, Nat.reduceDiv, ↓reduceIte, reduceCtorEq]
  repeat' (refine cO (fun h => ?_) (fun h => ?_) <;> simp only [h, hs, hv, hn, go_sem, Nat.reduceAdd, Nat.reduceMul, Nat.reduceEqDiff, Nat.reduceBEq, Nat.reduceMod, Nat.reduceDiv, ↓reduceIte, reduceCtorEq])
  case refine_2.refine_2.refine_2.refine_2 =>
    refine Qu l.length (fun x : Nat × Sv => ⟨[(0, PV.c (CV.one (PL.f (FV.sl (List.map rO l))))), (1, PV.c (CV.one (PL.f (FV.int IntKind.i64 now)))), (2, PV.c (CV.one (PL.f (FV.int IntKind.i64 more)))), (7, PV.c (CV.one (PL.ptr 720200 0))), (8, PV.c (CV.one (PL.f (FV.int IntKind.i64 x.1))))], [(720200, Ob.mK [PL.f (FV.int IntKind.i64 x.2.room), PL.mp 720204, PL.f (FV.sl (x.2.o.map rQ)), PL.f (FV.int IntKind.i64 x.2.ch)]), (720204, Ob.map shQ (x.2.m.map ent))]⟩) (fun i x => x.1 = i ∧ Sz i x.2) (by omega) (0, ⟨50, [], [], 0⟩) rfl ⟨rfl, ⟨by decide, by decide, by decide, by decide, by simp⟩⟩ (fun i x hi hP => ?_) (fun x hP => ?_)
    · obtain ⟨i', s⟩ := x
      obtain ⟨rfl, hsz⟩ := hP
      obtain ⟨x, hx, hlt, ht, h0⟩ := at_ hi
      have hn' := nx hi (Nat.le_trans hl (by decide))
      obtain ⟨z1, z2, z3⟩ := Ti ady.1 (List.mem_of_getElem? hx)
      have hc := hsz.c
      have ho := hsz.o
      have hm := hsz.m
      simp only at hsz hc ho hm hi hlt ht h0 hn' ⊢
      have hp := fun n => qP (F := F) (n := n) Q s x.now x.se x.r hsz.r (by omega) (by omega) (by omega) z1 z2 z3
      simp only [List.length_map, List.getElem?_map, hlt, hx, ht, h0, hn', rO, hp, go_sem, Nat.reduceAdd, Nat.reduceMul, Nat.reduceEqDiff, Nat.reduceBEq, Nat.reduceMod, Nat.reduceDiv, ↓reduceIte, reduceCtorEq]
      repeat' (refine cO (fun h => ?_) (fun h => ?_) <;> simp only [h, List.length_map, List.getElem?_map, hlt, hx, ht, h0, hn', rO, hp, go_sem, Nat.reduceAdd, Nat.reduceMul, Nat.reduceEqDiff, Nat.reduceBEq, Nat.reduceMod, Nat.reduceDiv, ↓reduceIte, reduceCtorEq])
      exact ⟨(i' + 1, (kZ θ s x.now x.se x.r).1), rfl, rfl, hsz.put _ _ _ z2⟩
    · obtain ⟨i', s⟩ := x
      obtain ⟨rfl, hsz⟩ := hP
      have hd := @end_ _ l
      have hk := fun n => Dc (ext := ext) (F := F) (n := n) C (some s) (by rintro _ ⟨⟩; have : s.o.length ≤ l.length := hsz.o; omega)
      simp only [sD] at hk
      simp only [List.length_map, hd, hk, go_sem, Nat.reduceAdd, Nat.reduceMul, Nat.reduceEqDiff, Nat.reduceBEq, Nat.reduceMod, Nat.reduceDiv, ↓reduceIte, reduceCtorEq]
      have hb : 0 ≤ now ∧ 0 ≤ more ∧ now ≤ 549755813888 ∧ more ≤ 549755813888 := by
        clear hs hv hn hk
        simp only [decide_eq_false_iff_not] at *
        omega
      have hw : IntKind.i64.wrap (now + more) = now + more := Hy (by omega) (by omega)
      have hso : s.o.length ≤ l.length := hsz.o
      refine uz s.o.length (fun i => ⟨[(1, PV.c (CV.one (PL.f (FV.int IntKind.i64 now)))), (2, PV.c (CV.one (PL.f (FV.int IntKind.i64 more)))), (7, PV.c (CV.one (PL.ptr 720200 0))), (9, PV.c (CV.one (PL.f (FV.sl (List.map rQ s.o))))), (10, PV.c (CV.one (PL.f (FV.int IntKind.i64 i))))], [(720200, Ob.mK [PL.f (FV.int IntKind.i64 s.room), PL.mp 720204, PL.f (FV.sl (s.o.map rQ)), PL.f (FV.int IntKind.i64 s.ch)]), (720204, Ob.map shQ (s.m.map ent))]⟩) (fun _ => True) (by omega) rfl trivial (fun i hi _ => ?_) (fun _ => ?_)
      · obtain ⟨k, hx, hlt, ht, h0⟩ := at_ hi
        have hn' := nx hi (by omega)
        have p1 := fun n => sG (F := F) (n := n) C s now k hsz.d
        have p2 := fun n => sG (F := F) (n := n) C s (now + more) k hsz.d
        unfold sF at p1 p2
        cases ho : old s.m k with
        | none =>
          simp only [ho] at p1 p2
          simp only [List.length_map, List.getElem?_map, hlt, hx, ht, h0, hn', rQ, p1, p2, hw, go_sem, Nat.reduceAdd, Nat.reduceMul, Nat.reduceEqDiff, Nat.reduceBEq, Nat.reduceMod, Nat.reduceDiv, ↓reduceIte, reduceCtorEq]
        | some x =>
          have q1 := fun n => Kw (ext := ext) (F := F) (n := n) x
          have q2 := fun n => SX (ext := ext) (F := F) (n := n) x.q x.t x.c x.d x.ttl x.u x.r x.q x.t x.c x.d x.ttl x.u x.r (Nat.le_trans (hsz.d x (List.mem_of_find?_eq_some ho)) (by decide)) hF
          simp only [decide_true] at q2
          have hc : jO (now + more) x.u = true → jO now x.u = true ∧ decide (x.u ≤ now + more) = false := by
            unfold jO ED; simp only [Bool.and_eq_true, decide_eq_true_eq, decide_eq_false_iff_not]; omega
          cases hl1 : jO now x.u <;> cases hl2 : jO (now + more) x.u
          case false.true => rw [hl1] at hc; exact absurd (hc hl2).1 (by decide)
          all_goals simp only [ho, hl1, hl2, if_true, if_false, Bool.false_eq_true] at p1 p2
          case true.true =>
            have hd3 := (hc hl2).2
            simp only [List.length_map, List.getElem?_map, hlt, hx, ht, h0, hn', rQ, p1, p2, hw, q1, q2, hd3, go_sem, Nat.reduceAdd, Nat.reduceMul, Nat.reduceEqDiff, Nat.reduceBEq, Nat.reduceMod, Nat.reduceDiv, ↓reduceIte, reduceCtorEq]
          all_goals
            simp only [List.length_map, List.getElem?_map, hlt, hx, ht, h0, hn', rQ, p1, p2, hw, go_sem, Nat.reduceAdd, Nat.reduceMul, Nat.reduceEqDiff, Nat.reduceBEq, Nat.reduceMod, Nat.reduceDiv, ↓reduceIte, reduceCtorEq]
      · have hd' := @end_ _ s.o
        have hrk := fun n => Km (ext := ext) (F := F) (n := n) s.o s.o (by omega) hF
        simp only [List.length_map, hd', hk, hrk, hv, go_sem, Nat.reduceAdd, Nat.reduceMul, Nat.reduceEqDiff, Nat.reduceBEq, Nat.reduceMod, Nat.reduceDiv, ↓reduceIte, reduceCtorEq]
        done
end Go.Proofs.Ytdkkgecdhapfhaa.Ka
namespace Go.Proofs.Ytdkkgecdhapfhaa.Ev
open Go Go.RowKit
def tvS : SV → TV
  | .int k n => .f (.int k n)
  | .bool b => .f (.bool b)
  | .str s => .f (.str s)
def L8 (l : List SV) : List AV := l.map fun x => .one (tvS x)
section
variable {P : Program} {Fz : Nat → Prop} {w : World}
theorem F6 {x : SV} {v : Value} {bs : List Nat} : ni Fz w (tvS x) v bs ↔ v = encS x ∧ bs = [] := by
  cases x <;> simp only [tvS, ni, eU, encS]
theorem Dh : ∀ {l : List SV} {vs : List Value} {bs : List Nat}, fK Fz w (L8 l) vs bs → vs = l.map encS ∧ bs = []
  | [], [], _, h => ⟨rfl, h⟩
  | [], _ :: _, _, h => h.elim
  | _ :: _, [], _, h => h.elim
  | x :: l, v :: vs, _, ⟨b1, b2, h1, h2, e⟩ => by
    obtain ⟨e1, e2⟩ := F6.mp h1
    obtain ⟨e3, e4⟩ := Dh (l := l) h2
    subst e1; subst e2; subst e3; subst e4
    exact ⟨rfl, by rw [e]; rfl⟩
theorem xw : ∀ {l : List SV}, fK Fz w (L8 l) (l.map encS) []
  | [] => rfl
  | x :: l => ⟨[], [], F6.mpr ⟨rfl, rfl⟩, xw (l := l), rfl⟩
theorem Sat.wm {f : FuncId} {g : List AV → Option (List AV × List AV)} (h : ∀ gG r, g gG = some r → ∃ ZZ9 rs : List SV, gG = L8 ZZ9 ∧ r = (L8 rs, L8 ZZ9) ∧
    ∀ w : World, Calls P f (ZZ9.map encS).toArray w fun e w' => e = .returned (ret (rs.map encS)) ∧ Below w.heap.size w w') : Sat P f g := by
  intro gG rs ru hg Fz w vals bs ha hnd hap hfz
  obtain ⟨ZZ9, rs', rfl, e, hc⟩ := h gG _ hg
  cases e
  obtain ⟨rfl, rfl⟩ := Dh ha
  refine (hc w).mono fun e w' ⟨h1, hb'⟩ => ?_
  exact ⟨Fz, rs'.map encS, [], [], h1, fun _ h => h, fun b hb => ⟨Nat.lt_of_lt_of_le (hfz b hb) hb'.size, .inl hb⟩, hb'.size, fun b hb _ => hb'.block b hb, ⟨hb'.os, hb'.output⟩, xw, xw, by simp, fun b hb => by simp at hb⟩
def sH : List (FuncId × (List AV → Option (List AV × List AV))) → Env
  | [] => fun _ _ => none
  | (k, g) :: l => fun f gG => if k = f then g gG else sH l f gG
theorem xA : ∀ {l : List (FuncId × (List AV → Option (List AV × List AV)))}, (∀ p ∈ l, Sat P p.1 p.2) → iO P (sH l)
  | [], _ => fun f gG rs ru h => by cases h
  | (k, g) :: l, h => fun f gG rs ru he => by
    unfold sH at he
    split at he
    · rename_i e; subst e; exact h (k, g) (by simp) gG rs ru he
    · exact xA (fun p hp => h p (List.mem_cons_of_mem _ hp)) f gG rs ru he
theorem qQ : ∀ {l : List (FuncId × (List AV → Option (List AV × List AV)))}, (∀ p ∈ l, ∃ fn, P.funcs[p.1]? = some fn ∧ (fn.name == "runtime.NumGoroutine") = false ∧ fn.body.isSome = true) → eO P (sH l)
  | [], _ => fun f gG r h => by cases h
  | (k, g) :: l, h => fun f gG r he => by
    unfold sH at he
    split at he
    · rename_i e; subst e; exact h (k, g) (by simp)
    · exact qQ (fun p hp => h p (List.mem_cons_of_mem _ hp)) f gG r he
end
end Go.Proofs.Ytdkkgecdhapfhaa.Ev
namespace Go.Proofs.Ytdkkgecdhapfhaa.Ev
open Go
def Qw (n : Nat) (ks : List Nat) : Nat → Bool := fun d => decide (d < n) && !ks.contains d
noncomputable def Ky (Γ : Env) (F : Nat) (ca cb : CC) (s : Nat) (D : St → Option St) (cf : CF) (gG : List AV) : Option (List AV × List AV) :=
  if gG.length ≠ cf.np then none else (enter cf.bo 0 [] ⟨[], []⟩ gG).bind fun e => (ev Γ F ca e.2).bind fun p => match p.1 with
    | .jq => (ev Γ F cb ⟨put p.2.tm s (.c (.one .any)), p.2.ob⟩).bind fun q => match q.1 with
      | .ext _ => none
      | _ => (D q.2).bind fun t => (kH t e.1 gG).bind fun b => (slots b.2 cf.res).bind fun l => (mW cf.ro b.2 l).map fun r => (r.1, b.1)
    | _ => none
section
variable {P : Program} {Γ : Env} {bI Fz bK : Nat → Prop} {w0 w w' : World} {bH bs : List Nat} {N : Fr} {F : Nat} {κ jv : Nat → Value} {σ fH σ' : St} {a : Act} {X : Hx}
theorem Ok.reN (h : Ok bI w0 bH N jv σ a w) (N' : Fr) (hn : N'.n = N.n) (hfs : ∀ d, N'.ok d = false → a.tmps.getD d undef = N'.vs d) : Ok bI w0 bH N' jv σ { a with defers := N'.ds } w := by
  obtain ⟨Fz, κ, h, hk⟩ := h
  exact ⟨Fz, κ, ⟨h.tm, h.sz.trans hn.symm, rfl, hfs, h.ob, h.uT, h.pos, h.fz, h.yD, h.big, h.ext, h.kp⟩, hk⟩
theorem EI (hm : P.follows .mixedOrders = true) (heq : ∀ t ∈ X.eqs, lF P t) (mg : iO P Γ) (hC : eO P Γ) {f g : FuncId} {fn gn : Func} {a1 a2 r : Code} {id s c1 c2 t1 t2 : Nat} {p1 p2 : String} {EB EC : Array Edge} (hf : P.funcs[f]? = some fn)
    (hb : fn.body = some (.seq a1 (.seq a2 (.seq (.region id #[{ dst := some s, op := .makeFunc (.func g) #[] #[.tmp c1, .tmp c2], type := t1, pos := p1, after := EB, guard := none }, { dst := none, op := .defer { callee := .value (.tmp s), args := #[], argTypes := #[] }, type := t2, pos := p2, after := EC, guard := none }] false) r))))
    (hg : P.funcs[g]? = some gn) (hgn : (gn.name == "runtime.NumGoroutine") = false) (hgb : gn.body.isSome = true) {cf : CF} {ca cb : CC} {ha hb' ra rb : List Hi}
    (hca : comp P X (Q8 fn.ntmps) (.seq a1 a2) ha = some (ca, ra)) (hcb : comp P X (Qw fn.ntmps [c1, c2]) r hb' = some (cb, rb)) (hr : mE P fn.results.toList = some cf.res) (hnp : cf.np ≤ fn.ntmps) (hs : s < fn.ntmps) (hs1 : c1 ≠ s) (hs2 : c2 ≠ s) {D : St → Option St}
    (hD : ∀ (bI : Nat → Prop) (w0 : World) (bH : List Nat) (N : Fr) (jv : Nat → Value) (σ σ' : St) (a : Act) (w : World), Ok bI w0 bH N jv σ a w → D σ = some σ' → CallsD P g #[a.tmps.getD c1 undef, a.tmps.getD c2 undef] .returning w fun e u w' => u = .returning ∧ (∃ v, e = .returned v) ∧ Ok bI w0 bH N jv σ' a w')
    (F : Nat) : Sat P f (Ky Γ F ca cb s D cf) := by
  intro gG rs ru hE Fz w vals bs Uu hnd hap hfz
  unfold Ky at hE
  split at hE
  · cases hE
  rename_i hlen
  have hlen' : gG.length = cf.np := Decidable.not_not.mp hlen
  have hvl : vals.length = gG.length := Uu.len
  obtain ⟨e, h1, hE⟩ := zbm hE
  obtain ⟨p, h2, hE⟩ := zbm hE
  refine calls_of_wp_defers hf hb ?_
  have hsz : (vals.toArray ++ Array.replicate (fn.ntmps - vals.toArray.size) undef).size = fn.ntmps := by simp; omega
  obtain ⟨jv, hok, g2⟩ := entered (bo := cf.bo) Uu hnd hap hfz hsz h1
  cases hp : p.1 with
  | ext i => rw [hp] at hE; cases hE
  | ret => rw [hp] at hE; cases hE
  | jq =>
  rw [hp] at hE
  obtain ⟨q, h3, hEq⟩ := zbm hE
  obtain ⟨x1, hx1, hx2⟩ := zbm hca
  obtain ⟨x2, hx3, hx4⟩ := zmm hx2
  cases hx4
  obtain ⟨y1, hy1, hy2⟩ := zbm h2
  have hyn : y1.1 = .jq ∧ ev Γ F x2.1 y1.2 = some p := by
    cases hy : y1.1 with
    | jq => rw [hy] at hy2; exact ⟨rfl, hy2⟩
    | ext i => rw [hy] at hy2; cases hy2; cases hp
    | ret => rw [hy] at hy2; cases hy2; cases hp
  obtain ⟨hy3, hy4⟩ := hyn
  refine wp_seq (CJ hm heq mg hC a1 hx1 hok hy1 fun b1 u1 k1 => ?_)
  rw [hy3]
  refine wp_seq (CJ hm heq mg hC a2 hx3 k1 hy4 fun b2 u2 k2 => ?_)
  rw [hp]
  refine wp_seq ?_
  have hmk : ∀ v1 v2 : Value, (Instr.makeFunc (.func g) #[] #[v1, v2]).run P u2 = .ok (.func (.func g) #[] #[v1, v2]) u2 := fun _ _ => rfl
  obtain ⟨v1, hv1⟩ : ∃ v, v = b2.tmps.getD c1 undef := ⟨_, rfl⟩
  obtain ⟨v2, hv2⟩ : ∃ v, v = b2.tmps.getD c2 undef := ⟨_, rfl⟩
  obtain ⟨b3, hb3⟩ : ∃ b, b = b2.put (some s) (.func (.func g) #[] #[v1, v2]) := ⟨_, rfl⟩
  have hdef : b2.defers = [] := by obtain ⟨_, _, hr2, _⟩ := k2; exact hr2.mZ
  have hsz2 : b2.tmps.size = fn.ntmps := by obtain ⟨_, _, hr2, _⟩ := k2; exact hr2.sz
  have hk3 : Ok Fz w bs (Fr.of fn.ntmps) jv ⟨put p.2.tm s (.c (.one .any)), p.2.ob⟩ b3 u2 := by
    obtain ⟨F2, El, hr2, hk2⟩ := k2
    rw [hb3]
    exact ⟨F2, El, hr2.put (by simpa [Fr.of, Q8] using hs) (pv := .c (.one .any)) trivial, hk2⟩
  have hts : ∀ d, d ≠ s → b3.tmps.getD d undef = b2.tmps.getD d undef := fun d hd => by
    rw [hb3]
    simp only [Act.put, Array.getD_eq_getD_getElem?, Array.getElem?_setIfInBounds]
    rw [if_neg (fun e => hd e.symm)]
  obtain ⟨N1, hN1⟩ : ∃ N : Fr, N = ⟨fn.ntmps, [{ target := .fn (.func g) #[v1, v2], args := #[] }], Qw fn.ntmps [c1, c2], fun d h => by simp [Qw] at h; omega, fun d => b3.tmps.getD d undef⟩ := ⟨_, rfl⟩
  have hk4 := hk3.reN N1 (by rw [hN1]; rfl) (fun d _ => by rw [hN1])
  refine wp_region_lit (l := [_, _]) ?_
  unfold wpList
  rw [if_pos (show Region.wanted _ _ = true from rfl)]
  left
  have r1 : (execOp b2.eval { dst := some s, op := .makeFunc (.func g) #[] #[.tmp c1, .tmp c2], type := t1, pos := p1, after := EB, guard := none }).run P u2 = .ok (.value (.func (.func g) #[] #[v1, v2])) u2 := by
    unfold execOp
    simp [Act.eval, hmk, ← hv1, ← hv2]
  unfold Oper.wp
  rw [r1]
  show wpList P _ _ _ (b2.put (some s) _) u2
  rw [← hb3]
  unfold wpList
  rw [if_pos (show Region.wanted _ _ = true from rfl)]
  left
  have r2 : (execOp b3.eval { dst := none, op := .defer { callee := .value (.tmp s), args := #[], argTypes := #[] }, type := t2, pos := p2, after := EC, guard := none }).run P u2 = .ok (.defer { target := .fn (.func g) #[v1, v2], args := #[] }) u2 := by
    have hvs : b3.eval (.tmp s) = .func (.func g) #[] #[v1, v2] := by
      rw [hb3]
      simp only [Act.eval, Act.put, Array.getD_eq_getD_getElem?, Array.getElem?_setIfInBounds]
      rw [if_pos trivial, if_pos (by rw [hsz2]; exact hs)]
      rfl
    unfold execOp resolve
    simp only [hvs]
    simp [Deferred.ofValue]
  unfold Oper.wp
  rw [r2]
  show wpList P _ _ _ { b3 with defers := { target := .fn (.func g) #[v1, v2], args := #[] } :: b3.defers } u2
  unfold wpList
  show r.wp P _ _ _
  have hd3 : b3.defers = [] := by rw [hb3]; exact hdef
  rw [hd3]
  rw [hN1] at hk4
  refine CJ hm heq mg hC r hcb hk4 h3 fun b4 u4 k4 => ?_
  have hkeep : ∀ d, (d = c1 ∨ d = c2) → b4.tmps.getD d undef = b3.tmps.getD d undef := fun d hd => by
    obtain ⟨_, _, hr4, _⟩ := k4
    exact hr4.fs d (by simp [Qw]; rcases hd with rfl | rfl <;> simp)
  have hds : b4.defers = [{ target := .fn (.func g) #[v1, v2], args := #[] }] := by obtain ⟨_, _, hr4, _⟩ := k4; exact hr4.mZ
  have fin : (∃ t, D q.2 = some t ∧ ((kH t e.1 gG).bind fun b => (slots b.2 cf.res).bind fun l => (mW cf.ro b.2 l).map fun r => (r.1, b.1)) = some (rs, ru)) → Leaves P fn b4.tmps (fun e w' => ∃ bK uq b1 b2, e = .returned (ret uq) ∧ Post Fz w vals bs rs ru bK w' uq b1 b2) b4.defers .returning u4 := by
    rintro ⟨t, d1, d2⟩
    rw [hds]
    refine leaves_cons (f := g) (args := #[v1, v2]) (by simp) ?_ ?_
    · show (callFunc g (#[] ++ #[v1, v2])).run P u4 = _
      rw [nS hg hgn hgb]
      simp
    · have hcd := hD Fz w bs _ jv q.2 t b4 u4 k4 d1
      rw [hkeep c1 (.inl rfl), hkeep c2 (.inr rfl), hts c1 hs1, hts c2 hs2, ← hv1, ← hv2] at hcd
      refine hcd.mono ?_
      rintro e' u' w' ⟨rfl, ⟨v, rfl⟩, k5⟩
      show Leaves P fn b4.tmps _ [] (settle .returning) w'
      obtain ⟨_, v', g3, g4⟩ := J2 hr Uu hap hfz g2 b4 w' k5 d2
      exact ⟨v', g3, g4⟩
  cases hq : q.1 with
  | ext i => rw [hq] at hEq; cases hEq
  | jq =>
    rw [hq] at hEq
    obtain ⟨t, d1, d2⟩ := zbm hEq
    exact fin ⟨t, d1, d2⟩
  | ret =>
    rw [hq] at hEq
    obtain ⟨t, d1, d2⟩ := zbm hEq
    exact fin ⟨t, d1, d2⟩
noncomputable def XD (Γ : Env) (F : Nat) (cc : CC) (c1 c2 : Nat) (σ : St) : Option St := match get σ.tm c1, get σ.tm c2 with
  | some x, some y => (ev Γ F cc ⟨[(0, x), (1, y)], σ.ob⟩).bind fun p => match p.1 with
    | .ext _ => none
    | _ => (get p.2.tm 0).map fun z => ⟨[(c1, z)], p.2.ob⟩
  | _, _ => none
theorem Tj (hm : P.follows .mixedOrders = true) (heq : ∀ t ∈ X.eqs, lF P t) (mg : iO P Γ) (hC : eO P Γ) {g : FuncId} {gn : Func} {c : Code} {cc : CC} {h1 h2 : List Hi} {c1 c2 : Nat} (hg : P.funcs[g]? = some gn) (hb : gn.body = some c) (hc : comp P X (Qw gn.ntmps [0]) c h1 = some (cc, h2)) (hr : gn.results = #[]) (hn : 2 ≤ gn.ntmps) (F : Nat)
    (bI : Nat → Prop) (w0 : World) (bH : List Nat) (N : Fr) (jv : Nat → Value) (σ σ' : St) (a : Act) (w : World) (hO : Ok bI w0 bH N jv σ a w) (hd : XD Γ F cc c1 c2 σ = some σ') :
    CallsD P g #[a.tmps.getD c1 undef, a.tmps.getD c2 undef] .returning w fun e u w' => u = .returning ∧ (∃ v, e = .returned v) ∧ Ok bI w0 bH N jv σ' a w' := by
  unfold XD at hd
  split at hd
  · rename_i x y hx hy
    obtain ⟨p, h3, hd⟩ := zbm hd
    obtain ⟨b0, hb0⟩ : ∃ b : Act, b = { tmps := #[a.tmps.getD c1 undef, a.tmps.getD c2 undef] ++ Array.replicate (gn.ntmps - 2) undef, defers := [] } := ⟨_, rfl⟩
    have e0 : b0.tmps.getD 0 undef = a.tmps.getD c1 undef := by rw [hb0]; simp [Array.getD_eq_getD_getElem?, Array.getElem?_append]
    have e1 : b0.tmps.getD 1 undef = a.tmps.getD c2 undef := by rw [hb0]; simp [Array.getD_eq_getD_getElem?, Array.getElem?_append]
    obtain ⟨N', hN'⟩ : ∃ N : Fr, N = ⟨gn.ntmps, [], Qw gn.ntmps [0], fun d h => by simp [Qw] at h; omega, fun d => b0.tmps.getD d undef⟩ := ⟨_, rfl⟩
    have CG : Ok bI w0 bH N' jv ⟨[(0, x), (1, y)], σ.ob⟩ b0 w := by
      obtain ⟨Fz, κ, hr, hk⟩ := hO
      refine ⟨Fz, κ, ⟨fun p hp => ?_, by rw [hb0, hN']; simp; omega, by rw [hb0, hN'], fun d _ => by rw [hN'], hr.ob, hr.uT, hr.pos, hr.fz, hr.yD, hr.big, hr.ext, hr.kp⟩, hk⟩
      simp only [List.mem_cons, List.not_mem_nil, or_false] at hp
      rcases hp with rfl | rfl
      · rw [e0]; exact hr.val hx
      · rw [e1]; exact hr.val hy
    have main : ∀ b u, Ok bI w0 bH N' jv p.2 b u → (∃ z, get p.2.tm 0 = some z ∧ σ' = ⟨[(c1, z)], p.2.ob⟩) → b.defers = [] ∧ ∃ v, (results gn b.tmps).run P u = .ok v u ∧ (∃ v', Ending.returned v = .returned v') ∧ Ok bI w0 bH N jv σ' a u := by
      rintro b u ⟨Fz, κ, hr2, hk2⟩ ⟨z, hz, rfl⟩
      refine ⟨by have := hr2.mZ; rw [this, hN'], .tuple #[], ?_, ⟨_, rfl⟩, ?_⟩
      · unfold results
        rw [hr]
        simp
      · obtain ⟨_, _, hr, _⟩ := hO
        refine ⟨Fz, κ, ⟨fun p hp => ?_, hr.sz, hr.mZ, hr.fs, hr2.ob, hr2.uT, hr2.pos, hr2.fz, hr2.yD, hr2.big, hr2.ext, hr2.kp⟩, hk2⟩
        simp only [List.mem_cons, List.not_mem_nil, or_false] at hp
        subst hp
        have h5 : b.tmps.getD 0 undef = N'.vs 0 := hr2.fs 0 (by rw [hN']; simp [Qw])
        have h6 : N'.vs 0 = a.tmps.getD c1 undef := by rw [hN']; exact e0
        show jr Fz κ u z (a.tmps.getD c1 undef)
        rw [← h6, ← h5]
        exact hr2.val hz
    refine callsD_of_wp hg hb ?_
    have hst : ({ tmps := #[a.tmps.getD c1 undef, a.tmps.getD c2 undef] ++ Array.replicate (gn.ntmps - (#[a.tmps.getD c1 undef, a.tmps.getD c2 undef] : Array Value).size) undef, defers := [] } : Act) = b0 := by rw [hb0]; rfl
    rw [hst]
    rw [hN'] at CG
    refine CJ hm heq mg hC c hc CG h3 fun b u hk => ?_
    rw [← hN'] at hk
    cases hp : p.1 with
    | ext i => rw [hp] at hd; cases hd
    | jq =>
      rw [hp] at hd
      obtain ⟨z, hz, rfl⟩ := zmm hd
      exact main b u hk ⟨z, hz, rfl⟩
    | ret =>
      rw [hp] at hd
      obtain ⟨z, hz, rfl⟩ := zmm hd
      exact main b u hk ⟨z, hz, rfl⟩
  · cases hd
end
end Go.Proofs.Ytdkkgecdhapfhaa.Ev
set_option maxRecDepth 4000
namespace Go.Proofs.Ytdkkgecdhapfhaa.Ev
open Go
section
variable {Γ : Env} {F s c1 c2 : Nat} {ca cb cc : CC} {D : St → Option St} {cf : CF} {gG : List AV} {σ : St}
@[go_sem ↓] theorem adz {k : List AV × List AV → Prop} {u : Tok k} : W k u (Ky Γ F ca cb s D cf gG) ↔ gG.length = cf.np ∧ W (fun e => W (fun p => p.1 = .jq ∧ W (fun t => W (fun q => (∀ id, q.1 ≠ .ext id) ∧ W (fun t => W (fun b => W (fun l => W (fun r => k (r.1, b.1)) ⟨⟩ (mW cf.ro b.2 l)) ⟨⟩ (slots b.2 cf.res)) ⟨⟩ (kH t e.1 gG)) ⟨⟩ (D q.2)) ⟨⟩ (ev Γ F cb t)) ⟨⟩ (some ⟨put p.2.tm s (.c (.one .any)), p.2.ob⟩)) ⟨⟩ (ev Γ F ca e.2)) ⟨⟩ (enter cf.bo 0 [] ⟨[], []⟩ gG) := by
  simp only [Ky, dR, dG, bB, bJ, ne_eq, Decidable.not_not]
  refine and_congr Iff.rfl (dH fun e => dH fun p => ?_)
  obtain ⟨o, σ'⟩ := p
  cases o with
  | jq =>
    simp only [true_and, bB]
    refine dH fun q => ?_
    obtain ⟨o, σ'⟩ := q
    cases o with
    | ext i => simp [jV]
    | jq => simp only [reduceCtorEq, not_false_eq_true, implies_true, true_and, bB, bY]
    | ret => simp only [reduceCtorEq, not_false_eq_true, implies_true, true_and, bB, bY]
  | ext i => simp [jV]
  | ret => simp [jV]
def ds0 (ob : List (Nat × Ob)) : Option PV → Option PV → Option St
  | some x, some y => some ⟨[(0, x), (1, y)], ob⟩
  | _, _ => none
@[go_sem] theorem XE {ob : List (Nat × Ob)} {x y : PV} : ds0 ob (some x) (some y) = some ⟨[(0, x), (1, y)], ob⟩ := rfl
@[go_sem ↓] theorem aeX {k : St → Prop} {u : Tok k} : W k u (XD Γ F cc c1 c2 σ) ↔ W (fun t => W (fun p => (∀ id, p.1 ≠ .ext id) ∧ W (fun z => k ⟨[(c1, z)], p.2.ob⟩) ⟨⟩ (get p.2.tm 0)) ⟨⟩ (ev Γ F cc t)) ⟨⟩ (ds0 σ.ob (get σ.tm c1) (get σ.tm c2)) := by
  unfold XD ds0
  cases h1 : get σ.tm c1 with
  | none => simp only [dR, jV]
  | some x =>
    cases h2 : get σ.tm c2 with
    | none => simp only [dR, jV, bJ]
    | some y =>
      simp only [dR, bJ, bB]
      refine dH fun p => ?_
      obtain ⟨o, σ'⟩ := p
      cases o with
      | ext i => simp [jV]
      | jq => simp only [ne_eq, reduceCtorEq, not_false_eq_true, implies_true, true_and, bY]
      | ret => simp only [ne_eq, reduceCtorEq, not_false_eq_true, implies_true, true_and, bY]
end
end Go.Proofs.Ytdkkgecdhapfhaa.Ev
namespace Go.Proofs.Ytdkkgecdhapfhaa.Ka
open Go Ev
variable {ext : Env} {F n : Nat} {θ : Th}
def pA : CC := (.seq (.reg [⟨(some 4), none, (.box 25 (.t 0))⟩, ⟨(some 6), none, (.box 35 (.t 2))⟩, ⟨(some 8), none, (.alloc 38 [(.f (.int .i64 0))])⟩] [1, 3, 4, 6, 8]) (.rA [⟨⟨(some 14), none, (.load 5 true (.t 6))⟩, [200000]⟩, ⟨⟨(some 15), none, (.mv (.t 1))⟩, [200000]⟩, ⟨⟨(some 16), none, (.fa 4 (.t 6))⟩, [200000]⟩, ⟨⟨(some 17), none, (.load 1 false (.t 16))⟩, [200000]⟩, ⟨⟨(some 18), none, (.call false 62 [(.t 15), (.t 17)])⟩, [200000]⟩, ⟨⟨(some 19), none, (.mv (.t 3))⟩, [200000]⟩, ⟨⟨(some 20), none, (.build [(.f (.str ⟨#[]⟩)), (.f (.int .i64 0)), (.f (.int .i64 0)), .fG, (.f (.int .i64 0)), (.f (.int .i64 0)), (.f (.int .i64 0))] [⟨0, ⟨5, (.t 14)⟩⟩, ⟨5, ⟨1, (.t 18)⟩⟩, ⟨6, ⟨1, (.t 19)⟩⟩])⟩, [200000]⟩, ⟨⟨(some 9), none, (.alloc 46 [(.f (.str ⟨#[]⟩)), (.f (.int .i64 0)), (.f (.int .i64 0)), .fG, (.f (.int .i64 0)), (.f (.int .i64 0)), (.f (.int .i64 0))])⟩, []⟩] [] [] [⟨none, none, (.store 7 (.t 9) (.t 20))⟩] [1, 4, 6, 8, 9]))
def pB : CC := (.seq (.seq (.reg [⟨(some 22), none, (.load 1 false (.t 4))⟩, ⟨(some 23), none, (.mv (.t 1))⟩, ⟨(some 24), none, (.load 7 true (.t 9))⟩, ⟨(some 25), none, (.call false 64 [(.t 22), (.t 23), (.t 24)])⟩, ⟨none, none, (.store 1 (.t 8) (.t 25))⟩] [4, 6, 8, 9]) (.seq (.reg [⟨(some 26), none, (.load 1 false (.t 8))⟩, ⟨(some 27), none, (.cmp .ne (.t 26) (.k (.one (.f (.int .i64 0)))))⟩] [4, 6, 8, 9, 27]) (.cond (.t 27) (.seq (.reg [⟨(some 28), none, (.load 1 false (.t 8))⟩, ⟨none, none, (.store 1 (.t 8) (.t 28))⟩] [4, 8]) .ret) .skip))) (.seq (.rA [⟨⟨(some 29), none, (.load 1 false (.t 4))⟩, []⟩, ⟨⟨(some 30), none, (.kW (.t 29))⟩, []⟩, ⟨⟨(some 31), none, (.fa 1 (.t 30))⟩, []⟩, ⟨⟨(some 32), none, (.load 1 false (.t 31))⟩, []⟩, ⟨⟨(some 33), none, (.fa 0 (.t 6))⟩, []⟩, ⟨⟨(some 34), none, (.load 3 true (.t 33))⟩, []⟩, ⟨⟨(some 35), none, (.load 7 true (.t 9))⟩, []⟩, ⟨⟨(some 36), none, (.call false 65 [(.t 35)])⟩, []⟩] [] [] [⟨none, none, (.Aa (.agg [.str, (.int .i64), (.int .i64)]) (.t 32) (.t 34) (.t 36))⟩] [4, 6, 8]) (.seq (.rA [⟨⟨(some 38), none, (.load 1 false (.t 4))⟩, []⟩, ⟨⟨(some 39), none, (.kW (.t 38))⟩, []⟩, ⟨⟨(some 40), none, (.fa 2 (.t 39))⟩, []⟩, ⟨⟨(some 41), none, (.load 1 false (.t 40))⟩, []⟩, ⟨⟨(some 42), none, (.fa 0 (.t 6))⟩, []⟩, ⟨⟨(some 43), none, (.load 3 true (.t 42))⟩, []⟩, ⟨⟨(some 44), none, (.call false 67 [(.t 41), (.t 43)])⟩, []⟩, ⟨⟨(some 45), none, (.load 1 false (.t 4))⟩, []⟩, ⟨⟨(some 46), none, (.kW (.t 45))⟩, []⟩, ⟨⟨(some 47), none, (.fa 0 (.t 46))⟩, []⟩, ⟨⟨(some 48), none, (.load 1 false (.t 47))⟩, []⟩, ⟨⟨(some 49), none, (.call false 66 [(.t 44), (.t 48)])⟩, []⟩, ⟨⟨(some 37), none, (.mv (.t 49))⟩, []⟩, ⟨⟨(some 50), none, (.ext (.t 37) 0)⟩, []⟩, ⟨⟨(some 51), none, (.ext (.t 37) 1)⟩, []⟩, ⟨⟨(some 10), none, (.mv (.t 50))⟩, []⟩] [] [] [⟨(some 11), none, (.mv (.t 51))⟩] [4, 8, 10, 11]) (.seq (.seq (.reg [⟨(some 52), none, (.mv (.t 11))⟩, ⟨(some 53), none, (.iZ (.t 52))⟩, ⟨(some 54), none, (.mv (.k (.one (.f (.int .i64 0)))))⟩] [4, 8, 10, 52, 53, 54]) (.block 0 (.loop [4, 8, 10, 52, 53, 54] [20201, 20205, 20208, 100000, 180000, 530002, 530004, 530006, 530008, 530010, 530012, 530014, 530016, 530202, 530204, 530206, 530208, 530210, 530212, 530214, 530216, 530402, 530404, 530406, 530408, 530410, 530412, 530414, 530416, 530602, 530604, 530606, 530608, 530610, 530612, 530614, 530616, 530802, 530804, 530806, 530808, 530810, 530812, 530814, 530816, 531002, 531004, 531006, 531008, 531010, 531012, 531014, 531016, 1000200, 1002200] [] (.seq (.reg [⟨(some 55), none, (.cmp .lt (.t 54) (.t 53))⟩] [4, 8, 10, 52, 53, 54, 55]) (.seq (.cond (.t 55) .skip (.exit 0)) (.seq (.block 1 (.seq (.reg [⟨(some 56), none, (.ia 3 (.t 52) (.t 54))⟩, ⟨(some 57), none, (.load 3 true (.t 56))⟩, ⟨(some 13), none, (.alloc 32 [(.f (.str ⟨#[]⟩)), (.f (.int .i64 0)), (.f (.int .i64 0))])⟩, ⟨none, none, (.store 3 (.t 13) (.t 57))⟩] [4, 8, 10, 13, 52, 53, 54]) (.rA [⟨⟨(some 58), none, (.load 1 false (.t 4))⟩, []⟩, ⟨⟨(some 59), none, (.kW (.t 58))⟩, []⟩, ⟨⟨(some 60), none, (.fa 1 (.t 59))⟩, []⟩, ⟨⟨(some 61), none, (.load 1 false (.t 60))⟩, []⟩, ⟨⟨(some 62), none, (.load 3 true (.t 13))⟩, []⟩] [] [] [⟨none, none, (.del (.agg [.str, (.int .i64), (.int .i64)]) (.t 61) (.t 62))⟩] [4, 8, 10, 52, 53, 54]))) (.reg [⟨(some 63), none, (.ar .add (.t 54) (.k (.one (.f (.int .i64 1)))))⟩, ⟨(some 54), none, (.mv (.t 63))⟩] [4, 8, 10, 52, 53, 54]))))))) (.seq (.reg [⟨(some 64), none, (.load 1 false (.t 4))⟩, ⟨(some 65), none, (.mv (.t 10))⟩, ⟨(some 66), none, (.kW (.t 64))⟩, ⟨(some 67), none, (.fa 2 (.t 66))⟩, ⟨none, none, (.store 1 (.t 67) (.t 65))⟩] [4, 8]) (.seq (.reg [⟨none, none, (.store 1 (.t 8) (.k (.one (.f (.int .i64 0)))))⟩] [4, 8]) .ret))))))
def Kz : CF := ⟨4, [(.cell 8 1 false)], [], [], .skip⟩
def XF : CF := ⟨2, [], [], [], (.seq (.reg [⟨(some 2), none, (.load 1 false (.t 0))⟩, ⟨(some 3), none, (.cmp .eq (.t 2) (.k (.one (.f (.int .i64 0)))))⟩] [0, 1, 3]) (.cond (.t 3) (.reg [⟨(some 4), none, (.load 1 false (.t 1))⟩, ⟨(some 5), none, (.kW (.t 4))⟩, ⟨(some 6), none, (.fa 3 (.t 5))⟩, ⟨(some 7), none, (.load 1 false (.t 6))⟩, ⟨(some 8), none, (.ar .add (.t 7) (.k (.one (.f (.int .i64 1)))))⟩, ⟨(some 9), none, (.kW (.t 4))⟩, ⟨(some 10), none, (.fa 3 (.t 9))⟩, ⟨none, none, (.store 1 (.t 10) (.t 8))⟩] [0]) .skip))⟩
noncomputable abbrev uW (ext : Env) (F n : Nat) : List AV → Option (List AV × List AV) := Ky (G ext F n) F pA pB 21 (XD (G ext F n) F XF.body 8 4) Kz
theorem KA (now : Int) (x : Se) (r : Int) : uW ext F (n + 9) [.one .jo, vi now, x.v, vi r] = some ([vi 1], [.one .jo, vi now, x.v, vi r]) := by
  refine J5 ?_
  have hu := fun n => CX (ext := ext) (F := F) (n := n) now x.ttl
  have hm := fun n => Kr (ext := ext) (F := F) (n := n) now (x.it (iw now x.ttl) r)
  simp only [uW, pA, pB, Kz, XF, hu, hm, Int.reduceEq, go_sem, Nat.reduceAdd, Nat.reduceMul, Nat.reduceEqDiff, Nat.reduceBEq, Nat.reduceMod, Nat.reduceDiv, ↓reduceIte, reduceCtorEq]
theorem KC (T : θ.Ok ext) (C : qO ext) (s : Sv) (now : Int) (x : Se) (r : Int) (hF : 200000000000001 ≤ F) (h1 : 0 ≤ s.room ∧ s.room ≤ 1000000) (h2 : 0 ≤ s.ch ∧ s.ch ≤ 1000000000000) (h3 : s.o.length ≤ 100000) (h4 : x.q.size ≤ 1000000) (h5 : x.d.length ≤ 1000000) (h6 : ∀ y ∈ x.d, y.size ≤ 1000000) : uW ext F (n + 9) [s.v, vi now, x.v, vi r] = some ([vi (kZ θ s now x r).2], [(kZ θ s now x r).1.v, vi now, x.v, vi r]) := by
  refine J5 ?_
  have hu := fun n => CX (ext := ext) (F := F) (n := n) now x.ttl
  have hm := fun n => Tg (F := F) (n := n) T s now (x.it (iw now x.ttl) r) hF h4 h5 h6
  by_cases h0 : vE θ s now (x.it (iw now x.ttl) r) = 0
  · have hw : IntKind.i64.wrap (s.ch + 1) = s.ch + 1 := Hy (by omega) (by omega)
    have hcl := fun n => Df (ext := ext) (F := F) (n := n) C (x.it (iw now x.ttl) r) h5
    have hq := @AX s.o x.k
    have ht := fun n => C9 (ext := ext) (F := F) (n := n) C s.o x.k (by omega) hF
    have hc := fun n => Tc (ext := ext) (F := F) (n := n) C (BR s.o x.k ++ [x.k]) s.room (by simp; omega) (by omega) hF
    have hup := Kq s.m (x.it (iw now x.ttl) r)
    simp only [kq, rI] at hup
    rw [h0] at hm
    have he : kZ θ s now x r = (⟨s.room, ((BR s.o x.k ++ [x.k]).take ((BR s.o x.k ++ [x.k]).length - s.room.toNat)).foldl rid (upd s.m (x.it (iw now x.ttl) r)), (BR s.o x.k ++ [x.k]).drop ((BR s.o x.k ++ [x.k]).length - s.room.toNat), s.ch + 1⟩, 0) := by
      unfold kZ
      simp only [ne_eq, h0, not_true_eq_false, if_false]
    rw [he]
    generalize hqt : BR s.o x.k ++ [x.k] = t at ht hc ⊢
    generalize t.drop (t.length - s.room.toNat) = td at hc ⊢
    generalize htt : t.take (t.length - s.room.toNat) = tt at hc ⊢
    have htl : tt.length ≤ 1000000 := by rw [← htt, List.length_take, ← hqt, List.length_append, List.length_singleton]; omega
    generalize hM : upd s.m (x.it (iw now x.ttl) r) = M at hup ⊢
    simp only [uW, pA, pB, Kz, XF, hu, hm, Int.reduceEq, hcl, ht, hc, hup, hw, go_sem, Nat.reduceAdd, Nat.reduceMul, Nat.reduceEqDiff, Nat.reduceBEq, Nat.reduceMod, Nat.reduceDiv, ↓reduceIte, reduceCtorEq]
    refine uz tt.length (fun i => ⟨[(4, PV.c (CV.one (PL.ptr 100000 0))), (8, PV.c (CV.one (PL.ptr 180000 0))), (10, PV.c (CV.one (PL.f (FV.sl (List.map rQ td))))), (52, PV.c (CV.one (PL.f (FV.sl (List.map rQ tt))))), (53, PV.c (CV.one (PL.f (FV.int IntKind.i64 ↑(List.map rQ tt).length)))), (54, PV.c (CV.one (PL.f (FV.int IntKind.i64 i))))], [(20201, Ob.mK [PL.f (FV.int IntKind.i64 s.room), PL.mp 530004, PL.f (FV.sl (List.map rQ s.o)), PL.f (FV.int IntKind.i64 s.ch)]), (100000, Ob.mK [PL.ptr 20201 0]), (180000, Ob.mK [PL.f (FV.int IntKind.i64 0)]), (530004, Ob.map shQ (((tt.take i).foldl rid M).map ent))]⟩) (fun _ => True) (by omega) rfl trivial (fun i hi _ => ?_) (fun _ => ?_)
    · obtain ⟨k, hx, hlt, hit, h00⟩ := at_ hi
      have hn' := nx hi (by omega)
      have hdl := Db ((tt.take i).foldl rid M) k
      have hfo : (tt.take (i + 1)).foldl rid M = rid ((tt.take i).foldl rid M) k := by rw [List.take_add_one, hx, List.foldl_append]; rfl
      simp only [List.length_map, List.getElem?_map, hlt, hx, hit, h00, hn', rQ, hdl, go_sem, Nat.reduceAdd, Nat.reduceMul, Nat.reduceEqDiff, Nat.reduceBEq, Nat.reduceMod, Nat.reduceDiv, ↓reduceIte, reduceCtorEq]
      rw [hfo]
    · have hd := @end_ _ tt
      simp only [List.length_map, hd, hw, List.take_length, Int.reduceEq, go_sem, Nat.reduceAdd, Nat.reduceMul, Nat.reduceEqDiff, Nat.reduceBEq, Nat.reduceMod, Nat.reduceDiv, ↓reduceIte, reduceCtorEq]
      done
  · have he : kZ θ s now x r = (s, vE θ s now (x.it (iw now x.ttl) r)) := by
      unfold kZ
      simp only [ne_eq, h0, not_false_eq_true, if_true]
    rw [he]
    simp only [uW, pA, pB, Kz, XF, hu, hm, Int.reduceEq, h0, go_sem, Nat.reduceAdd, Nat.reduceMul, Nat.reduceEqDiff, Nat.reduceBEq, Nat.reduceMod, Nat.reduceDiv, ↓reduceIte, reduceCtorEq]
end Go.Proofs.Ytdkkgecdhapfhaa.Ka
namespace Go.Proofs.Ytdkkgecdhapfhaa.Ev
open Go
def EJ (P : Program) : List Field → Nat → Bool
  | [], _ => true
  | f :: fs, i => (f.name != "_") && (f.offset == i) && (D7 P f.type).isSome && EJ P fs (i + 1)
def okT (P : Program) (t : TypeId) : Bool := !P.eqGuardType P.depth t && match P.underlying t with
  | some (.struct fs) => !P.stoodInHeld t && EJ P fs.toList 0
  | some (.int _) => true
  | some .string => true
  | some .bool => true
  | _ => false
section
variable {P : Program} {t : TypeId} {w : World}
theorem uD {k : SK} (h : D7 P t = some k) : (∃ i, P.underlying t = some (.int i) ∧ k = .int i) ∨ (P.underlying t = some .bool ∧ k = .bool) ∨ (P.underlying t = some .string ∧ k = .str) := by
  unfold D7 at h
  split at h <;> simp_all
theorem Qx {d : Nat} {k : SK} (h : D7 P t = some k) {a b : SV} (ha : a.sk = k) (hb : b.sk = k) : (Op.equalIn (d + 1) t (encS a) (encS b)).run P w = .ok (decide (a = b)) w := by
  rcases uD h with ⟨i, hu, rfl⟩ | ⟨hu, rfl⟩ | ⟨hu, rfl⟩
  · cases a <;> cases b <;> simp_all [SV.sk, encS, Op.equalIn, run_underlying hu]
    rw [Bool.eq_iff_iff]; simp
  · cases a <;> cases b <;> simp_all [SV.sk, encS, Op.equalIn, run_underlying hu]
    rw [Bool.eq_iff_iff]; simp
  · cases a <;> cases b <;> simp_all [SV.sk, encS, Op.equalIn, run_underlying hu]
    exact Mq.uf _ _
theorem AZ {k : SK} (h : D7 P t = some k) {xs : Array Value} {o : Nat} {v : Value} (hx : xs[o]? = some v) : (part t xs o).run P w = .ok v w := by
  rcases uD h with ⟨i, hu, rfl⟩ | ⟨hu, rfl⟩ | ⟨hu, rfl⟩ <;> simp [part, isAgg, run_underlying hu, hx]
theorem zC {d : Nat} {xs ys : Array Value} : ∀ {fs : List Field} {i : Nat} {ks : List SK} {ZZ9 bs : List SV}, EJ P fs i = true → Hf P fs = some ks → ZZ9.map SV.sk = ks → bs.map SV.sk = ks → (∀ j : Nat, xs[i + j]? = ZZ9[j]?.map encS) → (∀ j : Nat, ys[i + j]? = bs[j]?.map encS) →
    (Op.eqFields (d + 1) xs ys fs).run P w = .ok (decide (ZZ9 = bs)) w
  | [], i, ks, ZZ9, bs, _, hk, ha, hb, _, _ => by
    cases hk
    simp only [List.map_eq_nil_iff] at ha hb
    subst ha; subst hb
    simp [Op.eqFields]
  | f :: fs, i, ks, ZZ9, bs, hf, hk, ha, hb, hx, hy => by
    obtain ⟨k, h1, h2⟩ := zbm hk
    obtain ⟨l, h3, rfl⟩ := zmm h2
    unfold EJ at hf
    simp only [Bool.and_eq_true, bne_iff_ne, ne_eq, beq_iff_eq] at hf
    obtain ⟨⟨⟨f1, f2⟩, f3⟩, f4⟩ := hf
    cases ZZ9 with
    | nil => simp at ha
    | cons a ZZ9 =>
    cases bs with
    | nil => simp at hb
    | cons b bs =>
    simp only [List.map_cons, List.cons.injEq] at ha hb
    have ex : xs[f.offset]? = some (encS a) := by rw [f2]; simpa using hx 0
    have ey : ys[f.offset]? = some (encS b) := by rw [f2]; simpa using hy 0
    have ih := zC (d := d) f4 h3 ha.2 hb.2 (fun j => by have := hx (j + 1); rw [show i + 1 + j = i + (j + 1) from by omega]; simpa using this) (fun j => by have := hy (j + 1); rw [show i + 1 + j = i + (j + 1) from by omega]; simpa using this)
    unfold Op.eqFields
    rw [if_pos f1]
    simp only [Sem.run_bind, AZ h1 ex, AZ h1 ey, Result.andThen_ok, Qx h1 ha.1 hb.1, List.cons.injEq]
    by_cases hab : a = b
    · subst hab; simp [ih]
    · simp [hab]
theorem Nt {e : Bool} {n : Nat} {k : SK} (h : D7 P t = some k) {a : SV} (ha : a.sk = k) : (Instr.checkKey e (n + 1) t (encS a)).run P w = .ok () w := by
  rcases uD h with ⟨i, hu, rfl⟩ | ⟨hu, rfl⟩ | ⟨hu, rfl⟩ <;> cases a <;> simp_all [SV.sk, encS, Instr.checkKey, run_underlying hu]
theorem Di {e : Bool} {n : Nat} {cs : Array Value} : ∀ {fs : List Field} {i : Nat} {ks : List SK} {ZZ9 : List SV}, EJ P fs i = true → Hf P fs = some ks → ZZ9.map SV.sk = ks → (∀ j : Nat, cs[i + j]? = ZZ9[j]?.map encS) →
    (forIn fs PUnit.unit (fun (f : Field) (_ : PUnit) => (do
      if f.name ≠ "_" then Instr.checkKey e (n + 1) f.type (← part f.type cs f.offset)
      pure (ForInStep.yield PUnit.unit) : Sem (ForInStep PUnit)))).run P w = .ok PUnit.unit w
  | [], i, ks, ZZ9, _, _, _, _ => by simp
  | f :: fs, i, ks, ZZ9, hf, hk, ha, hx => by
    obtain ⟨k, h1, h2⟩ := zbm hk
    obtain ⟨l, h3, rfl⟩ := zmm h2
    unfold EJ at hf
    simp only [Bool.and_eq_true, bne_iff_ne, ne_eq, beq_iff_eq] at hf
    obtain ⟨⟨⟨f1, f2⟩, f3⟩, f4⟩ := hf
    cases ZZ9 with
    | nil => simp at ha
    | cons a ZZ9 =>
    simp only [List.map_cons, List.cons.injEq] at ha
    have ex : cs[f.offset]? = some (encS a) := by rw [f2]; simpa using hx 0
    have ih := Di (e := e) (n := n) f4 h3 ha.2 (fun j => by have := hx (j + 1); rw [show i + 1 + j = i + (j + 1) from by omega]; simpa using this)
    rw [List.forIn_cons]
    simp only [if_pos f1, Sem.run_bind, AZ h1 ex, Result.andThen_ok, Nt h1 ha.1, Sem.run_pure]
    exact ih
theorem Nu {e : Bool} {n : Nat} {fs : Array Field} {ks : List SK} {ZZ9 : List SV} (hu : P.underlying t = some (.struct fs)) (hf : EJ P fs.toList 0 = true) (hk : Hf P fs.toList = some ks) (ha : ZZ9.map SV.sk = ks) : (Instr.checkKey e (n + 2) t (.agg (ZZ9.map encS).toArray)).run P w = .ok () w := by
  have := Di (w := w) (e := e) (n := n) hf hk ha (cs := (ZZ9.map encS).toArray) (fun j => by simp)
  unfold Instr.checkKey
  simp only [Sem.run_bind, run_underlying hu, Result.andThen_ok]
  rw [← Array.forIn_toList]
  simp only [ne_eq, ite_not] at this ⊢
  simp at this ⊢
  rw [this]
  rfl
theorem Nv {n : Nat} {ZZ9 : List SV} (hs : ∀ (n : Nat) (a : SV), Instr.sameBits n (encS a) (encS a) = true) : Instr.sameBits (n + 1) (.agg (ZZ9.map encS).toArray) (.agg (ZZ9.map encS).toArray) = true := by
  unfold Instr.sameBits
  simp only [beq_self_eq_true, Bool.true_and, List.all_eq_true]
  intro p hp
  have : ∀ (l : List Value) (p : Value × Value), p ∈ l.zip l → p.1 = p.2 ∧ p.1 ∈ l := by
    intro l
    induction l with
    | nil => intro p hp; simp at hp
    | cons x l ih =>
      intro p hp
      rcases List.mem_cons.mp hp with rfl | hp
      · exact ⟨rfl, by simp⟩
      · exact ⟨(ih p hp).1, List.mem_cons_of_mem _ (ih p hp).2⟩
  obtain ⟨h1, h2⟩ := this _ _ hp
  obtain ⟨x, y⟩ := p
  simp only at h1 h2
  subst h1
  simp only [List.mem_map] at h2
  obtain ⟨s, _, rfl⟩ := h2
  exact hs _ s
theorem F7 {n : Nat} (a : SV) : Instr.sameBits n (encS a) (encS a) = true := by
  cases a <;> simp [encS, Instr.sameBits]
  rw [Mq.uf]; simp
theorem Dj {ks : List SK} {a : KV} (h : a.ks = .agg ks) : ∃ ZZ9, a = .agg ZZ9 ∧ ZZ9.map SV.sk = ks := by
  cases a with
  | one x => cases h
  | agg ZZ9 => exact ⟨ZZ9, rfl, by simpa [KV.ks] using h⟩
theorem zD {k : SK} {a : KV} (h : a.ks = .one k) : ∃ x, a = .one x ∧ x.sk = k := by
  cases a with
  | one x => exact ⟨x, rfl, by simpa [KV.ks] using h⟩
  | agg ZZ9 => cases h
theorem Nw {n : Nat} {d : TypeDesc} (hu : P.underlying t = some d) (hd : ∀ ms, d ≠ .interface ms) : (Op.eqGuardIn (n + 1) t .nilIface .nilIface).run P w = .ok false w := by
  unfold Op.eqGuardIn
  simp only [Sem.run_bind, run_underlying hu, Result.andThen_ok]
  cases d <;> first | rfl | exact absurd rfl (hd _)
theorem A8 {d : TypeDesc} (hu : P.underlying t = some d) (hd : ∀ ms, d ≠ .interface ms) (w : World) : (Op.eqGuardIn Op.maxDepth t .nilIface .nilIface).run P w = .ok false w := by
  unfold Op.maxDepth
  exact Nw hu hd
set_option maxHeartbeats 2000000 in
theorem Tk (h : okT P t = true) : lF P t := by
  unfold okT at h
  rw [Bool.and_eq_true] at h
  obtain ⟨hg, h⟩ := h
  have hg' : P.eqGuardType P.depth t = false := by simpa using hg
  have gd : (∀ w, (Op.eqGuardIn Op.maxDepth t .nilIface .nilIface).run P w = .ok false w) → ∀ op x y, ∀ (a b : Value) (w : World), (eqGuard op t x y a b).run P w = .ok () w := by
    intro hn op x y a b w
    have key : (Sem.run P (match a, b with
      | .nilIface, .nilIface => do
        if (x matches .const _) || (y matches .const _) then return
        if ← Op.eqGuardIn Op.maxDepth t a b then unsupported (.noEntry "binop/eql: two nil values of an interface type with methods, neither of them the literal nil")
      | .agg _, .agg _ => do
        if !(← program).eqGuardType (← program).depth t then return
        if ← Op.eqGuardIn Op.maxDepth t a b then unsupported (.noEntry "binop/eql: two nil values of an interface type with methods, in a part of a struct or an array")
      | _, _ => pure ()) w) = .ok () w := by
      cases a <;> cases b <;> first | rfl | (simp only [Sem.run_bind, run_program, Result.andThen_ok, hg']; rfl) | skip
      cases x <;> cases y <;> first | rfl | simp [hn]
    unfold eqGuard
    split
    · exact key
    · exact key
    · rfl
  cases hu : P.underlying t with
  | none => rw [hu] at h; cases h
  | some d =>
    rw [hu] at h
    have sc : ∀ k, D7 P t = some k → wH P t = some (.one k) → (∀ w, (Op.eqGuardIn Op.maxDepth t .nilIface .nilIface).run P w = .ok false w) → (∀ a : SV, a.sk = k → MapKept.IsKey d (encS a)) → (∀ a b : SV, a.sk = k → b.sk = k → Instr.sameNow d (encS a) (encS b) = some (decide (a = b))) → lF P t := by
      intro k hk hks hn h1 h2
      have hcase : ∀ {sh}, wH P t = some sh → sh = .one k := fun e => by rw [hks] at e; cases e; rfl
      refine ⟨fun sh e => ?_, fun sh e a b w ha hb => ?_, gd hn⟩
      · obtain rfl := hcase e
        refine Mq.Key.Mj hu (fun a ha => ?_) (fun a b ha hb => ?_) (fun a ha => ?_)
        · obtain ⟨x, rfl, hx⟩ := zD ha; exact h1 x hx
        · obtain ⟨x, rfl, hx⟩ := zD ha
          obtain ⟨y, rfl, hy⟩ := zD hb
          simp only [mY, KV.one.injEq]
          exact h2 x y hx hy
        · obtain ⟨x, rfl, hx⟩ := zD ha; exact F7 x
      · obtain rfl := hcase e
        obtain ⟨x, rfl, hx⟩ := zD ha
        obtain ⟨y, rfl, hy⟩ := zD hb
        simp only [mY, KV.one.injEq]
        unfold Op.equal Op.maxDepth
        exact Qx hk hx hy
    cases d with
    | int i =>
      refine sc (.int i) (by simp [D7, hu]) (by simp [wH, D7, hu]) (A8 hu (fun _ h => by cases h)) (fun a ha => ?_) (fun a b ha hb => ?_)
      · cases a <;> simp_all [SV.sk, encS, MapKept.IsKey]
      · cases a <;> cases b <;> simp_all [SV.sk, encS, Instr.sameNow]
        rw [Bool.eq_iff_iff]; simp
    | bool =>
      refine sc .bool (by simp [D7, hu]) (by simp [wH, D7, hu]) (A8 hu (fun _ h => by cases h)) (fun a ha => ?_) (fun a b ha hb => ?_)
      · cases a <;> simp_all [SV.sk, encS, MapKept.IsKey]
      · cases a <;> cases b <;> simp_all [SV.sk, encS, Instr.sameNow]
        rw [Bool.eq_iff_iff]; simp
    | string =>
      refine sc .str (by simp [D7, hu]) (by simp [wH, D7, hu]) (A8 hu (fun _ h => by cases h)) (fun a ha => ?_) (fun a b ha hb => ?_)
      · cases a <;> simp_all [SV.sk, encS, MapKept.IsKey]
      · cases a <;> cases b <;> simp_all [SV.sk, encS, Instr.sameNow]
        exact Mq.uf _ _
    | struct fs =>
      simp only [Bool.and_eq_true, Bool.not_eq_true'] at h
      have hcase : ∀ {sh}, wH P t = some sh → ∃ ks, Hf P fs.toList = some ks ∧ sh = .agg ks := fun e => by
        unfold wH at e
        rw [hu] at e
        obtain ⟨ks, h1, h2⟩ := zmm e
        exact ⟨ks, h1, h2.symm⟩
      have idx : ∀ (ZZ9 : List SV) (j : Nat), ((ZZ9.map encS).toArray)[0 + j]? = ZZ9[j]?.map encS := fun ZZ9 j => by simp
      have heq : ∀ sh, wH P t = some sh → ∀ (a b : KV) (w : World), a.ks = sh → b.ks = sh → (Op.equal t (mY a) (mY b)).run P w = .ok (decide (a = b)) w := by
        intro sh e a b w ha hb
        obtain ⟨ks, hks, rfl⟩ := hcase e
        obtain ⟨ZZ9, rfl, ha1⟩ := Dj ha
        obtain ⟨bs, rfl, hb1⟩ := Dj hb
        have hf : P.fieldsOf t = fs := by simp [Program.fieldsOf, hu]
        unfold Op.equal Op.maxDepth
        simp only [mY, KV.agg.injEq]
        rw [run_equalIn_struct (P := P) w _ t _ _ (by rw [hf]; exact hu) h.1, hf]
        exact zC h.2 hks ha1 hb1 (idx ZZ9) (idx bs)
      refine ⟨fun sh e => ?_, heq, gd (A8 hu (fun _ h => by cases h))⟩
      · obtain ⟨ks, hks, rfl⟩ := hcase e
        refine Mq.Key.Jk hu (fun e' a w ha => ?_) (fun a b w ha hb => heq _ e a b w ha hb) (fun a ha => ?_) (fun a ha => ?_)
        · obtain ⟨ZZ9, rfl, ha1⟩ := Dj ha
          exact Nu (n := 9998) hu h.2 hks ha1
        · obtain ⟨ZZ9, rfl, ha1⟩ := Dj ha
          exact Nv (n := 9999) (fun n a => F7 a)
        · obtain ⟨ZZ9, rfl, ha1⟩ := Dj ha
          exact ⟨_, rfl⟩
    | _ => simp at h
end
end Go.Proofs.Ytdkkgecdhapfhaa.Ev
set_option maxRecDepth 100000
namespace Go.Proofs.Ytdkkgecdhapfhaa.Ka
open Go Go.RowKit Go.Proofs Ev
theorem eqs : ∀ t ∈ [3, 32], lF Try.prog t := by
  intro t ht
  simp only [List.mem_cons, List.not_mem_nil, or_false] at ht
  rcases ht with rfl | rfl <;> exact Tk (by kernel_rfl)
theorem mixed : Try.prog.follows .mixedOrders = true := by kernel_rfl
theorem Ny : iO Try.prog fun _ _ => none := fun f gG rs ru h => by cases h
theorem H9 : eO Try.prog fun _ _ => none := fun f gG r h => by cases h
def Tm : CF := ⟨1, [(.t 2)], [], [], (.seq (.reg [⟨(some 2), none, (.mv (.k (.one .fG)))⟩] [0]) (.seq (.seq (.reg [⟨(some 3), none, (.mv (.t 0))⟩, ⟨(some 4), none, (.Ab false (.t 3))⟩] [0, 4]) (.cond (.t 4) (.seq (.reg [⟨(some 2), none, (.mv (.k (.one .fG)))⟩] [2]) .ret) .skip)) (.seq (.reg [⟨(some 5), none, (.Fj 9 1 0 [] [])⟩, ⟨(some 6), none, (.mv (.t 0))⟩, ⟨(some 7), none, (.app 9 1 16 (.t 5) (.t 6))⟩, ⟨(some 2), none, (.mv (.t 7))⟩] [2]) .ret)))⟩
def Tn : CF := ⟨1, [(.t 2)], [some 3], [], (.seq (.reg [⟨(some 2), none, (.mv (.k (.one .fG)))⟩] [0]) (.seq (.seq (.reg [⟨(some 3), none, (.mv (.t 0))⟩, ⟨(some 4), none, (.Ab false (.t 3))⟩] [0, 4]) (.cond (.t 4) (.seq (.reg [⟨(some 2), none, (.mv (.k (.one .fG)))⟩] [2]) .ret) .skip)) (.seq (.reg [⟨(some 5), none, (.Fj 32 3 0 [] [])⟩, ⟨(some 6), none, (.mv (.t 0))⟩, ⟨(some 7), none, (.app 32 3 32 (.t 5) (.t 6))⟩, ⟨(some 2), none, (.mv (.t 7))⟩] [2]) .ret)))⟩
theorem Nz {f : FuncId} {cf : CF} {Γ : Env} (h : lV Try.prog f cf) (h1 : iO Try.prog Γ) (h2 : eO Try.prog Γ) (F : Nat) : Sat Try.prog f (I9 Γ F cf) := by
  obtain ⟨fn, c, X, hints, rest, e1, _, e2, e3, e4, e5, e6⟩ := h.ok
  exact zB mixed e3 h1 h2 e1 e2 e4 e5 e6 F
theorem NA : lV Try.prog 88 Tm := ⟨Try.f88, _, ⟨[3, 32], [], [], [33, 89]⟩, [⟨[0], [], []⟩, ⟨[0, 4], [], []⟩, ⟨[2], [], []⟩, ⟨[2], [], []⟩], [], by kernel_rfl, by kernel_rfl, rfl, eqs, by kernel_rfl, by kernel_rfl, by decide⟩
theorem NC : lV Try.prog 70 Tn := ⟨Try.f70, _, ⟨[3, 32], [], [], [33, 89]⟩, [⟨[0], [], []⟩, ⟨[0, 4], [], []⟩, ⟨[2], [], []⟩, ⟨[2], [], []⟩], [], by kernel_rfl, by kernel_rfl, rfl, eqs, by kernel_rfl, by kernel_rfl, by decide⟩
theorem ND (r : List FV) (l : List (List FV)) (h : l.length < 1000000) (hl : (r :: l).all (fun r => r.length == 1) = true) : I9 (fun _ _ => none) 10 Tm [vl (r :: l)] = some ([vl (r :: l)], [vl (r :: l)]) := by
  refine J5 ?_
  rw [List.all_cons, Bool.and_eq_true] at hl
  simp only [Tm, hl.1, hl.2, List.all_cons, go_sem, Nat.reduceAdd, Nat.reduceMul, Nat.reduceEqDiff, Nat.reduceBEq, Nat.reduceMod, Nat.reduceDiv, ↓reduceIte, reduceCtorEq]
  omega
theorem NG (r : List FV) (l : List (List FV)) (h : l.length < 1000000) (hl : (r :: l).all (fun r => r.length == 3) = true) : I9 (fun _ _ => none) 10 Tn [vl (r :: l)] = some ([.one (.own 3 (r :: l))], [vl (r :: l)]) := by
  refine J5 ?_
  rw [List.all_cons, Bool.and_eq_true] at hl
  simp only [Tn, hl.1, hl.2, List.all_cons, go_sem, Nat.reduceAdd, Nat.reduceMul, Nat.reduceEqDiff, Nat.reduceBEq, Nat.reduceMod, Nat.reduceDiv, ↓reduceIte, reduceCtorEq]
  omega
theorem vT {t e : TypeId} (hu : Try.prog.underlying t = some (.slice e)) (p : Option Addr) (c : Nat) (w : World) : (binOp .eql t (.slice p 0 c) (.slice none 0 0)).run Try.prog w = .ok (.bool p.isNone) w := by
  have := run_equal_slice_nil w t e p 0 c hu
  simp only [binOp, Sem.run_bind, this, Result.andThen_ok, Sem.run_pure]
theorem Dk {t ty e : TypeId} {i : TypeInfo} (hu : Try.prog.underlying t = some (.slice e)) (hi : Try.prog.info? e = some i) (a b : Addr) (c : Nat) (w : World) : (Builtin.append_ #[t, t] ty #[.slice (some b) 0 0, .slice (some a) 0 c]).run Try.prog w = .ok (.slice (some b) 0 0) w := by
  have h1 : ∀ w, (Builtin.lenOf (.slice (some a) 0 c)).run Try.prog w = .ok 0 w := fun _ => rfl
  have h2 := fun w => run_firstCells_some (P := Try.prog) w i.size 0 a 0 c [] (by simp) (by simp)
  simp [Builtin.append_, run_underlying hu, sizeOf, typeInfo, hi, storeCells, h1, h2]
theorem KD (c : Nat) (w : World) : Calls Try.prog 88 #[.slice none 0 c] w fun e w' => e = .returned (.slice none 0 0) ∧ w' = w := by
  have heq := vT (t := 33) (e := 9) (by kernel_rfl) none c
  go_enter Try.func88, Try.ntmps88
  go_wp2
  go_ret
  exact ⟨rfl, rfl⟩
theorem KE (a : Addr) (c : Nat) (w : World) : Calls Try.prog 88 #[.slice (some a) 0 c] w fun e w' => e = .returned (.slice (some ⟨w.heap.size, 0, none⟩) 0 0) ∧ w' = w.alloc (.cells #[] 9) := by
  have heq := vT (t := 33) (e := 9) (by kernel_rfl) (some a) c
  obtain ⟨i, hi⟩ := Option.isSome_iff_exists.mp (show (Try.prog.info? 9).isSome = true by kernel_rfl)
  have hap := fun b w => Dk (t := 33) (ty := 33) (e := 9) (by kernel_rfl) hi a b c w
  go_enter Try.func88, Try.ntmps88
  go_wp2
  go_ret
  exact ⟨rfl, rfl⟩
theorem KF (c : Nat) (w : World) : Calls Try.prog 70 #[.slice none 0 c] w fun e w' => e = .returned (.slice none 0 0) ∧ w' = w := by
  have heq := vT (t := 57) (e := 32) (by kernel_rfl) none c
  go_enter Try.func70, Try.ntmps70
  go_wp2
  go_ret
  exact ⟨rfl, rfl⟩
theorem KG (a : Addr) (c : Nat) (w : World) : Calls Try.prog 70 #[.slice (some a) 0 c] w fun e w' => e = .returned (.slice (some ⟨w.heap.size, 0, none⟩) 0 0) ∧ w' = w.alloc (.cells #[] 32) := by
  have heq := vT (t := 57) (e := 32) (by kernel_rfl) (some a) c
  obtain ⟨i, hi⟩ := Option.isSome_iff_exists.mp (show (Try.prog.info? 32).isSome = true by kernel_rfl)
  have hap := fun b w => Dk (t := 57) (ty := 57) (e := 32) (by kernel_rfl) hi a b c w
  go_enter Try.func70, Try.ntmps70
  go_wp2
  go_ret
  exact ⟨rfl, rfl⟩
def NH (sz : Nat) (own : Bool) (gG : List AV) : Option (List AV × List AV) := match gG with
  | [.one (.f (.sl rows))] => if rows.length ≤ 1000000 ∧ rows.all (fun r => r.length == sz) = true then some ([.one (if own then .own sz rows else .f (.sl rows))], gG) else none
  | _ => none
theorem EK (w : World) (o : Obj) : w.heap.size ≤ (w.alloc o).heap.size ∧ (∀ b, b < w.heap.size → (w.alloc o).heap[b]? = w.heap[b]?) ∧ (w.alloc o).heap[w.heap.size]? = some o ∧ (w.alloc o).heap.size = w.heap.size + 1 := by
  obtain ⟨h1, h2, h3⟩ := ng w o
  exact ⟨by omega, h2, h1, h3⟩
theorem F8 {f : FuncId} {cf : CF} {sz e : Nat} {own : Bool} (h0 : 0 < sz) (he : lV Try.prog f cf) (hrun : ∀ (r : List FV) (l : List (List FV)), l.length < 1000000 → (r :: l).all (fun r => r.length == sz) = true → I9 (fun _ _ => none) 10 cf [vl (r :: l)] = some ([.one (if own then .own sz (r :: l) else .f (.sl (r :: l)))], [vl (r :: l)]))
    (hn : ∀ (c : Nat) (w : World), Calls Try.prog f #[.slice none 0 c] w fun e w' => e = .returned (.slice none 0 0) ∧ w' = w)
    (hs : ∀ (a : Addr) (c : Nat) (w : World), Calls Try.prog f #[.slice (some a) 0 c] w fun e' w' => e' = .returned (.slice (some ⟨w.heap.size, 0, none⟩) 0 0) ∧ w' = w.alloc (.cells #[] e)) : Sat Try.prog f (NH sz own) := by
  intro gG rs ru hg
  unfold NH at hg
  split at hg
  · rename_i rows
    split at hg
    · rename_i hc
      cases hg
      cases rows with
      | cons r l =>
        exact Nz he Ny H9 10 _ _ _ (hrun r l (by have := hc.1; simp at this; omega) hc.2)
      | nil =>
        intro Fz w vals bs ha hnd hap hfz
        match vals, ha with
        | [v], ⟨b1, b2, h1, h2, e0⟩ =>
        obtain ⟨hv, rfl⟩ := h1
        obtain rfl : b2 = [] := h2
        subst e0
        simp only [eU] at hv
        obtain ⟨A, c, rfl, hle, hbig, _⟩ := hv
        have hrep : ∀ (w' : World) (v : Value), (∃ A, v = .slice A 0 0) → eU Fz w' (.sl []) v := fun w' v ⟨A, hA⟩ => by
          simp only [eU]; exact ⟨A, 0, by rw [hA]; rfl, Nat.le_refl _, by simp, .inl trivial⟩
        have hbk : ∀ (w' : World), fK Fz w' [vl []] [.slice A ([] : List (List FV)).length c] [] := fun w' =>
          ⟨[], [], ⟨by simp only [eU]; exact ⟨A, c, rfl, hle, hbig, .inl trivial⟩, rfl⟩, rfl, rfl⟩
        cases A with
        | none =>
          refine (hn c w).mono fun e' w' ⟨e1, e2⟩ => ?_
          subst e2
          refine ⟨Fz, [.slice none 0 0], [], [], e1, fun _ h => h, fun b hb => ⟨hfz b hb, .inl hb⟩, Nat.le_refl _, fun _ _ _ => rfl, ⟨rfl, rfl⟩, hbk w', ?_, by simp, fun b hb => by simp at hb⟩
          cases own with
          | true => exact ⟨[], [], ⟨h0, 0, [], none, 0, rfl, World.ownsRow_nil w' _ _ _, rfl, rfl⟩, rfl, rfl⟩
          | false => exact ⟨[], [], ⟨hrep w' _ ⟨none, rfl⟩, rfl⟩, rfl, rfl⟩
        | some a =>
          refine (hs a c w).mono fun e' w' ⟨e1, e2⟩ => ?_
          subst e2
          obtain ⟨k1, k2, k3, k4⟩ := EK w (.cells #[] e)
          cases own with
          | true =>
            refine ⟨Fz, [.slice (some ⟨w.heap.size, 0, none⟩) 0 0], [], [w.heap.size], e1, fun _ h => h, fun b hb => ⟨Nat.lt_of_lt_of_le (hfz b hb) k1, .inl hb⟩, k1, fun b hb _ => k2 b hb, ⟨rfl, rfl⟩, hbk _, ?_, by simp, fun b hb => ?_⟩
            · refine ⟨[w.heap.size], [], ⟨h0, e, [], _, 0, rfl, ⟨by simp, .inr ⟨w.heap.size, 0, #[], rfl, Nat.zero_le _, k3, Nat.le_refl _, by simp [maxLen], by simp, by simp⟩⟩, rfl, rfl⟩, rfl, rfl⟩
            · simp at hb
              subst hb
              exact ⟨fun hf => by have := hfz _ hf; omega, by omega, .inr (Nat.le_refl _)⟩
          | false =>
            exact ⟨Fz, [.slice (some ⟨w.heap.size, 0, none⟩) 0 0], [], [], e1, fun _ h => h, fun b hb => ⟨Nat.lt_of_lt_of_le (hfz b hb) k1, .inl hb⟩, k1, fun b hb _ => k2 b hb, ⟨rfl, rfl⟩, hbk _, ⟨[], [], ⟨hrep _ _ ⟨_, rfl⟩, rfl⟩, rfl, rfl⟩, by simp, fun b hb => by simp at hb⟩
    · cases hg
  · cases hg
theorem NI : Sat Try.prog 88 (NH 1 false) := F8 (by decide) NA ND KD KE
theorem NJ : Sat Try.prog 70 (NH 3 true) := F8 (by decide) NC NG KF KG
end Go.Proofs.Ytdkkgecdhapfhaa.Ka
set_option maxRecDepth 100000
namespace Go.Proofs.Ytdkkgecdhapfhaa.Ka
open Go Go.Proofs Ev
theorem e3 : lV Try.prog 3 c3 := ⟨Try.f3, _, ⟨[3, 32], [], [], [33, 89]⟩, [⟨[0, 1], [], []⟩, ⟨[0, 1, 24], [], []⟩, ⟨[4], [], []⟩, ⟨[0, 1, 5], [], []⟩, ⟨[1, 5, 6], [], []⟩, ⟨[1, 5, 6, 35], [], []⟩, ⟨[4], [], []⟩, ⟨[1, 5, 6, 7], [], []⟩, ⟨[1, 5, 6, 7], [40202, 140000, 560200, 560204, 560206, 600400, 1180400, 1640400, 1642800, 2920400], []⟩, ⟨[1, 5, 6, 7, 39], [], []⟩, ⟨[1, 5, 6, 7, 8], [], []⟩, ⟨[1, 5, 6, 7, 8, 47], [], []⟩, ⟨[1, 5, 6, 7, 8, 47, 48], [], []⟩, ⟨[1, 5, 6, 7, 8, 9, 10], [], []⟩, ⟨[1, 5, 6, 7, 8, 10], [], []⟩, ⟨[1, 5, 6, 7, 71], [], []⟩, ⟨[4], [], []⟩, ⟨[1, 5, 6, 7, 8, 47, 72], [], []⟩, ⟨[1, 5, 6, 7, 8, 11, 12, 13], [], []⟩, ⟨[1, 5, 6, 7, 8, 12, 13], [], []⟩, ⟨[1, 5, 6, 7, 12, 13, 14, 15], [], []⟩, ⟨[1, 5, 6, 7, 105], [], []⟩, ⟨[4], [], []⟩, ⟨[1, 5, 6, 7, 8, 47, 106], [], []⟩, ⟨[1, 5, 6, 7, 8, 16, 17], [], []⟩, ⟨[1, 5, 6, 7, 16, 17, 18, 19], [], []⟩, ⟨[1, 5, 6, 7, 137], [], []⟩, ⟨[4], [], []⟩, ⟨[1, 5, 6, 7, 8, 138], [], []⟩, ⟨[1, 5, 6, 7, 8, 20, 21], [], []⟩, ⟨[1, 5, 6, 7, 8, 21], [], []⟩, ⟨[1, 5, 6, 7, 155], [], []⟩, ⟨[4], [], []⟩, ⟨[1, 5, 6, 7, 168], [40202, 140000, 560200, 560204, 560206, 600400, 1180400, 1640400, 1642800, 2920400], []⟩, ⟨[4], [], []⟩, ⟨[1, 5, 6, 7], [], []⟩, ⟨[4], [], []⟩], [], by kernel_rfl, by kernel_rfl, rfl, eqs, by kernel_rfl, by kernel_rfl, by decide⟩
theorem e4 : lV Try.prog 4 c4 := ⟨Try.f4, _, ⟨[3, 32], [], [], [33, 89]⟩, [⟨[0, 1], [], []⟩, ⟨[0, 1, 23], [], []⟩, ⟨[4], [], []⟩, ⟨[0, 1, 5], [], []⟩, ⟨[0, 1, 5, 28], [], []⟩, ⟨[4], [], []⟩, ⟨[0, 1, 5, 6], [], []⟩, ⟨[0, 1, 5, 6, 7], [], []⟩, ⟨[0, 1, 5, 6, 7], [40202, 140000, 540200, 540204, 540206], [(6, 5)]⟩, ⟨[0, 1, 5, 6, 7, 32], [], []⟩, ⟨[0, 1, 5, 6, 7, 8], [], []⟩, ⟨[0, 1, 5, 6, 7, 8, 41], [], []⟩, ⟨[0, 1, 5, 6, 7, 8, 9, 10], [], []⟩, ⟨[0, 1, 5, 6, 7, 79], [40202, 140000, 540200, 540204, 540206, 1000800], []⟩, ⟨[4], [], []⟩, ⟨[0, 1, 5, 6, 7, 8, 88], [], []⟩, ⟨[0, 1, 5, 6, 7, 8], [], []⟩, ⟨[0, 1, 5, 6, 7, 8, 11, 12], [], []⟩, ⟨[0, 1, 5, 6, 7, 120], [], []⟩, ⟨[4], [], []⟩, ⟨[0, 1, 5, 6, 7, 131], [], []⟩, ⟨[4], [], []⟩, ⟨[0, 1, 5, 6, 7], [], []⟩, ⟨[4], [], []⟩], [], by kernel_rfl, by kernel_rfl, rfl, eqs, by kernel_rfl, by kernel_rfl, by decide⟩
theorem e5 : lV Try.prog 5 c5 := ⟨Try.f5, _, ⟨[3, 32], [], [], [33, 89]⟩, [⟨[2, 3], [], []⟩, ⟨[2, 3, 20], [], []⟩, ⟨[4], [], []⟩, ⟨[2, 3, 5], [], []⟩, ⟨[2, 3, 5, 24], [], []⟩, ⟨[4], [], []⟩, ⟨[2, 3, 5, 33], [], []⟩, ⟨[4], [], []⟩, ⟨[2, 3, 5], [], []⟩, ⟨[2, 3, 5, 6, 7], [], []⟩, ⟨[2, 3, 5, 6, 7, 8], [], []⟩, ⟨[2, 3, 5, 6, 7, 8, 9, 10], [], []⟩, ⟨[2, 3, 5, 6, 7, 8, 9, 10, 80], [], []⟩, ⟨[4], [], []⟩, ⟨[5, 6, 7, 9, 10, 120], [], []⟩, ⟨[4], [], []⟩, ⟨[4], [], []⟩], [], by kernel_rfl, by kernel_rfl, rfl, eqs, by kernel_rfl, by kernel_rfl, by decide⟩
theorem e6 : lV Try.prog 6 c6 := ⟨Try.f6, _, ⟨[3, 32], [], [], [33, 89]⟩, [⟨[1], [], []⟩, ⟨[1, 11], [], []⟩, ⟨[2], [], []⟩, ⟨[1, 3], [], []⟩, ⟨[1, 3, 4, 5], [], []⟩, ⟨[1, 3, 4, 5, 6, 7], [], []⟩, ⟨[2], [], []⟩], [], by kernel_rfl, by kernel_rfl, rfl, eqs, by kernel_rfl, by kernel_rfl, by decide⟩
theorem e7 : lV Try.prog 7 c7 := ⟨Try.f7, _, ⟨[3, 32], [], [], [33, 89]⟩, [⟨[0, 1, 2], [], []⟩, ⟨[0, 1, 2, 33], [], []⟩, ⟨[6], [], []⟩, ⟨[0, 1, 2, 7], [], []⟩, ⟨[0, 1, 2, 7, 37], [], []⟩, ⟨[6], [], []⟩, ⟨[0, 1, 2, 7, 8], [], []⟩, ⟨[0, 1, 2, 7, 8], [20202, 720200, 720204, 720206], []⟩, ⟨[0, 1, 2, 7, 8, 41], [], []⟩, ⟨[0, 1, 2, 7, 8], [], []⟩, ⟨[0, 1, 2, 7, 8], [], []⟩, ⟨[1, 2, 7, 9], [], []⟩, ⟨[1, 2, 7, 9, 10], [], []⟩, ⟨[1, 2, 7, 9, 10], [720200, 720204, 720206, 1260200], []⟩, ⟨[1, 2, 7, 9, 10, 66], [], []⟩, ⟨[1, 2, 7, 9, 10, 11, 12], [], []⟩, ⟨[1, 2, 7, 9, 10, 11, 12, 13, 14], [], []⟩, ⟨[1, 2, 7, 9, 10, 111], [], []⟩, ⟨[6], [], []⟩, ⟨[1, 2, 7, 9, 10], [], []⟩, ⟨[6], [], []⟩], [], by kernel_rfl, by kernel_rfl, rfl, eqs, by kernel_rfl, by kernel_rfl, by decide⟩
theorem e8 : lV Try.prog 8 c8 := ⟨Try.f8, _, ⟨[3, 32], [], [], [33, 89]⟩, [⟨[0, 1], [], []⟩, ⟨[0, 1, 28], [], []⟩, ⟨[4], [], []⟩, ⟨[0, 1, 5], [], []⟩, ⟨[0, 1, 5, 33], [], []⟩, ⟨[4], [], []⟩, ⟨[0, 1, 5, 6], [], []⟩, ⟨[0, 1, 5, 6], [640200, 640204, 640206], []⟩, ⟨[0, 1, 5, 6, 36], [], []⟩, ⟨[0, 1, 5, 6, 43], [], []⟩, ⟨[4], [], []⟩, ⟨[0, 1, 5, 6], [], []⟩, ⟨[0, 1, 5, 8], [], []⟩, ⟨[0, 1, 5, 8, 9], [], []⟩, ⟨[0, 1, 5, 8, 9], [640200, 640204, 640206, 1000800], []⟩, ⟨[0, 1, 5, 8, 9, 55], [], []⟩, ⟨[0, 1, 5, 8, 9, 68], [], []⟩, ⟨[4], [], []⟩, ⟨[0, 1, 5, 8, 9, 11], [], []⟩, ⟨[0, 1, 5, 8, 9, 85], [], []⟩, ⟨[4], [], []⟩, ⟨[0, 1, 5, 8, 9], [], []⟩, ⟨[1, 5], [], []⟩, ⟨[13], [], []⟩, ⟨[4], [], []⟩], [], by kernel_rfl, by kernel_rfl, rfl, eqs, by kernel_rfl, by kernel_rfl, by decide⟩
theorem e14 : lV Try.prog 14 c14 := ⟨Try.f14, _, ⟨[3, 32], [], [], [33, 89]⟩, [⟨[0, 1], [], []⟩, ⟨[0, 1, 5], [], []⟩, ⟨[0, 1, 5], [20202], []⟩, ⟨[0, 1, 5, 9], [], []⟩, ⟨[0, 1, 5, 18], [], []⟩, ⟨[4], [], []⟩, ⟨[0, 1, 5], [], []⟩, ⟨[4], [], []⟩], [], by kernel_rfl, by kernel_rfl, rfl, eqs, by kernel_rfl, by kernel_rfl, by decide⟩
theorem e15 : lV Try.prog 15 c15 := ⟨Try.f15, _, ⟨[3, 32], [], [], [33, 89]⟩, [⟨[], [], []⟩, ⟨[1], [], []⟩, ⟨[1, 27], [], []⟩, ⟨[0], [], []⟩, ⟨[1, 2], [], []⟩, ⟨[1, 2, 3], [], []⟩, ⟨[1, 2, 3], [], []⟩, ⟨[1, 2, 3, 4], [], []⟩, ⟨[1, 2, 3, 4], [], []⟩, ⟨[1, 2, 3, 4, 5], [], []⟩, ⟨[1, 2, 3, 4, 5, 6], [], []⟩, ⟨[1, 2, 3, 4, 5, 6, 7], [], []⟩, ⟨[1, 2, 3, 4, 5, 6, 7, 8, 9], [], []⟩, ⟨[1, 2, 3, 5, 6, 7, 8, 9, 10], [], []⟩, ⟨[1, 2, 5, 6, 7, 8, 9, 10, 12], [], []⟩, ⟨[1, 2, 5, 6, 7, 8, 9, 10, 12, 14], [], []⟩, ⟨[1, 2, 5, 6, 7, 8, 9, 10, 12, 14, 15], [], []⟩, ⟨[1, 2, 5, 6, 7, 8, 9, 10, 12, 14, 15], [], []⟩, ⟨[1, 2, 5, 6, 7, 8, 9, 10, 12, 14, 16], [], []⟩, ⟨[0], [], []⟩], [], by kernel_rfl, by kernel_rfl, rfl, eqs, by kernel_rfl, by kernel_rfl, by decide⟩
theorem e16 : lV Try.prog 16 c16 := ⟨Try.f16, _, ⟨[3, 32], [], [], [33, 89]⟩, [⟨[0], [], []⟩, ⟨[0, 8], [], []⟩, ⟨[2], [], []⟩, ⟨[2], [], []⟩], [], by kernel_rfl, by kernel_rfl, rfl, eqs, by kernel_rfl, by kernel_rfl, by decide⟩
theorem e17 : lV Try.prog 17 c17 := ⟨Try.f17, _, ⟨[3, 32], [], [], [33, 89]⟩, [⟨[0, 2], [], []⟩, ⟨[0, 2, 8], [], []⟩, ⟨[2], [], []⟩, ⟨[2], [], []⟩], [], by kernel_rfl, by kernel_rfl, rfl, eqs, by kernel_rfl, by kernel_rfl, by decide⟩
theorem e20 : lV Try.prog 20 c20 := ⟨Try.f20, _, ⟨[3, 32], [], [], [33, 89]⟩, [⟨[1, 3, 5, 6, 7], [], []⟩, ⟨[3, 5, 6, 7, 9, 10], [], []⟩, ⟨[3, 5, 6, 7, 9, 10, 19], [], []⟩, ⟨[3, 6, 7, 9, 10, 11], [], []⟩, ⟨[3, 6, 7, 9, 10, 11], [], []⟩, ⟨[3, 6, 7, 9, 10], [], []⟩, ⟨[6, 7, 8], [], []⟩], [], by kernel_rfl, by kernel_rfl, rfl, eqs, by kernel_rfl, by kernel_rfl, by decide⟩
theorem e21 : lV Try.prog 21 c21 := ⟨Try.f21, _, ⟨[3, 32], [], [], [33, 89]⟩, [⟨[0, 1, 5, 6], [], []⟩, ⟨[0, 5, 6, 8, 9], [], []⟩, ⟨[0, 5, 6, 8, 9, 17], [], []⟩, ⟨[6, 8, 9], [], []⟩, ⟨[6, 7], [], []⟩], [], by kernel_rfl, by kernel_rfl, rfl, eqs, by kernel_rfl, by kernel_rfl, by decide⟩
theorem e22 : lV Try.prog 22 BQ := ⟨Try.f22, _, ⟨[3, 32], [], [], [33, 89]⟩, [⟨[2, 3], [], []⟩, ⟨[4], [], []⟩], [], by kernel_rfl, by kernel_rfl, rfl, eqs, by kernel_rfl, by kernel_rfl, by decide⟩
theorem e23 : lV Try.prog 23 c23 := ⟨Try.f23, _, ⟨[3, 32], [], [], [33, 89]⟩, [⟨[1, 2], [], []⟩, ⟨[2], [], []⟩], [], by kernel_rfl, by kernel_rfl, rfl, eqs, by kernel_rfl, by kernel_rfl, by decide⟩
theorem e25 : lV Try.prog 25 L6 := ⟨Try.f25, _, ⟨[3, 32], [], [], [33, 89]⟩, [⟨[0, 1, 5, 6], [], []⟩, ⟨[0, 1, 5, 6, 11], [], []⟩, ⟨[6, 7], [], []⟩, ⟨[1, 6, 8, 9], [], []⟩, ⟨[6, 8, 30], [], []⟩, ⟨[6, 7], [], []⟩, ⟨[6, 7], [], []⟩], [], by kernel_rfl, by kernel_rfl, rfl, eqs, by kernel_rfl, by kernel_rfl, by decide⟩
theorem e27 : lV Try.prog 27 Xo := ⟨Try.f27, _, ⟨[3, 32], [], [], [33, 89]⟩, [⟨[0, 3], [], []⟩, ⟨[0, 3, 8], [], []⟩, ⟨[4], [], []⟩, ⟨[0, 3, 6], [], []⟩, ⟨[0, 3, 19], [], []⟩, ⟨[4], [], []⟩, ⟨[0, 3], [], []⟩, ⟨[0], [], []⟩, ⟨[], [], []⟩, ⟨[4], [], []⟩], [], by kernel_rfl, by kernel_rfl, rfl, eqs, by kernel_rfl, by kernel_rfl, by decide⟩
theorem e28 : lV Try.prog 28 c28 := ⟨Try.f28, _, ⟨[3, 32], [], [], [33, 89]⟩, [⟨[0, 1], [], []⟩, ⟨[0, 1, 10], [], []⟩, ⟨[4], [], []⟩, ⟨[0, 1, 5], [], []⟩, ⟨[0, 1, 5], [20202, 40202], []⟩, ⟨[0, 1, 5, 14], [], []⟩, ⟨[0, 1, 5, 25], [], []⟩, ⟨[4], [], []⟩, ⟨[0, 1, 5], [], []⟩, ⟨[4], [], []⟩], [], by kernel_rfl, by kernel_rfl, rfl, eqs, by kernel_rfl, by kernel_rfl, by decide⟩
theorem e29 : lV Try.prog 29 Hw := ⟨Try.f29, _, ⟨[3, 32], [], [], [33, 89]⟩, [⟨[0], [], []⟩, ⟨[0, 4], [], []⟩, ⟨[2], [], []⟩, ⟨[2], [], []⟩], [], by kernel_rfl, by kernel_rfl, rfl, eqs, by kernel_rfl, by kernel_rfl, by decide⟩
theorem e31 : lV Try.prog 31 c31 := ⟨Try.f31, _, ⟨[3, 32], [], [], [33, 89]⟩, [⟨[0], [], []⟩, ⟨[0, 4], [], []⟩, ⟨[2], [], []⟩, ⟨[2], [], []⟩], [], by kernel_rfl, by kernel_rfl, rfl, eqs, by kernel_rfl, by kernel_rfl, by decide⟩
theorem e32 : lV Try.prog 32 c32 := ⟨Try.f32, _, ⟨[3, 32], [], [], [33, 89]⟩, [⟨[2, 3], [], []⟩, ⟨[4], [], []⟩], [], by kernel_rfl, by kernel_rfl, rfl, eqs, by kernel_rfl, by kernel_rfl, by decide⟩
theorem e33 : lV Try.prog 33 Nb := ⟨Try.f33, _, ⟨[3, 32], [], [], [33, 89]⟩, [⟨[0, 3, 4], [], []⟩, ⟨[0, 3, 4, 5], [], []⟩, ⟨[0, 3, 4, 5, 6], [], []⟩, ⟨[0, 3, 4, 5, 6], [30201, 80000, 100000, 120000], []⟩, ⟨[0, 3, 4, 5, 6, 10], [], []⟩, ⟨[0, 3, 4, 5, 6, 19], [], []⟩, ⟨[0, 3, 4, 5, 6], [], []⟩, ⟨[0, 3, 4, 5, 6], [], []⟩, ⟨[4], [], []⟩], [], by kernel_rfl, by kernel_rfl, rfl, eqs, by kernel_rfl, by kernel_rfl, by decide⟩
theorem e34 : lV Try.prog 34 c34 := ⟨Try.f34, _, ⟨[3, 32], [], [], [33, 89]⟩, [⟨[0], [], []⟩, ⟨[0, 3], [], []⟩, ⟨[0, 3], [20202], []⟩, ⟨[0, 3, 8], [], []⟩, ⟨[0, 3, 4], [], []⟩, ⟨[0, 3, 4], [20202], []⟩, ⟨[0, 3, 4, 13], [], []⟩, ⟨[0, 3, 4, 24], [], []⟩, ⟨[2], [], []⟩, ⟨[0, 3, 4], [], []⟩, ⟨[0, 3], [], []⟩, ⟨[2], [], []⟩], [], by kernel_rfl, by kernel_rfl, rfl, eqs, by kernel_rfl, by kernel_rfl, by decide⟩
theorem e35 : lV Try.prog 35 c35 := ⟨Try.f35, _, ⟨[3, 32], [], [], [33, 89]⟩, [⟨[1], [], []⟩, ⟨[1, 3], [], []⟩, ⟨[1, 3], [20802, 40000], []⟩, ⟨[1, 3, 8], [], []⟩, ⟨[1, 3, 23], [], []⟩, ⟨[2], [], []⟩, ⟨[1, 3], [], []⟩, ⟨[2], [], []⟩], [], by kernel_rfl, by kernel_rfl, rfl, eqs, by kernel_rfl, by kernel_rfl, by decide⟩
theorem e62 : lV Try.prog 62 c62 := ⟨Try.f62, _, ⟨[3, 32], [], [], [33, 89]⟩, [⟨[0, 1], [], []⟩, ⟨[0, 1, 11], [], []⟩, ⟨[4], [], []⟩, ⟨[4], [], []⟩], [], by kernel_rfl, by kernel_rfl, rfl, eqs, by kernel_rfl, by kernel_rfl, by decide⟩
theorem e64 : lV Try.prog 64 c64 := ⟨Try.f64, _, ⟨[3, 32], [], [], [33, 89]⟩, [⟨[0, 1, 5], [], []⟩, ⟨[0, 1, 5, 31], [], []⟩, ⟨[6], [], []⟩, ⟨[0, 1, 5, 36], [], []⟩, ⟨[6], [], []⟩, ⟨[1, 5, 7, 8], [], []⟩, ⟨[60], [], []⟩, ⟨[6], [], []⟩, ⟨[6], [], []⟩], [], by kernel_rfl, by kernel_rfl, rfl, eqs, by kernel_rfl, by kernel_rfl, by decide⟩
theorem e65 : lV Try.prog 65 c65 := ⟨Try.f65, _, ⟨[3, 32], [], [], [33, 89]⟩, [⟨[1, 2], [], []⟩, ⟨[1, 2], [], []⟩, ⟨[2], [], []⟩], [], by kernel_rfl, by kernel_rfl, rfl, eqs, by kernel_rfl, by kernel_rfl, by decide⟩
theorem e66 : lV Try.prog 66 c66 := ⟨Try.f66, _, ⟨[3, 32], [], [], [33, 89]⟩, [⟨[0, 1], [], []⟩, ⟨[0, 6], [], []⟩, ⟨[4, 5], [], []⟩], [], by kernel_rfl, by kernel_rfl, rfl, eqs, by kernel_rfl, by kernel_rfl, by decide⟩
theorem e67 : lV Try.prog 67 c67 := ⟨Try.f67, _, ⟨[3, 32], [7], [], [33, 89]⟩, [⟨[0, 3], [], []⟩, ⟨[4], [], []⟩], [], by kernel_rfl, by kernel_rfl, rfl, eqs, by kernel_rfl, by kernel_rfl, by decide⟩
theorem e68 : lV Try.prog 68 c68 := ⟨Try.f68, _, ⟨[3, 32], [], [], [33, 89]⟩, [⟨[0, 1], [], []⟩, ⟨[4], [], []⟩], [], by kernel_rfl, by kernel_rfl, rfl, eqs, by kernel_rfl, by kernel_rfl, by decide⟩
theorem e69 : lV Try.prog 69 c69 := ⟨Try.f69, _, ⟨[3, 32], [], [], [33, 89]⟩, [⟨[0, 3], [], []⟩, ⟨[4], [], []⟩], [], by kernel_rfl, by kernel_rfl, rfl, eqs, by kernel_rfl, by kernel_rfl, by decide⟩
theorem e71 : lV Try.prog 71 c71 := ⟨Try.f71, _, ⟨[3, 32], [], [], [33, 89]⟩, [⟨[0, 1], [], []⟩, ⟨[0, 1, 10], [], []⟩, ⟨[4], [], []⟩, ⟨[0, 1, 5], [], []⟩, ⟨[0, 1, 5], [20202, 40202], []⟩, ⟨[0, 1, 5, 14], [], []⟩, ⟨[0, 1, 5, 25], [], []⟩, ⟨[4], [], []⟩, ⟨[0, 1, 5], [], []⟩, ⟨[4], [], []⟩], [], by kernel_rfl, by kernel_rfl, rfl, eqs, by kernel_rfl, by kernel_rfl, by decide⟩
theorem e73 : lV Try.prog 73 c73 := ⟨Try.f73, _, ⟨[3, 32], [], [], [33, 89]⟩, [⟨[1], [], []⟩, ⟨[1, 3], [], []⟩, ⟨[1, 3, 37], [], []⟩, ⟨[2], [], []⟩, ⟨[1, 3, 39, 40, 41], [], []⟩, ⟨[1, 3, 39, 40, 41], [20802, 40000, 80000], []⟩, ⟨[1, 3, 39, 40, 41, 42], [], []⟩, ⟨[1, 3, 4, 5, 39, 40, 41], [], []⟩, ⟨[1, 3, 39, 40, 41, 66], [], []⟩, ⟨[2], [], []⟩, ⟨[1, 3, 39, 40, 41], [], []⟩, ⟨[2], [], []⟩], [], by kernel_rfl, by kernel_rfl, rfl, eqs, by kernel_rfl, by kernel_rfl, by decide⟩
theorem e86 : lV Try.prog 86 c86 := ⟨Try.f86, _, ⟨[3, 32], [], [], [33, 89]⟩, [⟨[0, 1], [], []⟩, ⟨[4], [], []⟩], [], by kernel_rfl, by kernel_rfl, rfl, eqs, by kernel_rfl, by kernel_rfl, by decide⟩
theorem e87 : lV Try.prog 87 c87 := ⟨Try.f87, _, ⟨[3, 32], [], [], [33, 89]⟩, [⟨[0, 1, 2], [], []⟩, ⟨[6], [], []⟩], [], by kernel_rfl, by kernel_rfl, rfl, eqs, by kernel_rfl, by kernel_rfl, by decide⟩
theorem e89 : lV Try.prog 89 c89 := ⟨Try.f89, _, ⟨[3, 32], [41], [38], [33, 89]⟩, [⟨[0, 1], [], []⟩, ⟨[0, 1, 5], [], []⟩, ⟨[0, 1, 5, 12], [], []⟩, ⟨[4], [], []⟩, ⟨[0, 1, 5, 6], [], []⟩, ⟨[0, 1, 5, 6], [20202], []⟩, ⟨[0, 1, 5, 6, 19], [], []⟩, ⟨[0, 1, 5, 6, 7], [], []⟩, ⟨[0, 1, 5, 6, 7, 29], [], []⟩, ⟨[0, 1, 5, 6], [], []⟩, ⟨[0, 1, 5, 6], [], []⟩, ⟨[0, 1, 5, 6], [], []⟩, ⟨[0, 5], [], []⟩, ⟨[4], [], []⟩], [], by kernel_rfl, by kernel_rfl, rfl, eqs, by kernel_rfl, by kernel_rfl, by decide⟩
theorem e90 : lV Try.prog 90 c90 := ⟨Try.f90, _, ⟨[3, 32], [], [], [33, 89]⟩, [⟨[1, 2], [], []⟩, ⟨[3], [], []⟩], [], by kernel_rfl, by kernel_rfl, rfl, eqs, by kernel_rfl, by kernel_rfl, by decide⟩
theorem e93 : lV Try.prog 93 c93 := ⟨Try.f93, _, ⟨[3, 32], [], [], [33, 89]⟩, [⟨[0, 1], [], []⟩, ⟨[4], [], []⟩], [], by kernel_rfl, by kernel_rfl, rfl, eqs, by kernel_rfl, by kernel_rfl, by decide⟩
theorem e96 : lV Try.prog 96 c96 := ⟨Try.f96, _, ⟨[3, 32], [], [], [33, 89]⟩, [⟨[0, 1], [], []⟩, ⟨[4], [], []⟩], [], by kernel_rfl, by kernel_rfl, rfl, eqs, by kernel_rfl, by kernel_rfl, by decide⟩
theorem adA : lV Try.prog 107 c107 := ⟨Try.f107, _, ⟨[3, 32], [], [], [33, 89]⟩, [⟨[0, 1], [], []⟩, ⟨[4], [], []⟩], [], by kernel_rfl, by kernel_rfl, rfl, eqs, by kernel_rfl, by kernel_rfl, by decide⟩
theorem e108 : lV Try.prog 108 Nc := ⟨Try.f108, _, ⟨[3, 32], [], [], [33, 89]⟩, [⟨[0, 1], [], []⟩, ⟨[0, 1, 7, 8], [], []⟩, ⟨[0, 1, 7, 8], [20202], []⟩, ⟨[0, 1, 7, 8, 9], [], []⟩, ⟨[0, 1, 5, 7, 8], [], []⟩, ⟨[0, 1, 5, 7, 8, 16], [], []⟩, ⟨[4], [], []⟩, ⟨[0, 1, 7, 8], [], []⟩, ⟨[4], [], []⟩], [], by kernel_rfl, by kernel_rfl, rfl, eqs, by kernel_rfl, by kernel_rfl, by decide⟩
theorem adB : lV Try.prog 114 Nf := ⟨Try.f114, _, ⟨[3, 32], [], [], [33, 89]⟩, [⟨[0, 1], [], []⟩, ⟨[0, 1, 7, 8], [], []⟩, ⟨[0, 1, 7, 8], [20202], []⟩, ⟨[0, 1, 7, 8, 9], [], []⟩, ⟨[0, 1, 5, 7, 8], [], []⟩, ⟨[0, 1, 5, 7, 8, 16], [], []⟩, ⟨[4], [], []⟩, ⟨[0, 1, 7, 8], [], []⟩, ⟨[4], [], []⟩], [], by kernel_rfl, by kernel_rfl, rfl, eqs, by kernel_rfl, by kernel_rfl, by decide⟩
theorem ents : ∀ p ∈ wX, lV Try.prog p.1 p.2 := List.forall_mem_cons.2 ⟨e3, List.forall_mem_cons.2 ⟨e4, List.forall_mem_cons.2 ⟨e5, List.forall_mem_cons.2 ⟨e6, List.forall_mem_cons.2 ⟨e7, List.forall_mem_cons.2 ⟨e8, List.forall_mem_cons.2 ⟨e14, List.forall_mem_cons.2 ⟨e15, List.forall_mem_cons.2 ⟨e16, List.forall_mem_cons.2 ⟨e17, List.forall_mem_cons.2 ⟨e20, List.forall_mem_cons.2 ⟨e21, List.forall_mem_cons.2 ⟨e22, List.forall_mem_cons.2 ⟨e23, List.forall_mem_cons.2 ⟨e25, List.forall_mem_cons.2 ⟨e27, List.forall_mem_cons.2 ⟨e28, List.forall_mem_cons.2 ⟨e29, List.forall_mem_cons.2 ⟨e31, List.forall_mem_cons.2 ⟨e32, List.forall_mem_cons.2 ⟨e33, List.forall_mem_cons.2 ⟨e34, List.forall_mem_cons.2 ⟨e35, List.forall_mem_cons.2 ⟨e62, List.forall_mem_cons.2 ⟨e64, List.forall_mem_cons.2 ⟨e65, List.forall_mem_cons.2 ⟨e66, List.forall_mem_cons.2 ⟨e67, List.forall_mem_cons.2 ⟨e68, List.forall_mem_cons.2 ⟨e69, List.forall_mem_cons.2 ⟨e71, List.forall_mem_cons.2 ⟨e73, List.forall_mem_cons.2 ⟨e86, List.forall_mem_cons.2 ⟨e87, List.forall_mem_cons.2 ⟨e89, List.forall_mem_cons.2 ⟨e90, List.forall_mem_cons.2 ⟨e93, List.forall_mem_cons.2 ⟨e96, List.forall_mem_cons.2 ⟨adA, List.forall_mem_cons.2 ⟨e108, List.forall_mem_cons.2 ⟨adB, fun _ h => nomatch h⟩⟩⟩⟩⟩⟩⟩⟩⟩⟩⟩⟩⟩⟩⟩⟩⟩⟩⟩⟩⟩⟩⟩⟩⟩⟩⟩⟩⟩⟩⟩⟩⟩⟩⟩⟩⟩⟩⟩⟩⟩
end Go.Proofs.Ytdkkgecdhapfhaa.Ka
set_option maxRecDepth 100000
namespace Go.Proofs.Ytdkkgecdhapfhaa.Ka
open Go Go.Proofs Ev
theorem NK {ext : Env} (h1 : iO Try.prog ext) (h2 : eO Try.prog ext) (F n : Nat) : Sat Try.prog 19 (uW ext F n) := by
  obtain ⟨g1, g2⟩ := J6 (wX := wX) (F := F) mixed ents h1 h2 n
  have hf : Try.prog.funcs[19]? = some Try.f19 := by kernel_rfl
  have hg : Try.prog.funcs[63]? = some Try.f63 := by kernel_rfl
  have hD := Tj (X := ⟨[3, 32], [], [], [33, 89]⟩) (c1 := 8) (c2 := 4) (h1 := [⟨[0, 1, 3], [], []⟩, ⟨[0], [], []⟩]) (h2 := []) (cc := XF.body) mixed eqs g1 g2 hg rfl (by kernel_rfl) rfl (by decide) F
  exact EI (X := ⟨[3, 32], [], [], [33, 89]⟩) (ha := [⟨[1, 3, 4, 6, 8], [], []⟩, ⟨[1, 4, 6, 8, 9], [], []⟩]) (hb' := [⟨[4, 6, 8, 9], [], []⟩, ⟨[4, 6, 8, 9, 27], [], []⟩, ⟨[4, 8], [], []⟩, ⟨[4, 6, 8], [], []⟩, ⟨[4, 8, 10, 11], [], []⟩, ⟨[4, 8, 10, 52, 53, 54], [], []⟩, ⟨[4, 8, 10, 52, 53, 54], [20201, 20205, 20208, 100000, 180000, 530002, 530004, 530006, 530008, 530010, 530012, 530014, 530016, 530202, 530204, 530206, 530208, 530210, 530212, 530214, 530216, 530402, 530404, 530406, 530408, 530410, 530412, 530414, 530416, 530602, 530604, 530606, 530608, 530610, 530612, 530614, 530616, 530802, 530804, 530806, 530808, 530810, 530812, 530814, 530816, 531002, 531004, 531006, 531008, 531010, 531012, 531014, 531016, 1000200, 1002200], []⟩, ⟨[4, 8, 10, 52, 53, 54, 55], [], []⟩, ⟨[4, 8, 10, 13, 52, 53, 54], [], []⟩, ⟨[4, 8, 10, 52, 53, 54], [], []⟩, ⟨[4, 8, 10, 52, 53, 54], [], []⟩, ⟨[4, 8], [], []⟩, ⟨[4, 8], [], []⟩]) (ra := []) (rb := []) (ca := pA) (cb := pB) (cf := Kz) mixed eqs g1 g2 hf rfl hg (by kernel_rfl) (by kernel_rfl) (by kernel_rfl) (by kernel_rfl) (by kernel_rfl) (by decide) (by decide) (by decide) (by decide) hD F
end Go.Proofs.Ytdkkgecdhapfhaa.Ka
namespace Go.Proofs.YtdkkgecdhapfhaaW.bD
open Go.RowKit
structure aj (p : Prop) : Prop where mk :: (out : p)
structure aY (w w' : World) : Prop where mk :: (out : ∃ n, w' = w.drewN n)
theorem aY.refl (w : World) : aY w w := ⟨⟨0, rfl⟩⟩
theorem aY.step {w w' : World} (h : aY w w') (n : Nat) : aY w (w'.drewN n) := by
  obtain ⟨m, rfl⟩ := h
  exact ⟨⟨m + n, World.drewN_drewN ..⟩⟩
theorem aY.grown {w w' : World} (h : aY w w') : Grown w w' := by
  obtain ⟨n, rfl⟩ := h
  induction n with
  | zero => exact Grown.refl _
  | succ n ih => rw [← World.drew_drewN]; exact Grown.drew ih
theorem aY.below {w w' : World} (h : aY w w') : Below w.heap.size w w' := by
  obtain ⟨n, rfl⟩ := h
  induction n with
  | zero => exact Below.refl _ _
  | succ n ih => rw [← World.drew_drewN]; exact ih.drew
def rd (xs : List Int) (i : Int) : Int := xs.getD i.toNat 0
def bt (s : ByteArray) (i : Int) : Int := if h : i.toNat < s.size then ((s[i.toNat]'h).toNat : Int) else 0
theorem ny (s : ByteArray) (i : Int) : ∀ h : i.toNat < s.size, ((s[i.toNat]'h).toNat : Int) = bt s i := fun h => by simp [bt, h]
theorem fZ (s : ByteArray) (i : Int) : 0 ≤ bt s i ∧ bt s i ≤ 255 := by
  unfold bt
  split
  · rename_i h
    have := (s[i.toNat]'h).toNat_lt
    omega
  · omega
theorem ak {w W : World} (h : Below w.heap.size w W) (o : Obj) : Below w.heap.size w (W.alloc o) := h.alloc h.size o
theorem jf {B : Nat} {w W : World} (h : Below B w W) : Below B w W.drew := ⟨h.os, h.tape, h.output, h.size, h.block⟩
theorem ah {B : Nat} {w W : World} (h : Below B w W) (n : Nat) : Below B w (W.drewN n) := ⟨h.os, h.tape, h.output, h.size, h.block⟩
theorem EL {B : Nat} {w w1 w2 : World} (h : Below B w w1) (hB : B ≤ w1.heap.size) (k : Below w1.heap.size w1 w2) : Below B w w2 :=
  h.trans ⟨k.os, k.tape, k.output, k.size, fun i hi => k.block i (Nat.lt_of_lt_of_le hi hB)⟩
theorem xB {w w1 : World} (h : Below w.heap.size w w1) (row : Option Nat) : w.grownBy w1 row := ⟨h.os, h.tape, h.output, h.size, fun i hi _ => h.block i hi⟩
theorem mP {w w1 : World} (h : Below w.heap.size w w1) {a : Addr} {v : Value} (hc : w.cell? a = some v) : w1.cell? a = some v := (h.cell (World.block_lt_of_cell? w a hc)).trans hc
theorem add_plain (g j : Nat) : (⟨g, 0, none⟩ : Addr).add j = ⟨g, j, none⟩ := by unfold Addr.add; split <;> simp_all
def gB (w : World) (k : IntKind) (A : Option Addr) (n : Nat) (xs : List Int) : Prop :=
  xs.length = n ∧ n ≤ 9223372036854775807 ∧ (0 < n → ∃ ad, A = some ad ∧ ∀ j, j < n → w.cell? (ad.add j) = some (.int k (xs.getD j 0)))
theorem gB.at_ {w : World} {k : IntKind} {A : Option Addr} {n : Nat} {xs : List Int} (h : gB w k A n xs) (i : Int) (h0 : 0 ≤ i) (h1 : i < n) : ∃ ad, A = some ad ∧ w.cell? (ad.add i.toNat) = some (.int k (rd xs i)) := by
  obtain ⟨ad, e, hc⟩ := h.2.2 (by omega)
  exact ⟨ad, e, hc _ (by omega)⟩
theorem gB.below {w w1 : World} {k : IntKind} {A : Option Addr} {n : Nat} {xs : List Int} (h : gB w k A n xs) (hb : Below w.heap.size w w1) : gB w1 k A n xs :=
  ⟨h.1, h.2.1, fun hn => by
    obtain ⟨ad, e, hc⟩ := h.2.2 hn
    exact ⟨ad, e, fun j hj => mP hb (hc j hj)⟩⟩
theorem NM (W : World) (base : Nat) (e : TypeId) (size : Nat) : W.ownsRow base e size (.slice none 0 0) 0 [] := ⟨by simp, .inl ⟨rfl, rfl⟩⟩
theorem sI {w : World} {base : Nat} {e : TypeId} {size n : Nat} {v : Value} {xs : List Value} (h : w.ownsRow base e size v n xs) (k : Nat) (hk : v.ownBlock = some k) : base ≤ k := by
  rcases h.2 with ⟨rfl, _⟩ | ⟨g, cap, cur, rfl, hb, _⟩
  · simp [Value.ownBlock] at hk
  · have : g = k := by simpa [Value.ownBlock] using hk
    omega
theorem Tp {w : World} {base : Nat} {e : TypeId} {size n : Nat} {v : Value} {xs : List Value} (h : w.ownsRow base e size v n xs) (k : Nat) (hk : v.ownBlock = some k) : k < w.heap.size := by
  rcases h.2 with ⟨rfl, _⟩ | ⟨g, cap, cur, rfl, hb, hh, _⟩
  · simp [Value.ownBlock] at hk
  · have : g = k := by simpa [Value.ownBlock] using hk
    subst this
    exact (Array.getElem?_eq_some_iff.1 hh).1
theorem sJ {w w1 : World} {base : Nat} {e : TypeId} {size n : Nat} {v : Value} {xs : List Value} (h : w.ownsRow base e size v n xs) (hb : Below w.heap.size w w1) : w1.ownsRow base e size v n xs :=
  h.kept (xB hb none) (by cases v.ownBlock <;> simp)
theorem Ia {w w1 : World} {base : Nat} {e : TypeId} {size n : Nat} {v : Value} {xs : List Value} (h : w.ownsRow base e size v n xs) {row : Option Nat} (hg : w.grownBy w1 row) (hne : v.ownBlock = none ∨ v.ownBlock ≠ row) : w1.ownsRow base e size v n xs := h.kept hg hne
section
variable {P : Program} {ops : Array Oper} {rest : List Oper} {o : Oper} {a : Act} {Q : Exit → Act → World → Prop}
end
section
variable {P : Program}
end
section
variable {P : Program} {ops : Array Oper} {rest : List Oper} {o : Oper} {a : Act} {Q : Exit → Act → World → Prop}
end
def bytesOf (s : ByteArray) : List Int := s.data.toList.map fun b => (b.toNat : Int)
theorem gB.Dl {w : World} {k : IntKind} {A : Option Addr} {n : Nat} {xs : List Int} (h : gB w k A n xs) (i : Nat) (hi : i ≤ n) : gB w k A i (xs.take i) := by
  refine ⟨by rw [List.length_take, h.1]; omega, by have := h.2.1; omega, fun hp => ?_⟩
  obtain ⟨ad, e, hc⟩ := h.2.2 (by omega)
  refine ⟨ad, e, fun j hj => ?_⟩
  rw [hc j (by omega)]
  simp [List.getD_eq_getElem?_getD, hj]
def kM {α : Type} (a b : Option α) : Prop := ∀ r, a = some r → b = some r
theorem kM.refl {α : Type} (a : Option α) : kM a a := fun _ h => h
theorem kM.none {α : Type} (b : Option α) : kM Option.none b := fun _ h => by cases h
theorem kM.trans {α : Type} {a b c : Option α} (h : kM a b) (k : kM b c) : kM a c := fun r hr => k r (h r hr)
theorem kM.ite {α : Type} {c : Prop} [Decidable c] {a a' b b' : Option α} (h : kM a a') (k : kM b b') : kM (if c then a else b) (if c then a' else b') := by
  split
  · exact h
  · exact k
theorem kM.bind {α β : Type} {a a' : Option α} {f f' : α → Option β} (h : kM a a') (k : ∀ x, kM (f x) (f' x)) : kM (a.bind f) (a'.bind f') := by
  intro r hr
  obtain ⟨x, hx, hf⟩ := Option.bind_eq_some_iff.1 hr
  exact Option.bind_eq_some_iff.2 ⟨x, h x hx, k x r hf⟩
theorem kM.map {α β : Type} {a a' : Option α} (f : α → β) (h : kM a a') : kM (a.map f) (a'.map f) := by
  intro r hr
  obtain ⟨x, hx, hf⟩ := Option.map_eq_some_iff.1 hr
  exact Option.map_eq_some_iff.2 ⟨x, h x hx, hf⟩
theorem uX {α : Type} {g : Nat → Option α} (h : ∀ k, kM (g k) (g (k + 1))) (k : Nat) : ∀ j, kM (g k) (g (k + j))
  | 0 => kM.refl _
  | j + 1 => (uX h k j).trans (h (k + j))
theorem uE {α : Type} {g : Nat → Option α} (h : ∀ k, kM (g k) (g (k + 1))) {k k' : Nat} (hk : k ≤ k') {r : α} (hr : g k = some r) : g k' = some r := by
  have := uX h k (k' - k) r hr
  rwa [Nat.add_sub_cancel' hk] at this
def fM {α : Type} (R : α → List Value → Prop) (size : Nat) (ps : List α) (cs : List Value) : Prop :=
  cs.length = ps.length * size ∧ ∀ j p, ps[j]? = some p → R p ((cs.drop (j * size)).take size)
theorem fM.none {α : Type} (R : α → List Value → Prop) (size : Nat) : fM R size [] [] := ⟨by simp, fun j p h => by simp at h⟩
theorem fM.snoc {α : Type} {R : α → List Value → Prop} {size : Nat} {ps : List α} {cs c : List Value} {p : α} (h : fM R size ps cs) (hp : R p c) (hc : c.length = size) : fM R size (ps ++ [p]) (cs ++ c) := by
  refine ⟨by rw [List.length_append, h.1, hc, List.length_append, List.length_singleton, Nat.add_mul, Nat.one_mul], fun j q hq => ?_⟩
  rcases Nat.lt_or_ge j ps.length with hj | hj
  · rw [List.getElem?_append_left hj] at hq
    have h1 : j * size + size ≤ cs.length := by rw [h.1, ← Nat.succ_mul]; exact Nat.mul_le_mul_right _ hj
    have h2 := h.2 j q hq
    rw [List.drop_append_of_le_length (by omega), List.take_append_of_le_length (by rw [List.length_drop]; omega)]
    exact h2
  · have hj' : j = ps.length := by
      have := (List.getElem?_eq_some_iff.1 hq).1
      rw [List.length_append, List.length_singleton] at this
      omega
    subst hj'
    have hq' : p = q := by simpa using hq
    subst hq'
    rw [← h.1, List.drop_left, ← hc, List.take_length]
    exact hp
theorem fM.yR {α : Type} {R R' : α → List Value → Prop} {size : Nat} {ps : List α} {cs : List Value} (h : fM R size ps cs) (hR : ∀ p c, R p c → R' p c) : fM R' size ps cs := ⟨h.1, fun j p hj => hR _ _ (h.2 j p hj)⟩
def lW {α : Type} (R : α → List Value → Prop) (size : Nat) (w : World) (A : Option Addr) (n : Nat) (ps : List α) : Prop :=
  ps.length = n ∧ n ≤ 9223372036854775807 ∧ (0 < n → ∃ ad, A = some ad ∧ ∀ j p, ps[j]? = some p → ∃ c, c.length = size ∧ R p c ∧ ∀ i u, c[i]? = some u → w.cell? (ad.add (j * size + i)) = some u)
theorem lW.yR {α : Type} {R R' : α → List Value → Prop} {size : Nat} {w w1 : World} {A : Option Addr} {n : Nat} {ps : List α} (h : lW R size w A n ps) (hb : Below w.heap.size w w1) (hR : ∀ p c, R p c → R' p c) : lW R' size w1 A n ps :=
  ⟨h.1, h.2.1, fun hn => by
    obtain ⟨ad, e, hc⟩ := h.2.2 hn
    refine ⟨ad, e, fun j p hj => ?_⟩
    obtain ⟨c, hs, hr, hcell⟩ := hc j p hj
    exact ⟨c, hs, hR _ _ hr, fun i u hu => mP hb (hcell i u hu)⟩⟩
theorem yS {α : Type} {R : α → List Value → Prop} {w : World} {base n size : Nat} {e : TypeId} {v : Value} {ps : List α} {cs : List Value} (h : w.ownsRow base e size v n cs) (hR : fM R size ps cs) (hn : ps.length = n) :
    ∃ A c, v = .slice A n c ∧ lW R size w A n ps := by
  rcases Nat.eq_zero_or_pos n with h0 | h0
  · rcases h.2 with ⟨rfl, rfl⟩ | ⟨g, cap, cur, rfl, _⟩
    · exact ⟨none, 0, rfl, hn, by omega, fun hp => absurd hp (by omega)⟩
    · exact ⟨_, cap, rfl, hn, by omega, fun hp => absurd hp (by omega)⟩
  · obtain ⟨g, cap, rfl, _, _⟩ := h.form h0
    have hm : n ≤ 9223372036854775807 := by
      rcases h.2 with ⟨_, h1⟩ | ⟨g', cap', cur, he, _, _, h1, h2, _⟩
      · omega
      · simp only [maxLen] at h2
        omega
    refine ⟨_, cap, rfl, hn, hm, fun _ => ⟨_, rfl, fun j p hj => ⟨(cs.drop (j * size)).take size, ?_, hR.2 j p hj, fun i u hu => ?_⟩⟩⟩
    · have hjl := (List.getElem?_eq_some_iff.1 hj).1
      have h1 : j * size + size ≤ cs.length := by rw [hR.1, ← Nat.succ_mul]; exact Nat.mul_le_mul_right _ hjl
      rw [List.length_take, List.length_drop]
      omega
    · refine h.cells (g := g) rfl _ u ?_
      rw [List.getElem?_take] at hu
      split at hu
      · rw [List.getElem?_drop] at hu
        exact hu
      · cases hu
section
variable {P : Program} {ops : Array Oper} {rest : List Oper} {o : Oper} {a : Act} {Q : Exit → Act → World → Prop}
theorem lX {w0 W : World} (base : Nat) (hgd : o.guard = none) (s x : Operand) (t e : TypeId) (z : Value) (size bytes : Nat)
    (ho : o.op = .call { callee := .builtin .append, args := #[s, x], argTypes := #[t, t] })
    (ht : P.underlying t = some (.slice e)) (hinfo : (P.info? e).map (fun i => (i.zero, i.size, i.bytes)) = some (some z, size, bytes)) (hz : z.cells.size = size) (hs0 : 0 < size) (hb0 : 0 < bytes)
    (v : Value) (n : Nat) (xs ys : List Value) (hs : a.eval s = v) (hx : a.eval x = .slice (some ⟨W.heap.size, 0, none⟩) 1 1) (hys : ys.length = size) (h1 : ∀ u ∈ ys, u.oneCell' = true)
    (HO : W.ownsRow base e size v n xs) (HB : Below base w0 W) (hbase : base ≤ W.heap.size) (hl : (n + 1) * bytes ≤ 140737488355328)
    (h : ∀ v1 w1, w1.ownsRow base e size v1 (n + 1) (xs ++ ys) → Below base w0 w1 → W.grownBy w1 v.ownBlock → (v1.ownBlock = v.ownBlock ∨ ∃ b, v1.ownBlock = some b ∧ W.heap.size ≤ b) → wpList P ops Q rest (a.put o.dst v1) w1) :
    wpList P ops Q (o :: rest) a (W.alloc (.cells ys.toArray e)) := by
  obtain ⟨i0, hi, hzz⟩ := Option.map_eq_some_iff.1 hinfo
  simp only [Prod.mk.injEq] at hzz
  obtain ⟨hz0, hz1, hz2⟩ := hzz
  have hlen : n + 1 ≤ 140737488355328 := Nat.le_trans (Nat.le_mul_of_pos_right _ hb0) hl
  refine wpList_append_own_at (W.alloc (.cells ys.toArray e)) hgd s x t ho base e i0 z size bytes ht hi hz0 hz1 hz2 hz hs0 v n xs hs (HO.alloc _) ⟨W.heap.size, 0, none⟩ 1 1 ys hx (by rw [hys]; simp)
    (by simpa using World.news_of_block (cs := ys.toArray) (t := e) (fr := (0, 0)) (heap_alloc_new W (.cells ys.toArray e))) h1 (by simp only [maxLen]; omega) hl (by simp; omega) ?_
  intro v1 w1 hown hg _ hat
  refine h v1 w1 hown ((HB.alloc hbase _).grown hg (by simp; omega) (sI HO)) (World.grownBy.trans (World.grownBy_alloc W _ _) hg) ?_
  rcases hat with hat | hat
  · exact .inl hat
  · exact .inr ⟨_, hat, by simp⟩
end
theorem own_ne {w : World} {base : Nat} {e t : TypeId} {size n g : Nat} {v : Value} {xs : List Value} {cs : Array Value} (h : w.ownsRow base e size v n xs) (hg : w.heap[g]? = some (.cells cs t (0, 0))) (hne : e ≠ t) : some g ≠ v.ownBlock := by
  rcases h.2 with ⟨rfl, _⟩ | ⟨g', cap, cur, rfl, _, hh, _⟩
  · simp [Value.ownBlock]
  · intro he
    have : g = g' := by simpa [Value.ownBlock] using he
    subst this
    rw [hg] at hh
    injection hh with hh
    injection hh with _ ht
    exact hne ht.symm
theorem NP {w : World} {g : Nat} {t : TypeId} {cs : Array Value} (h : w.heap[g]? = some (.cells cs t (0, 0))) (i : Nat) (u : Value) : (w.setCell ⟨g, i, none⟩ u).heap[g]? = some (.cells (cs.setIfInBounds i u) t (0, 0)) := by
  simp [World.setCell, Array.getElem?_modify, h]
theorem nM {w : World} {g : Nat} {t : TypeId} {cs : Array Value} (h : w.heap[g]? = some (.cells cs t (0, 0))) {p : Addr} (hp : g ≠ p.block) (u : Value) : (w.setCell p u).heap[g]? = some (.cells cs t (0, 0)) := (Below.heap_setCell w p u g hp).trans h
theorem jD {w : World} {g : Nat} {o : Obj} (h : w.heap[g]? = some o) : g < w.heap.size := (Array.getElem?_eq_some_iff.1 h).1
theorem aM {w : World} {g : Nat} {t : TypeId} {cs : Array Value} (h : w.heap[g]? = some (.cells cs t (0, 0))) (i : Nat) : w.cell? ⟨g, i, none⟩ = cs[i]? := cell_of_row w g i cs t (0, 0) h
theorem ay {w : World} {g : Nat} {t : TypeId} {cs : Array Value} (h : w.heap[g]? = some (.cells cs t (0, 0))) (i : Nat) : w.frozen? ⟨g, i, none⟩ = false := by simp [World.frozen?, h]
theorem pG {w w1 : World} {g : Nat} {o : Obj} {row : Option Nat} (h : w.heap[g]? = some o) (hg : w.grownBy w1 row) (hne : some g ≠ row) : w1.heap[g]? = some o := (hg.block g (jD h) hne).trans h
theorem Tq {w : World} {g g' : Nat} {t t' : TypeId} {cs cs' : Array Value} (h : w.heap[g]? = some (.cells cs t (0, 0))) (h' : w.heap[g']? = some (.cells cs' t' (0, 0))) (hne : t ≠ t') : g ≠ g' := by
  rintro rfl
  rw [h] at h'
  injection h' with h'
  injection h' with _ ht
  exact hne ht
def gV (w w' : World) (g : Nat) (row : Option Nat) : Prop := w.heap.size ≤ w'.heap.size ∧ ∀ i, i < w.heap.size → i ≠ g → some i ≠ row → w'.heap[i]? = w.heap[i]?
theorem gV.refl (w : World) (g : Nat) (row : Option Nat) : gV w w g row := ⟨Nat.le_refl _, fun _ _ _ _ => rfl⟩
theorem gV.of_below {w w1 : World} (h : Below w.heap.size w w1) (g : Nat) (row : Option Nat) : gV w w1 g row := ⟨h.size, fun i hi _ _ => h.block i hi⟩
theorem gV.trans {w w1 w2 : World} {g : Nat} {row gI : Option Nat} (h : gV w w1 g row) (k : gV w1 w2 g gI) (hr : gI = row ∨ ∃ b, gI = some b ∧ w.heap.size ≤ b) : gV w w2 g row :=
  ⟨Nat.le_trans h.1 k.1, fun i hi hg hn => by
    refine (k.2 i (Nat.lt_of_lt_of_le hi h.1) hg ?_).trans (h.2 i hi hg hn)
    rcases hr with rfl | ⟨b, rfl, hb⟩
    · exact hn
    · intro e
      injection e with e
      omega⟩
theorem gV.blk {w w1 : World} {g g' : Nat} {row : Option Nat} {o : Obj} (h : gV w w1 g row) (hb : w.heap[g']? = some o) (hg : g' ≠ g) (hr : some g' ≠ row) : w1.heap[g']? = some o := (h.2 g' (jD hb) hg hr).trans hb
theorem gV.own {w w1 : World} {g : Nat} {row : Option Nat} {base : Nat} {e : TypeId} {size n : Nat} {v : Value} {xs : List Value} (h : gV w w1 g row) (ho : w.ownsRow base e size v n xs) (hg : v.ownBlock ≠ some g) (hr : v.ownBlock = none ∨ v.ownBlock ≠ row) : w1.ownsRow base e size v n xs := by
  obtain ⟨h1, h2⟩ := ho
  refine ⟨h1, ?_⟩
  rcases h2 with h2 | ⟨b, cap, cur, rfl, hb, hh, r⟩
  · exact .inl h2
  · refine .inr ⟨b, cap, cur, rfl, hb, h.blk hh ?_ ?_, r⟩
    · intro e
      exact hg (by rw [← e]; rfl)
    · rcases hr with hr | hr
      · simp [Value.ownBlock] at hr
      · exact hr
def Ev {α : Type} (g : Nat → Option α) (r : α) : Prop := ∃ K, ∀ k, K ≤ k → g k = some r
theorem Ev.of {α : Type} {g : Nat → Option α} {r : α} (hg : ∀ k, kM (g k) (g (k + 1))) {k : Nat} (h : g k = some r) : Ev g r := ⟨k, fun _ hk => uE hg hk h⟩
theorem Ev.now {α : Type} (r : α) : Ev (fun _ => some r) r := ⟨0, fun _ _ => rfl⟩
theorem Ev.rounds {α : Type} {g : Nat → Option α} {r : α} (h : Ev g r) : ∃ k, g k = some r := by
  obtain ⟨K, h⟩ := h
  exact ⟨K, h K (Nat.le_refl _)⟩
theorem Ev.bind {α β : Type} {g : Nat → Option α} {f : Nat → α → Option β} {a : α} {r : β} (h : Ev g a) (k : Ev (fun n => f n a) r) : Ev (fun n => (g n).bind (f n)) r := by
  obtain ⟨K, h⟩ := h
  obtain ⟨K', k⟩ := k
  refine ⟨max K K', fun n hn => ?_⟩
  have h1 := h n (by omega)
  have h2 := k n (by omega)
  simp only [h1, Option.bind_some]
  exact h2
theorem Ev.step {α : Type} {g f : Nat → Option α} {r : α} (h : ∀ k, g (k + 1) = f k) (k : Ev f r) : Ev g r := by
  obtain ⟨K, k⟩ := k
  refine ⟨K + 1, fun n hn => ?_⟩
  obtain ⟨m, rfl⟩ : ∃ m, n = m + 1 := ⟨n - 1, by omega⟩
  rw [h]
  exact k m (by omega)
theorem Ev.congr {α : Type} {g f : Nat → Option α} {r : α} (h : ∀ k, g k = f k) (k : Ev f r) : Ev g r := by
  obtain ⟨K, k⟩ := k
  exact ⟨K, fun n hn => (h n).trans (k n hn)⟩
section
variable {P : Program} {ops : Array Oper} {o : Oper} {a : Act} {Q : Exit → Act → World → Prop} {K : Act → World → Prop}
theorem sK {w0 W : World} (base : Nat) (hw : Region.wanted o (yielded ops a.tmps) = true) (s x : Operand) (t e : TypeId) (z : Value) (size bytes : Nat)
    (ho : o.op = .call { callee := .builtin .append, args := #[s, x], argTypes := #[t, t] })
    (ht : P.underlying t = some (.slice e)) (hinfo : (P.info? e).map (fun i => (i.zero, i.size, i.bytes)) = some (some z, size, bytes)) (hz : z.cells.size = size) (hs0 : 0 < size) (hb0 : 0 < bytes)
    (v : Value) (n : Nat) (xs ys : List Value) (hs : a.eval s = v) (hx : a.eval x = .slice (some ⟨W.heap.size, 0, none⟩) 1 1) (hys : ys.length = size) (h1 : ∀ u ∈ ys, u.oneCell' = true)
    (HO : W.ownsRow base e size v n xs) (HB : Below base w0 W) (hbase : base ≤ W.heap.size) (hl : (n + 1) * bytes ≤ 140737488355328)
    (h : ∀ v1 w1, w1.ownsRow base e size v1 (n + 1) (xs ++ ys) → Below base w0 w1 → W.grownBy w1 v.ownBlock → (v1.ownBlock = v.ownBlock ∨ ∃ b, v1.ownBlock = some b ∧ W.heap.size ≤ b) → K (a.put o.dst v1) w1) :
    if Region.wanted o (yielded ops a.tmps) = true then Oper.wp P o a (W.alloc (.cells ys.toArray e)) K Q else K (a.put o.dst undef) (W.alloc (.cells ys.toArray e)) := by
  obtain ⟨i0, hi, hzz⟩ := Option.map_eq_some_iff.1 hinfo
  simp only [Prod.mk.injEq] at hzz
  obtain ⟨hz0, hz1, hz2⟩ := hzz
  have hlen : n + 1 ≤ 140737488355328 := Nat.le_trans (Nat.le_mul_of_pos_right _ hb0) hl
  rw [if_pos hw]
  obtain ⟨v1, w1, hr, hown, hg, _, hat⟩ := run_append_own_at (P := P) (W.alloc (.cells ys.toArray e)) base t o.type e i0 z size bytes ht hi hz0 hz1 hz2 hz hs0 v n xs (HO.alloc _) ⟨W.heap.size, 0, none⟩ 1 1 ys (by rw [hys]; simp)
    (by simpa using World.news_of_block (cs := ys.toArray) (t := e) (fr := (0, 0)) (heap_alloc_new W (.cells ys.toArray e))) h1 (by simp only [maxLen]; omega) hl (by simp; omega)
  unfold Oper.wp execOp
  simp only [ho, resolve, invoke, builtin, Sem.run_bind, Sem.run_pure, Result.andThen_ok, List.map_toArray, List.map_cons, List.map_nil, hs, hx, hr]
  refine h v1 w1 hown ((HB.alloc hbase _).grown hg (by simp; omega) (sI HO)) (World.grownBy.trans (World.grownBy_alloc W _ _) hg) ?_
  rcases hat with hat | hat
  · exact .inl hat
  · exact .inr ⟨_, hat, by simp⟩
end
theorem EM {w : World} {base base' : Nat} {e : TypeId} {size n : Nat} {v : Value} {xs : List Value} (h : w.ownsRow base e size v n xs) (hb : base' ≤ base) : w.ownsRow base' e size v n xs := by
  obtain ⟨h1, h2⟩ := h
  refine ⟨h1, ?_⟩
  rcases h2 with h2 | ⟨g, cap, cur, rfl, hg, r⟩
  · exact .inl h2
  · exact .inr ⟨g, cap, cur, rfl, Nat.le_trans hb hg, r⟩
section
variable {α : Type} {enc : α → Value} {d : α}
def encs (enc : α → Value) (xs : List α) : List Value := xs.map enc
def oG (d : α) (xs : List α) (i : Int) : α := xs.getD i.toNat d
theorem uY (xs : List α) : (encs enc xs).length = xs.length := by simp [encs]
theorem KH (xs : List α) (j : Nat) (h : j < xs.length) : (encs enc xs)[j]? = some (enc (xs.getD j d)) := by
  simp [encs, List.getElem?_eq_getElem h, List.getD_eq_getElem?_getD]
def fV (enc : α → Value) (d : α) (w : World) (A : Option Addr) (n : Nat) (xs : List α) : Prop :=
  xs.length = n ∧ n ≤ 9223372036854775807 ∧ (0 < n → ∃ ad, A = some ad ∧ ∀ j, j < n → w.cell? (ad.add j) = some (enc (xs.getD j d)))
theorem fV.at_ {w : World} {A : Option Addr} {n : Nat} {xs : List α} (h : fV enc d w A n xs) (i : Int) (h0 : 0 ≤ i) (h1 : i < n) : ∃ ad, A = some ad ∧ w.cell? (ad.add i.toNat) = some (enc (oG d xs i)) := by
  obtain ⟨ad, e, hc⟩ := h.2.2 (by omega)
  exact ⟨ad, e, hc _ (by omega)⟩
theorem fV.below {w w1 : World} {A : Option Addr} {n : Nat} {xs : List α} (h : fV enc d w A n xs) (hb : Below w.heap.size w w1) : fV enc d w1 A n xs :=
  ⟨h.1, h.2.1, fun hn => by
    obtain ⟨ad, e, hc⟩ := h.2.2 hn
    exact ⟨ad, e, fun j hj => mP hb (hc j hj)⟩⟩
theorem fV.Dl {w : World} {A : Option Addr} {n : Nat} {xs : List α} (h : fV enc d w A n xs) (i : Nat) (hi : i ≤ n) : fV enc d w A i (xs.take i) := by
  refine ⟨by rw [List.length_take, h.1]; omega, by have := h.2.1; omega, fun hp => ?_⟩
  obtain ⟨ad, e, hc⟩ := h.2.2 (by omega)
  refine ⟨ad, e, fun j hj => ?_⟩
  rw [hc j (by omega)]
  simp [List.getD_eq_getElem?_getD, hj]
theorem Ib {W : World} {base g n cap : Nat} {e : TypeId} {xs : List α} (h : W.ownsRow base e 1 (.slice (some ⟨g, 0, none⟩) n cap) n (encs enc xs)) (i : Int) (h0 : 0 ≤ i) (h1 : i < n) :
    W.cell? ⟨g, i.toNat, none⟩ = some (enc (oG d xs i)) ∧ W.frozen? ⟨g, i.toNat, none⟩ = false := by
  have hl : xs.length = n := by have := h.1; simp [encs] at this; exact this
  constructor
  · have hc := h.cells (g := g) rfl i.toNat _ (KH (d := d) xs i.toNat (by omega))
    rwa [add_plain] at hc
  · rcases h.2 with ⟨h', _⟩ | ⟨g', cap', cur, h', _, hh, _⟩
    · cases h'
    · have : g = g' := by injection h' with h'; injection h' with h'; injection h' with h'
      subst this
      simp [World.frozen?, hh]
theorem A9 {W : World} {base g n cap : Nat} {e : TypeId} {xs : List α} (h : W.ownsRow base e 1 (.slice (some ⟨g, 0, none⟩) n cap) n (encs enc xs)) (i : Int) (x : α) :
    (W.setCell ⟨g, i.toNat, none⟩ (enc x)).ownsRow base e 1 (.slice (some ⟨g, 0, none⟩) n cap) n (encs enc (xs.set i.toNat x)) ∧ W.grownBy (W.setCell ⟨g, i.toNat, none⟩ (enc x)) (some g) := by
  have hs := h.stored i.toNat (enc x)
  have he : (encs enc xs).set i.toNat (enc x) = encs enc (xs.set i.toNat x) := by simp [encs, List.map_set]
  rwa [he] at hs
end
section
variable {α : Type} {P : Program} {ops : Array Oper} {rest : List Oper} {o : Oper} {a : Act} {Q : Exit → Act → World → Prop}
end
theorem aA {w : World} {g : Nat} {o : Obj} (h : w.heap[g]? = some o) (o' : Obj) : (w.alloc o').heap[g]? = some o := (Below.heap_alloc w o' g (jD h)).trans h
theorem aI {w : World} {g : Nat} {o : Obj} (h : w.heap[g]? = some o) : w.drew.heap[g]? = some o := h
theorem aG {w : World} {g : Nat} {o : Obj} (h : w.heap[g]? = some o) (n : Nat) : (w.drewN n).heap[g]? = some o := h
theorem dM {w w1 : World} {g : Nat} {o : Obj} (h : w.heap[g]? = some o) (hb : Below w.heap.size w w1) : w1.heap[g]? = some o := (hb.block g (jD h)).trans h
theorem sM (w : World) (o : Obj) : (w.alloc o).heap[w.heap.size]? = some o := heap_alloc_new w o
section
variable {P : Program}
theorem jL {fn : Func} {p u : Tmp} {ty : TypeId} (h : fn.results = #[.cell p ty, .tmp u]) (tmps : Array Value) (w : World) (g : Nat) (t : TypeId) (cs : Array Value) (fr : Nat × Nat) (d : TypeDesc)
    (hp : tmps.getD p undef = .pointer (some ⟨g, 0, none⟩)) (hg : w.heap[g]? = some (.cells cs t fr))
    (hu : P.underlying ty = some d) (hd : (match d with | .struct _ | .array _ _ => true | _ => false) = true) (hi : (P.info? ty).map (·.size) = some cs.size) :
    (results fn tmps).run P w = .ok (.tuple #[.agg cs, tmps.getD u undef]) w := by
  have hp' : tmps[p]?.getD undef = .pointer (some ⟨g, 0, none⟩) := by simpa using hp
  simp [results, h, hp', asAddr, run_loadVar_row w g t ty cs fr d hg hu hd hi]
end
theorem Tt {w : World} {base n m c size : Nat} {e : TypeId} {A : Option Addr} {xs : List Value} (h : w.ownsRow base e size (.slice A m c) n xs) : m ≤ c := by
  rcases h.2 with ⟨he, _⟩ | ⟨g, cap, cur, he, _, _, hnc, _⟩
  · injection he with _ h2 h3
    omega
  · injection he with _ h2 h3
    omega
def fQ {α : Type} (R : α → List Value → Prop) (e : TypeId) (size : Nat) (w : World) (base : Nat) (v : Value) (ps : List α) : Prop :=
  ∃ inner, w.ownsRow base e size v ps.length inner ∧ fM R size ps inner
section
variable {α : Type} {R R' : α → List Value → Prop} {e : TypeId} {size : Nat} {w w1 : World} {base : Nat} {v : Value} {ps : List α}
theorem fQ.none_ (R : α → List Value → Prop) (e : TypeId) (size : Nat) (w : World) (base : Nat) : fQ R e size w base (.slice none 0 0) [] := ⟨[], NM _ _ _ _, fM.none _ _⟩
theorem fQ.yR (h : fQ R e size w base v ps) (hR : ∀ p c, R p c → R' p c) : fQ R' e size w base v ps := by
  obtain ⟨inner, ho, hr⟩ := h
  exact ⟨inner, ho, hr.yR hR⟩
theorem fQ.below (h : fQ R e size w base v ps) (hb : Below w.heap.size w w1) : fQ R e size w1 base v ps := by
  obtain ⟨inner, ho, hr⟩ := h
  exact ⟨inner, sJ ho hb, hr⟩
theorem fQ.other (h : fQ R e size w base v ps) {row : Option Nat} (hg : w.grownBy w1 row) (hne : v.ownBlock = none ∨ v.ownBlock ≠ row) : fQ R e size w1 base v ps := by
  obtain ⟨inner, ho, hr⟩ := h
  exact ⟨inner, Ia ho hg hne, hr⟩
theorem fQ.keep (h : fQ R e size w base v ps) {g : Nat} {t : TypeId} {cells : Array Value} (hb : w.heap[g]? = some (.cells cells t (0, 0))) (ht : e ≠ t) (hk : gV w w1 g none) : fQ R e size w1 base v ps := by
  obtain ⟨inner, ho, hr⟩ := h
  exact ⟨inner, hk.own ho (Ne.symm (own_ne ho hb ht)) (by cases v.ownBlock <;> simp), hr⟩
theorem fQ.reads (h : fQ R e size w base v ps) : ∃ A c, v = .slice A ps.length c ∧ ps.length ≤ c ∧ lW R size w A ps.length ps := by
  obtain ⟨inner, ho, hr⟩ := h
  obtain ⟨A, c, rfl, hrow⟩ := yS ho hr rfl
  exact ⟨A, c, rfl, Tt ho, hrow⟩
theorem fQ.KI (h : fQ R e size w base v ps) {g : Nat} {t : TypeId} {cells : Array Value} (hb : w.heap[g]? = some (.cells cells t (0, 0))) (ht : e ≠ t) : some g ≠ v.ownBlock := by
  obtain ⟨inner, ho, hr⟩ := h
  exact own_ne ho hb ht
theorem fQ.lit (W : World) (base : Nat) {inner : List Value} (hr : fM R size ps inner) (hb : base ≤ W.heap.size) (hm : ps.length ≤ 9223372036854775807) :
    fQ R e size (W.alloc (.cells inner.toArray e)) base (.slice (some ⟨W.heap.size, 0, none⟩) ps.length ps.length) ps := by
  have h := World.ownsRow_lit (base := base) (e := e) (size := size) W inner.toArray ps.length hb (by simpa [maxLen] using hm) (by simpa using hr.1)
  exact ⟨inner, by simpa using h, hr⟩
end
section
variable {P : Program} {ops : Array Oper} {rest : List Oper} {o : Oper} {a : Act} {Q : Exit → Act → World → Prop} {α : Type} {R : α → List Value → Prop}
theorem fQ.append {w0 W : World} (base : Nat) (hgd : o.guard = none) (s x : Operand) (t e : TypeId) (z : Value) (size bytes : Nat)
    (ho : o.op = .call { callee := .builtin .append, args := #[s, x], argTypes := #[t, t] })
    (ht : P.underlying t = some (.slice e)) (hinfo : (P.info? e).map (fun i => (i.zero, i.size, i.bytes)) = some (some z, size, bytes)) (hz : z.cells.size = size) (hs0 : 0 < size) (hb0 : 0 < bytes)
    (v : Value) (ps : List α) (p : α) (cs : List Value) (hs : a.eval s = v) (hx : a.eval x = .slice (some ⟨W.heap.size, 0, none⟩) 1 1) (hp : R p cs) (hcs : cs.length = size) (h1 : ∀ u ∈ cs, u.oneCell' = true)
    (HO : fQ R e size W base v ps) (HB : Below base w0 W) (hbase : base ≤ W.heap.size) (hl : (ps.length + 1) * bytes ≤ 140737488355328)
    (h : ∀ v1 w1, fQ R e size w1 base v1 (ps ++ [p]) → Below base w0 w1 → W.grownBy w1 v.ownBlock → (v1.ownBlock = v.ownBlock ∨ ∃ b, v1.ownBlock = some b ∧ W.heap.size ≤ b) → wpList P ops Q rest (a.put o.dst v1) w1) :
    wpList P ops Q (o :: rest) a (W.alloc (.cells cs.toArray e)) := by
  obtain ⟨inner, hown, hr⟩ := HO
  refine lX base hgd s x t e z size bytes ho ht hinfo hz hs0 hb0 v ps.length inner cs hs hx hcs h1 hown HB hbase hl ?_
  intro v1 w1 hown1 hb1 hg1 EN
  exact h v1 w1 ⟨inner ++ cs, by rw [List.length_append, List.length_singleton]; exact hown1, hr.snoc hp hcs⟩ hb1 hg1 EN
end
section
variable {P : Program} {ops : Array Oper} {o : Oper} {a : Act} {Q : Exit → Act → World → Prop} {K : Act → World → Prop} {α : Type} {R : α → List Value → Prop}
end
section
variable {α : Type} {P : Program}
theorem fV.len_ {enc : α → Value} {d : α} {w : World} {A : Option Addr} {n : Nat} {xs : List α} (h : fV enc d w A n xs) : fV enc d w A xs.length xs := by rw [h.1]; exact h
end
section
variable {P : Program} {ops : Array Oper} {rest : List Oper} {o : Oper} {a : Act} {Q : Exit → Act → World → Prop}
end
structure Kd (α : Type) where
  sz : Nat
  E : List Nat
  K : World → α → List Value → Prop
  M : World → Nat → (Nat → Prop) → α → List Value → Prop
  nT : ∀ {w x cs}, K w x cs → cs.length = sz
  oH : ∀ {w x cs}, K w x cs → ∀ u ∈ cs, u.oneCell' = true
  lG : ∀ {w w1 : World} {x cs}, Below w.heap.size w w1 → K w x cs → K w1 x cs
  jg : ∀ {w base ok x cs}, M w base ok x cs → K w x cs
  jX : ∀ {w base ok ok' x cs}, (∀ k, ok k → ok' k) → M w base ok x cs → M w base ok' x cs
  jY : ∀ {w : World} {base ok x cs}, M w base ok x cs → M w base (fun k => ok k ∧ base ≤ k ∧ k < w.heap.size ∧ ∃ q, q ∈ E ∧ ∃ cells, w.heap[k]? = some (.cells cells q (0, 0))) x cs
  lY : ∀ {w w1 : World} {base ok x cs}, (∀ k, ok k → w1.heap[k]? = w.heap[k]?) → M w base ok x cs → M w1 base ok x cs
  lH : ∀ {w base base' ok x cs}, base' ≤ base → M w base ok x cs → M w base' ok x cs
theorem KJ {w w1 : World} {base : Nat} {e : TypeId} {size n : Nat} {v : Value} {xs : List Value} (h : w.ownsRow base e size v n xs) (hm : ∀ k, v.ownBlock = some k → w1.heap[k]? = w.heap[k]?) : w1.ownsRow base e size v n xs := by
  obtain ⟨h1, h2⟩ := h
  refine ⟨h1, ?_⟩
  rcases h2 with h2 | ⟨g, cap, cur, rfl, hg, hh, r⟩
  · exact .inl h2
  · exact .inr ⟨g, cap, cur, rfl, hg, (hm g (by simp [Value.ownBlock])).trans hh, r⟩
theorem zF {w : World} {base : Nat} {e : TypeId} {size n : Nat} {v : Value} {xs : List Value} (h : w.ownsRow base e size v n xs) (k : Nat) (hk : v.ownBlock = some k) : ∃ cells, w.heap[k]? = some (.cells cells e (0, 0)) := by
  rcases h.2 with ⟨rfl, _⟩ | ⟨g, cap, cur, rfl, hg, hh, r⟩
  · simp [Value.ownBlock] at hk
  · have : g = k := by simpa [Value.ownBlock] using hk
    subst this
    exact ⟨cur, hh⟩
namespace Kd
def C {α : Type} (d : Kd α) (w : World) (A : Option Addr) (n : Nat) (xs : List α) : Prop := lW (d.K w) d.sz w A n xs
def R {α : Type} (d : Kd α) (e : Nat) (w : World) (base : Nat) (ok : Nat → Prop) (v : Value) (xs : List α) : Prop :=
  (∀ k, v.ownBlock = some k → ok k) ∧ fQ (d.M w base (fun k => ok k ∧ some k ≠ v.ownBlock)) e d.sz w base v xs
section
variable {α : Type} {d : Kd α} {e : Nat} {w w1 : World} {base : Nat} {ok ok' : Nat → Prop} {v : Value} {xs : List α}
theorem NQ {A : Option Addr} {n : Nat} (h : d.C w A n xs) (hb : Below w.heap.size w w1) : d.C w1 A n xs := lW.yR h hb (fun _ _ hp => d.lG hb hp)
theorem jA (d : Kd α) (e : Nat) (w : World) (base : Nat) (ok : Nat → Prop) : d.R e w base ok (.slice none 0 0) [] := ⟨fun k hk => by simp [Value.ownBlock] at hk, fQ.none_ _ _ _ _ _⟩
theorem oI (h : d.R e w base ok v xs) (hok : ∀ k, ok k → ok' k) : d.R e w base ok' v xs := ⟨fun k hk => hok k (h.1 k hk), h.2.yR (fun _ _ hp => d.jX (fun k hk => ⟨hok k hk.1, hk.2⟩) hp)⟩
theorem Ba (h : d.R e w base ok v xs) : d.R e w base (fun k => ok k ∧ base ≤ k ∧ k < w.heap.size ∧ ∃ q, q ∈ e :: d.E ∧ ∃ cells, w.heap[k]? = some (.cells cells q (0, 0))) v xs := by
  obtain ⟨h0, inner, ho, hr⟩ := h
  refine ⟨fun k hk => ?_, inner, ho, hr.yR (fun _ _ hp => d.jX (fun k hk => ?_) (d.jY hp))⟩
  · obtain ⟨cells, hc⟩ := zF ho k hk
    exact ⟨h0 k hk, sI ho k hk, Tp ho k hk, e, List.mem_cons_self, cells, hc⟩
  · obtain ⟨⟨h1, h2⟩, h3, h4, q, hq, hc⟩ := hk
    exact ⟨⟨h1, h3, h4, q, List.mem_cons_of_mem _ hq, hc⟩, h2⟩
theorem KL (h : d.R e w base ok v xs) (hm : ∀ k, ok k → w1.heap[k]? = w.heap[k]?) : d.R e w1 base ok v xs := by
  obtain ⟨h0, inner, ho, hr⟩ := h
  exact ⟨h0, inner, KJ ho (fun k hk => hm k (h0 k hk)), hr.yR (fun _ _ hp => d.lY (fun k hk => hm k hk.1) hp)⟩
theorem sN {base' : Nat} (h : d.R e w base ok v xs) (hb : base' ≤ base) : d.R e w base' ok v xs := by
  obtain ⟨h0, inner, ho, hr⟩ := h
  exact ⟨h0, inner, EM ho hb, hr.yR (fun _ _ hp => d.lH hb hp)⟩
theorem KM (h : d.R e w base ok v xs) (hm : ∀ k, ok k → k < w.heap.size → w1.heap[k]? = w.heap[k]?) : d.R e w1 base ok v xs :=
  oI (KL (Ba h) (fun k hk => hm k hk.1 hk.2.2.1)) (fun _ hk => hk.1)
theorem Tv {x : α} {cs : List Value} (h : d.M w base ok x cs) (hm : ∀ k, ok k → k < w.heap.size → w1.heap[k]? = w.heap[k]?) : d.M w1 base ok x cs :=
  d.jX (fun _ hk => hk.1) (d.lY (fun k hk => hm k hk.1 hk.2.2.1) (d.jY h))
theorem jZ (h : d.R e w base ok v xs) (hb : Below w.heap.size w w1) : d.R e w1 base ok v xs := KM h (fun k _ hk => hb.block k hk)
theorem sO (h : d.R e w base ok v xs) {p : Addr} (hok : ∀ k, ok k → k ≠ p.block) (u : Value) : d.R e (w.setCell p u) base ok v xs := KM h (fun k ho _ => Below.heap_setCell w p u k (hok k ho))
theorem sP (h : d.R e w base ok v xs) {g t : Nat} {cells : Array Value} (hb : w.heap[g]? = some (.cells cells t (0, 0))) (ht : ∀ q, q ∈ e :: d.E → q ≠ t) : d.R e w base (fun k => ok k ∧ k ≠ g) v xs :=
  oI (Ba h) (fun k hk => ⟨hk.1, by
    obtain ⟨_, _, _, q, hq, cells', hc⟩ := hk
    rintro rfl
    rw [hc] at hb
    injection hb with hb
    injection hb with _ hb
    exact ht q hq hb⟩)
theorem KN (h : d.R e w base ok v xs) {g t : Nat} {cells : Array Value} (hb : w.heap[g]? = some (.cells cells t (0, 0))) (ht : ∀ q, q ∈ e :: d.E → q ≠ t) (j : Nat) (u : Value) : d.R e (w.setCell ⟨g, j, none⟩ u) base ok v xs :=
  oI (sO (p := ⟨g, j, none⟩) (sP h hb ht) (fun _ hk => hk.2) u) (fun _ hk => hk.1)
theorem Bb (h : d.R e w base ok v xs) : ∃ A c, v = .slice A xs.length c ∧ xs.length ≤ c ∧ d.C w A xs.length xs := by
  obtain ⟨A, c, he, hl, hr⟩ := fQ.reads h.2
  exact ⟨A, c, he, hl, hr.yR (Below.refl _ _) (fun _ _ hp => d.jg hp)⟩
theorem vU (h : d.R e w base ok v xs) : ∃ A c, v = .slice A xs.length c := by
  obtain ⟨A, c, he, _⟩ := Bb h
  exact ⟨A, c, he⟩
theorem Qy (h : d.R e w base ok v xs) : ∃ inner, w.ownsRow base e d.sz v xs.length inner := by
  obtain ⟨_, inner, ho, _⟩ := h
  exact ⟨inner, ho⟩
theorem NR (h : d.R e w base ok v xs) {g t : Nat} {cells : Array Value} (hb : w.heap[g]? = some (.cells cells t (0, 0))) (ht : e ≠ t) : some g ≠ v.ownBlock := fQ.KI h.2 hb ht
end
def scalar {α : Type} (enc : α → Value) (h1 : ∀ x, (enc x).oneCell' = true) : Kd α where
  sz := 1
  E := []
  K := fun _ x cs => cs = [enc x]
  M := fun _ _ _ x cs => cs = [enc x]
  nT := fun h => by rw [h]; rfl
  oH := fun h u hu => by
    rw [h] at hu
    rw [List.mem_singleton.1 hu]
    exact h1 _
  lG := fun _ h => h
  jg := fun h => h
  jX := fun _ h => h
  jY := fun h => h
  lY := fun _ h => h
  lH := fun _ h => h
def int (k : IntKind) : Kd Int := scalar (Value.int k) (fun _ => rfl)
def bool : Kd Bool := scalar Value.bool (fun _ => rfl)
def string : Kd ByteArray := scalar Value.string (fun _ => rfl)
def slice {α : Type} (e : Nat) (d : Kd α) : Kd (List α) where
  sz := 1
  E := e :: d.E
  K := fun w xs cs => ∃ A c, cs = [.slice A xs.length c] ∧ xs.length ≤ c ∧ d.C w A xs.length xs
  M := fun w base ok xs cs => ∃ v, cs = [v] ∧ d.R e w base ok v xs
  nT := by
    rintro w x cs ⟨A, c, rfl, _⟩
    rfl
  oH := by
    rintro w x cs ⟨A, c, rfl, _⟩ u hu
    rw [List.mem_singleton.1 hu]
    rfl
  lG := by
    rintro w w1 x cs hb ⟨A, c, rfl, hl, hr⟩
    exact ⟨A, c, rfl, hl, NQ hr hb⟩
  jg := by
    rintro w base ok x cs ⟨v, rfl, h⟩
    obtain ⟨A, c, rfl, hl, hr⟩ := Bb h
    exact ⟨A, c, rfl, hl, hr⟩
  jX := by
    rintro w base ok ok' x cs hok ⟨v, rfl, h⟩
    exact ⟨v, rfl, oI h hok⟩
  jY := by
    rintro w base ok x cs ⟨v, rfl, h⟩
    exact ⟨v, rfl, Ba h⟩
  lY := by
    rintro w w1 base ok x cs hm ⟨v, rfl, h⟩
    exact ⟨v, rfl, KL h hm⟩
  lH := by
    rintro w base base' ok x cs hb ⟨v, rfl, h⟩
    exact ⟨v, rfl, sN h hb⟩
def bot {α : Type} (sz : Nat) (E : List Nat) : Kd α where
  sz := sz
  E := E
  K := fun _ _ _ => False
  M := fun _ _ _ _ _ => False
  nT := fun h => h.elim
  oH := fun h => h.elim
  lG := fun _ h => h
  jg := fun h => h
  jX := fun _ h => h
  jY := fun h => h
  lY := fun _ h => h
  lH := fun _ h => h
def upto {α : Type} (F : Kd α → Kd α) (sz : Nat) (E : List Nat) : Nat → Kd α
  | 0 => bot sz E
  | n + 1 => F (upto F sz E n)
theorem xC {α : Type} {d : Kd α} {e base : Nat} {ok Ic : Nat → Prop} {W w1 : World} {v v1 : Value} {xs : List α} {p : α} {inner cs : List Value} (h0 : ∀ k, v.ownBlock = some k → ok k) (hr : fM (d.M W base (fun k => ok k ∧ some k ≠ v.ownBlock)) d.sz xs inner) (hp : d.M W base Ic p cs) (KO : ∀ k, Ic k → ok k ∧ some k ≠ v.ownBlock) (hfresh : ∀ k, W.heap.size ≤ k → ok k)
    (hown : w1.ownsRow base e d.sz v1 (xs.length + 1) (inner ++ cs)) (hg : W.grownBy w1 v.ownBlock) (hat : v1.ownBlock = v.ownBlock ∨ ∃ b, v1.ownBlock = some b ∧ W.heap.size ≤ b) : d.R e w1 base ok v1 (xs ++ [p]) := by
  have hne : ∀ k, some k ≠ v.ownBlock → k < W.heap.size → some k ≠ v1.ownBlock := by
    intro k hk hlt
    rcases hat with hat | ⟨b, hb, hle⟩
    · rw [hat]; exact hk
    · rw [hb]
      intro he
      injection he with he
      omega
  have step : ∀ {q : α} {c : List Value} {o : Nat → Prop}, d.M W base o q c → (∀ k, o k → ok k ∧ some k ≠ v.ownBlock) → d.M w1 base (fun k => ok k ∧ some k ≠ v1.ownBlock) q c := by
    intro q c o hq ho
    have h1 := d.lY (w1 := w1) (fun k hk => hg.block k hk.2.2.1 (ho k hk.1).2) (d.jY hq)
    exact d.jX (fun k hk => ⟨(ho k hk.1).1, hne k (ho k hk.1).2 hk.2.2.1⟩) h1
  refine ⟨fun k hk => ?_, inner ++ cs, by rw [List.length_append, List.length_singleton]; exact hown, ?_⟩
  · rcases hat with hat | ⟨b, hb, hle⟩
    · exact h0 k (hat ▸ hk)
    · rw [hb] at hk
      injection hk with hk
      exact hfresh k (by omega)
  · exact (hr.yR (fun _ _ hq => step hq (fun _ hk => hk))).snoc (step hp KO) (d.nT (d.jg hp))
section
variable {P : Program} {ops : Array Oper} {rest : List Oper} {o : Oper} {a : Act} {Q : Exit → Act → World → Prop} {α : Type}
theorem xD (d : Kd α) {w0 W : World} (base : Nat) (hgd : o.guard = none) (s x : Operand) (t e : TypeId) (z : Value) (bytes : Nat)
    (ho : o.op = .call { callee := .builtin .append, args := #[s, x], argTypes := #[t, t] })
    (ht : P.underlying t = some (.slice e)) (hinfo : (P.info? e).map (fun i => (i.zero, i.size, i.bytes)) = some (some z, d.sz, bytes)) (hz : z.cells.size = d.sz) (hs0 : 0 < d.sz) (hb0 : 0 < bytes)
    (v : Value) (xs : List α) (p : α) (cs : List Value) (ok Ic : Nat → Prop) (hs : a.eval s = v) (hx : a.eval x = .slice (some ⟨W.heap.size, 0, none⟩) 1 1) (hp : d.M W base Ic p cs) (KO : ∀ k, Ic k → ok k ∧ some k ≠ v.ownBlock) (hfresh : ∀ k, W.heap.size ≤ k → ok k)
    (HO : d.R e W base ok v xs) (HB : Below base w0 W) (hbase : base ≤ W.heap.size) (hl : (xs.length + 1) * bytes ≤ 140737488355328)
    (h : ∀ v1 w1, d.R e w1 base ok v1 (xs ++ [p]) → Below base w0 w1 → W.grownBy w1 v.ownBlock → (v1.ownBlock = v.ownBlock ∨ ∃ b, v1.ownBlock = some b ∧ W.heap.size ≤ b) → wpList P ops Q rest (a.put o.dst v1) w1) :
    wpList P ops Q (o :: rest) a (W.alloc (.cells cs.toArray e)) := by
  obtain ⟨h0, inner, hown, hr⟩ := HO
  refine lX base hgd s x t e z d.sz bytes ho ht hinfo hz hs0 hb0 v xs.length inner cs hs hx (d.nT (d.jg hp)) (d.oH (d.jg hp)) hown HB hbase hl ?_
  intro v1 w1 hown1 hb1 hg1 EN
  exact h v1 w1 (xC h0 hr hp KO hfresh hown1 hg1 EN) hb1 hg1 EN
end
section
variable {P : Program} {ops : Array Oper} {o : Oper} {a : Act} {Q : Exit → Act → World → Prop} {Kc : Act → World → Prop} {α : Type}
theorem yT (d : Kd α) {w0 W : World} (base : Nat) (hw : Region.wanted o (yielded ops a.tmps) = true) (s x : Operand) (t e : TypeId) (z : Value) (bytes : Nat)
    (ho : o.op = .call { callee := .builtin .append, args := #[s, x], argTypes := #[t, t] })
    (ht : P.underlying t = some (.slice e)) (hinfo : (P.info? e).map (fun i => (i.zero, i.size, i.bytes)) = some (some z, d.sz, bytes)) (hz : z.cells.size = d.sz) (hs0 : 0 < d.sz) (hb0 : 0 < bytes)
    (v : Value) (xs : List α) (p : α) (cs : List Value) (ok Ic : Nat → Prop) (hs : a.eval s = v) (hx : a.eval x = .slice (some ⟨W.heap.size, 0, none⟩) 1 1) (hp : d.M W base Ic p cs) (KO : ∀ k, Ic k → ok k ∧ some k ≠ v.ownBlock) (hfresh : ∀ k, W.heap.size ≤ k → ok k)
    (HO : d.R e W base ok v xs) (HB : Below base w0 W) (hbase : base ≤ W.heap.size) (hl : (xs.length + 1) * bytes ≤ 140737488355328)
    (h : ∀ v1 w1, d.R e w1 base ok v1 (xs ++ [p]) → Below base w0 w1 → W.grownBy w1 v.ownBlock → (v1.ownBlock = v.ownBlock ∨ ∃ b, v1.ownBlock = some b ∧ W.heap.size ≤ b) → Kc (a.put o.dst v1) w1) :
    if Region.wanted o (yielded ops a.tmps) = true then Oper.wp P o a (W.alloc (.cells cs.toArray e)) Kc Q else Kc (a.put o.dst undef) (W.alloc (.cells cs.toArray e)) := by
  obtain ⟨h0, inner, hown, hr⟩ := HO
  refine sK base hw s x t e z d.sz bytes ho ht hinfo hz hs0 hb0 v xs.length inner cs hs hx (d.nT (d.jg hp)) (d.oH (d.jg hp)) hown HB hbase hl ?_
  intro v1 w1 hown1 hb1 hg1 EN
  exact h v1 w1 (xC h0 hr hp KO hfresh hown1 hg1 EN) hb1 hg1 EN
end
theorem Dm {α : Type} {enc : α → Value} (xs : List α) : fM (fun (x : α) (cs : List Value) => cs = [enc x]) 1 xs (encs enc xs) := by
  refine ⟨by simp [encs], fun j p hj => ?_⟩
  obtain ⟨hl, hp⟩ := List.getElem?_eq_some_iff.1 hj
  have hl' : j < (encs enc xs).length := by rw [uY]; exact hl
  rw [Nat.mul_one, List.drop_eq_getElem_cons hl']
  simp [encs, hp]
theorem KP {α : Type} {enc : α → Value} {h1 : ∀ x, (enc x).oneCell' = true} {e : Nat} {w : World} {base : Nat} {ok : Nat → Prop} {v : Value} {xs : List α} (ho : w.ownsRow base e 1 v xs.length (encs enc xs)) (hok : ∀ k, v.ownBlock = some k → ok k) : (scalar enc h1).R e w base ok v xs := ⟨hok, encs enc xs, ho, Dm xs⟩
theorem sQ {α : Type} {enc : α → Value} {h1 : ∀ x, (enc x).oneCell' = true} {e : Nat} {w : World} {base : Nat} {ok : Nat → Prop} {v : Value} {xs : List α} (h : (scalar enc h1).R e w base ok v xs) : w.ownsRow base e 1 v xs.length (encs enc xs) := by
  obtain ⟨_, inner, ho, hr⟩ := h
  have : inner = encs enc xs := by
    apply List.ext_getElem?
    intro j
    rcases Nat.lt_or_ge j xs.length with hj | hj
    · have h2 := hr.2 j _ (List.getElem?_eq_getElem hj)
      have hl : j < inner.length := by have := hr.1; simp [scalar] at this; omega
      have h3 : (inner.drop (j * 1)).take 1 = [enc xs[j]] := h2
      rw [Nat.mul_one, List.drop_eq_getElem_cons hl] at h3
      have h4 : inner[j] = enc xs[j] := by
        have h5 := congrArg List.head? h3
        rw [List.take_succ_cons] at h5
        exact Option.some.inj h5
      rw [List.getElem?_eq_getElem hl, h4]
      simp [encs, List.getElem?_eq_getElem hj]
    · have h3 : inner.length = xs.length := by have := hr.1; simp [scalar] at this; omega
      rw [List.getElem?_eq_none (by omega), List.getElem?_eq_none (by rw [uY]; omega)]
  rw [← this]
  exact ho
theorem EO {α : Type} {enc : α → Value} {d : α} {h1 : ∀ x, (enc x).oneCell' = true} {w : World} {A : Option Addr} {n : Nat} {xs : List α} (h : (scalar enc h1).C w A n xs) : fV enc d w A n xs := by
  refine ⟨h.1, h.2.1, fun hn => ?_⟩
  obtain ⟨ad, e, hc⟩ := h.2.2 hn
  refine ⟨ad, e, fun j hj => ?_⟩
  have hl : j < xs.length := by have := h.1; omega
  obtain ⟨c, _, hK, hcell⟩ := hc j _ (List.getElem?_eq_getElem hl)
  have hK' : c = [enc xs[j]] := hK
  subst hK'
  have := hcell 0 _ rfl
  simpa [scalar, List.getD_eq_getElem?_getD, List.getElem?_eq_getElem hl] using this
end Kd
namespace Kd
section
variable {α : Type} {F : Kd α → Kd α} {sz : Nat} {E : List Nat} {hs : ∀ n, (upto F sz E n).sz = sz} {hE : ∀ n q, q ∈ (upto F sz E n).E → q ∈ E}
end
end Kd
namespace Kd
end Kd
namespace Kd
section
variable {α β : Type} {d : Kd α} {d' : Kd β} {e e' : Nat} {w w1 W : World} {base b b' : Nat} {ok ok' okv oku : Nat → Prop} {v u : Value} {xs : List α} {ys : List β}
theorem eX (h : d.R e w base ok v xs) (o : Obj) : d.R e (w.alloc o) base ok v xs := jZ h (ak (Below.refl _ _) o)
theorem fP (h : d.R e w base ok v xs) : d.R e w.drew base ok v xs := jZ h (jf (Below.refl _ _))
theorem fF (h : d.R e w base ok v xs) (m : Nat) : d.R e (w.drewN m) base ok v xs := jZ h (ah (Below.refl _ _) m)
theorem XG (d : Kd α) (w : World) : d.C w none ([] : List α).length [] := ⟨rfl, by simp, fun h => absurd h (Nat.lt_irrefl 0)⟩
theorem XH {A : Option Addr} {n : Nat} (h : d.C w A n xs) : n ≤ 9223372036854775807 := h.2.1
theorem oJ {A : Option Addr} {n c : Nat} (h : d.R e w base ok (.slice A n c) xs) : n = xs.length ∧ n ≤ c ∧ d.C w A xs.length xs := by
  obtain ⟨A', c', he, hl, hr⟩ := Bb h
  injection he with h1 h2 h3
  subst h1
  exact ⟨h2, by omega, hr⟩
theorem Tw (h : d.R e w base ok v xs) : ∀ k, v.ownBlock = some k → base ≤ k := by
  obtain ⟨inner, ho⟩ := Qy h
  exact sI ho
theorem Tx (h : d.R e w base ok v xs) (hp : 0 < xs.length) : ∃ g cap, v = .slice (some ⟨g, 0, none⟩) xs.length cap ∧ base ≤ g ∧ g < w.heap.size ∧ ∃ cells, w.heap[g]? = some (.cells cells e (0, 0)) := by
  obtain ⟨inner, ho⟩ := Qy h
  obtain ⟨g, cap, he, hb, hl⟩ := ho.form hp
  obtain ⟨cells, hc⟩ := zF ho g (by rw [he]; simp [Value.ownBlock])
  exact ⟨g, cap, he, hb, hl, cells, hc⟩
end
section
variable {w W : World} {A : Option Addr} {n : Nat}
theorem zG {xs : List ByteArray} (h : Kd.string.C w A n xs) (i : Int) (h0 : 0 ≤ i) (h1 : i < n) : ∃ ad, A = some ad ∧ w.cell? (ad.add i.toNat) = some (.string (oG ByteArray.empty xs i)) :=
  fV.at_ (EO (enc := Value.string) (d := ByteArray.empty) (h1 := fun _ => rfl) h) i h0 h1
variable {α : Type} {enc : α → Value} {h1 : ∀ x, (enc x).oneCell' = true} {e base g cap : Nat} {ok : Nat → Prop} {xs : List α}
theorem KQ (d : α) (h : (scalar enc h1).R e W base ok (.slice (some ⟨g, 0, none⟩) xs.length cap) xs) (i : Int) (h0 : 0 ≤ i) (hi : i < xs.length) : W.cell? ⟨g, i.toNat, none⟩ = some (enc (oG d xs i)) ∧ W.frozen? ⟨g, i.toNat, none⟩ = false := Ib (sQ h) i h0 hi
theorem XI (h : (scalar enc h1).R e W base ok (.slice (some ⟨g, 0, none⟩) xs.length cap) xs) (i : Int) (x : α) : (scalar enc h1).R e (W.setCell ⟨g, i.toNat, none⟩ (enc x)) base ok (.slice (some ⟨g, 0, none⟩) xs.length cap) (xs.set i.toNat x) ∧ W.grownBy (W.setCell ⟨g, i.toNat, none⟩ (enc x)) (some g) := by
  obtain ⟨ho, hg⟩ := A9 (sQ h) i x
  exact ⟨KP (by rw [List.length_set]; exact ho) h.1, hg⟩
end
section
variable {P : Program} {ops : Array Oper} {rest : List Oper} {o : Oper} {a : Act} {Q : Exit → Act → World → Prop}
theorem Ie {W w1 : World} {v : Value} (hgd : o.guard = none) (hrun : (execOp a.eval o).run P W = .ok (.value v) w1) (h : wpList P ops Q rest (a.put o.dst v) w1) : wpList P ops Q (o :: rest) a W := by
  refine wpList_plain hgd fun K hK => ?_
  unfold Oper.wp
  rw [hrun]
  exact hK _ _ h
variable {α : Type}
end
end Kd
section
variable {P : Program}
end
def XJ (w : World) (base : Nat) (e : TypeId) (size : Nat) (v : Value) (n : Nat) (xs : List Value) : Prop :=
  xs.length = n * size ∧
  ((n = 0 ∧ ∃ A, v = .slice A 0 0 ∧ ∀ a, A = some a → base ≤ a.block ∧ ∃ cur, w.heap[a.block]? = some (.cells cur e (0, 0))) ∨
   ∃ g off cap cur, v = .slice (some ⟨g, off * size, none⟩) n cap ∧ base ≤ g ∧ w.heap[g]? = some (.cells cur e (0, 0)) ∧ n ≤ cap ∧ off + cap ≤ maxLen ∧ cur.size = (off + cap) * size ∧ (cur.toList.drop (off * size)).take (n * size) = xs)
section
variable {w w1 : World} {base n size : Nat} {e : TypeId} {v : Value} {xs : List Value}
theorem KR (h : w.ownsRow base e size v n xs) : XJ w base e size v n xs := by
  obtain ⟨h1, h2⟩ := h
  refine ⟨h1, ?_⟩
  rcases h2 with ⟨rfl, h0⟩ | ⟨g, cap, cur, rfl, hb, hh, hnc, hcm, hcs, ht⟩
  · exact .inl ⟨h0, none, rfl, fun a ha => by cases ha⟩
  · exact .inr ⟨g, 0, cap, cur, by rw [Nat.zero_mul], hb, hh, hnc, by rw [Nat.zero_add]; exact hcm, by rw [Nat.zero_add]; exact hcs, by rw [Nat.zero_mul, List.drop_zero]; exact ht⟩
end
section
variable {P : Program}
end
namespace Kd
def Q {α : Type} (d : Kd α) (e : Nat) (w : World) (base : Nat) (ok : Nat → Prop) (v : Value) (xs : List α) : Prop :=
  (∀ k, v.ownBlock = some k → ok k) ∧ ∃ inner, XJ w base e d.sz v xs.length inner ∧ fM (d.M w base (fun k => ok k ∧ some k ≠ v.ownBlock)) d.sz xs inner
section
variable {α : Type} {d : Kd α} {e : Nat} {w w1 W : World} {base : Nat} {ok ok' : Nat → Prop} {v : Value} {xs : List α}
theorem Tz (h : d.R e w base ok v xs) : d.Q e w base ok v xs := by
  obtain ⟨h0, inner, ho, hr⟩ := h
  exact ⟨h0, inner, KR ho, hr⟩
theorem kP (d : Kd α) (e : Nat) (w : World) (base : Nat) (ok : Nat → Prop) : d.Q e w base ok (.slice none 0 0) [] := Tz (jA d e w base ok)
end
section
variable {P : Program} {ops : Array Oper} {rest : List Oper} {o : Oper} {a : Act} {Q' : Exit → Act → World → Prop} {Kc : Act → World → Prop} {α : Type}
end
end Kd
namespace Kd
section
variable {α : Type} {d : Kd α} {e e' : Nat} {w w1 W : World} {base : Nat} {ok : Nat → Prop} {u v : Value} {xs : List α}
end
end Kd
namespace Kd
section
variable {α : Type} {d : Kd α} {e base g n cap : Nat} {ok Ic : Nat → Prop} {W : World} {xs : List α}
end
end Kd
namespace Kd
section
variable {α : Type} {F : Kd α → Kd α} {sz : Nat} {E : List Nat} {hs : ∀ n, (upto F sz E n).sz = sz} {hE : ∀ n q, q ∈ (upto F sz E n).E → q ∈ E}
end
end Kd
namespace Kd
section
variable {P : Program} {ops : Array Oper} {rest : List Oper} {o : Oper} {a : Act} {Q : Exit → Act → World → Prop} {α : Type}
end
end Kd
namespace Kd
section
variable {P : Program} {ops : Array Oper} {rest : List Oper} {o : Oper} {a : Act} {Q : Exit → Act → World → Prop} {α : Type}
end
end Kd
namespace Kd
section
variable {α : Type} {k : Kd α} {w : World} {A : Option Addr} {xs : List α} {m c : Nat}
end
end Kd
section
variable {P : Program}
end
theorem bL {w W : World} (h : Below w.heap.size w W) : w.heap.size ≤ W.heap.size := h.size
theorem bE {w W w2 : World} (h : Below w.heap.size w W) (k : Below W.heap.size W w2) : Below w.heap.size w w2 := EL h h.size k
theorem gB.nil (W : World) (k : IntKind) : gB W k none ([] : List Int).length [] := ⟨rfl, by simp, fun h => absurd h (Nat.lt_irrefl 0)⟩
theorem gB.drewN {W : World} {k : IntKind} {A : Option Addr} {n : Nat} {xs : List Int} (h : gB W k A n xs) (m : Nat) : gB (W.drewN m) k A n xs := h
theorem aR {w W : World} {g j : Nat} {v : Value} (h : Below w.heap.size w W) (hg : w.heap.size ≤ g) : Below w.heap.size w (W.setCell ⟨g, j, none⟩ v) := h.setCell hg _
theorem zH {w W : World} {g : Nat} (h : gV w W g none) {a : Addr} {v : Value} (hc : w.cell? a = some v) (hne : a.block ≠ g) : W.cell? a = some v := by
  have := h.2 a.block (World.block_lt_of_cell? w a hc) hne (by simp)
  simpa [World.cell?, this] using hc
theorem add_block (a : Addr) (i : Nat) : (a.add i).block = a.block := by unfold Addr.add; split <;> rfl
theorem fV.nil {α : Type} (enc : α → Value) (d : α) (W : World) : fV enc d W none ([] : List α).length [] := ⟨rfl, by simp, fun h => absurd h (Nat.lt_irrefl 0)⟩
theorem fV.drewN {α : Type} {enc : α → Value} {d : α} {W : World} {A : Option Addr} {n : Nat} {xs : List α} (h : fV enc d W A n xs) (m : Nat) : fV enc d (W.drewN m) A n xs := h
theorem gB.keep {w W : World} {k : IntKind} {A : Option Addr} {n g : Nat} {xs : List Int} (h : gB w k A n xs) (hk : gV w W g none) (hf : ∀ ad, A = some ad → 0 < n → ad.block ≠ g) : gB W k A n xs :=
  ⟨h.1, h.2.1, fun hn => by
    obtain ⟨ad, e, hc⟩ := h.2.2 hn
    exact ⟨ad, e, fun j hj => zH hk (hc j hj) (by rw [add_block]; exact hf ad e hn)⟩⟩
theorem fV.keep {α : Type} {enc : α → Value} {d : α} {w W : World} {A : Option Addr} {n g : Nat} {xs : List α} (h : fV enc d w A n xs) (hk : gV w W g none) (hf : ∀ ad, A = some ad → 0 < n → ad.block ≠ g) : fV enc d W A n xs :=
  ⟨h.1, h.2.1, fun hn => by
    obtain ⟨ad, e, hc⟩ := h.2.2 hn
    exact ⟨ad, e, fun j hj => zH hk (hc j hj) (by rw [add_block]; exact hf ad e hn)⟩⟩
theorem cell_far {W : World} {p a : Addr} (h : a.block ≠ p.block) (u : Value) : (W.setCell p u).cell? a = W.cell? a := by
  have := Below.heap_setCell W p u a.block h
  simp [World.cell?, this]
theorem bU {w : World} {g : Nat} {t : TypeId} {cs cs' : Array Value} (h : w.heap[g]? = some (.cells cs t (0, 0))) (i : Nat) (u : Value) (e : cs.setIfInBounds i u = cs') : (w.setCell ⟨g, i, none⟩ u).heap[g]? = some (.cells cs' t (0, 0)) := e ▸ NP h i u
theorem rV {W : World} {base n c : Nat} {e : TypeId} {size g : Nat} {ad : Addr} {xs : List Value} (_ : W.ownsRow base e size (.slice (some ad) n c) n xs) (hne : some g ≠ (Value.slice (some ad) n c).ownBlock) : ad.block ≠ g := by
  rintro rfl
  exact hne (by simp [Value.ownBlock])
theorem au {base : Nat} {w W : World} (h : Below base w W) : Below base w W.drew := h.drew
namespace Kd
section
variable {α β : Type} {d : Kd α} {d' : Kd β} {e e' base base' n : Nat} {ok ok' : Nat → Prop} {w W w1 W1 : World} {v u : Value} {xs : List α} {ys : List β} {A : Option Addr} {c : Nat}
theorem rV {ad : Addr} {g : Nat} (hne : some g ≠ (Value.slice (some ad) n c).ownBlock) : ad.block ≠ g := by
  rintro rfl
  exact hne (by simp [Value.ownBlock])
end
section
variable {α : Type} {enc : α → Value} {h1 : ∀ x, (enc x).oneCell' = true} {w W : World} {A : Option Addr} {n g : Nat} {xs : List α}
end
end Kd
namespace Kd
section
variable {α : Type} {d : Kd α} {e base g : Nat} {ok : Nat → Prop} {w w1 : World} {v : Value} {xs : List α} {o : Obj}
end
end Kd
section
variable {P : Program} {ops : Array Oper} {rest : List Oper} {o : Oper} {a : Act} {Q : Exit → Act → World → Prop}
theorem fO {W : World} (hgd : o.guard = none) {N : Tmp} (_hd : o.dst = some N) {cs : Array Value} {t : TypeId}
    (hrun : (execOp a.eval o).run P W = .ok (.value (.pointer (some ⟨W.heap.size, 0, none⟩))) (W.alloc (.cells cs t (0, 0))))
    (h : ∀ g, g = W.heap.size → ∀ w1, w1.heap[g]? = some (.cells cs t (0, 0)) → Below W.heap.size W w1 → wpList P ops Q rest (a.put o.dst (.pointer (some ⟨g, 0, none⟩))) w1) : wpList P ops Q (o :: rest) a W :=
  Kd.Ie hgd hrun (h _ rfl _ (sM W _) (ak (Below.refl _ _) _))
end
namespace Kd
section
variable {α : Type} {enc : α → Value} {h1 : ∀ x, (enc x).oneCell' = true} {e base g n cap : Nat} {ok : Nat → Prop} {W : World} {xs : List α}
theorem Bc (d : α) (h : (scalar enc h1).R e W base ok (.slice (some ⟨g, 0, none⟩) n cap) xs) (i : Int) (h0 : 0 ≤ i) (hi : i < n) : W.cell? ⟨g, i.toNat, none⟩ = some (enc (oG d xs i)) ∧ W.frozen? ⟨g, i.toNat, none⟩ = false := by
  obtain ⟨rfl, _⟩ := oJ h
  exact KQ d h i h0 hi
end
end Kd
section
variable {P : Program} {ops : Array Oper} {rest : List Oper} {o : Oper} {a : Act} {Q : Exit → Act → World → Prop}
end
namespace Kd
section
variable {α : Type} {enc : α → Value} {h1 : ∀ x, (enc x).oneCell' = true} {e base g n cap : Nat} {ok : Nat → Prop} {W : World} {xs : List α}
theorem TA (h : (scalar enc h1).R e W base ok (.slice (some ⟨g, 0, none⟩) n cap) xs) (i : Int) (x : α) : (scalar enc h1).R e (W.setCell ⟨g, i.toNat, none⟩ (enc x)) base ok (.slice (some ⟨g, 0, none⟩) n cap) (xs.set i.toNat x) ∧ W.grownBy (W.setCell ⟨g, i.toNat, none⟩ (enc x)) (some g) := by
  obtain ⟨rfl, _⟩ := oJ h
  exact XI h i x
end
end Kd
section
variable {P : Program} {ops : Array Oper} {rest : List Oper} {o : Oper} {a : Act} {Q : Exit → Act → World → Prop} {W : World}
theorem gD {N : Tmp} (_hN : o.dst = some N) (h : wpList P ops Q (o :: rest) a W) : wpList P ops Q (o :: rest) a W := h
end
section
variable {P : Program} {ops : Array Oper} {o : Oper} {a : Act} {Q : Exit → Act → World → Prop} {Kc : Act → World → Prop}
namespace Kd
variable {α : Type}
end Kd
end
section
variable {P : Program} {tmps : Array Value} {w : World}
end
namespace Kd
section
variable {P : Program} {α : Type}
end
section
variable {P : Program} {ops : Array Oper} {rest : List Oper} {o : Oper} {a : Act} {Q : Exit → Act → World → Prop} {Kc : Act → World → Prop} {α : Type}
end
end Kd
end Go.Proofs.YtdkkgecdhapfhaaW.bD
namespace Go.Proofs.YtdkkgecdhapfhaaW.dV
section
variable {P : Program} {ops : Array Oper} {Q : Exit → Act → World → Prop} {md : Region.Mode} {S : World → Prop} {ds : List Nat}
def Region.lg (md : Region.Mode) (ops : Array Oper) (i : Nat) : Nat → Nat → Bool
  | 0, _ => false
  | fuel + 1, d => match ops[d]? with
    | some o => o.after.any fun e => Region.binds md e && (e.on == i || Region.lg md ops i fuel e.on)
    | none => false
def Region.sS (md : Region.Mode) (ops : Array Oper) (listed : Array Bool) : Bool :=
  (List.range ops.size).all fun j => !listed.getD j false || match ops[j]? with
    | some o => o.after.all fun e => !Region.binds md e || listed.getD e.on false
    | none => true
def Region.lastB (md : Region.Mode) (ops : Array Oper) (listed : Array Bool) (ds : List Nat) (i : Nat) : Bool :=
  ds.all fun d => listed.getD d true || Region.lg md ops i ops.size d
def iI (md : Region.Mode) (ops : Array Oper) (listed : Array Bool) : Prop :=
  ∀ j oj, ops[j]? = some oj → listed.getD j false = true → ∀ e ∈ oj.after, Region.binds md e = true → listed.getD e.on false = true
theorem Region.Bd {listed : Array Bool} (h : Region.sS md ops listed = true) : iI md ops listed := by
  intro j oj hj hl e he hb
  have hlt : j < ops.size := (Array.getElem?_eq_some_iff.1 hj).1
  have h1 := List.all_eq_true.1 h j (List.mem_range.2 hlt)
  simp only [hl, hj, Bool.not_true, Bool.false_or] at h1
  have h2 := Array.all_eq_true_iff_forall_mem.1 h1 e he
  simpa [hb] using h2
theorem iI.set {listed : Array Bool} {i : Nat} (h : iI md ops listed) (hi : i ∈ Region.ready md ops listed) : iI md ops (listed.setIfInBounds i true) := by
  obtain ⟨_, oi, hoi, hall⟩ := mem_ready.1 hi
  intro j oj hj hl e he hb
  by_cases hij : i = j
  · subst hij
    have : oj = oi := Option.some.inj (hj.symm.trans hoi)
    subst this
    exact getD_set_true (hall e he hb)
  · rw [getD_set_ne false hij] at hl
    exact getD_set_true (h j oj hj hl e he hb)
theorem Region.sU {listed : Array Bool} {i : Nat} (hc : iI md ops listed) : ∀ (fuel d : Nat), Region.lg md ops i fuel d = true → listed.getD d false = true → listed.getD i false = true
  | 0, _, h, _ => by simp [Region.lg] at h
  | fuel + 1, d, h, hl => by
    unfold Region.lg at h
    cases ho : ops[d]? with
    | none => rw [ho] at h; simp at h
    | some o =>
      rw [ho] at h
      obtain ⟨e, he, h1⟩ := Array.any_eq_true'.1 h
      simp only [Bool.and_eq_true, Bool.or_eq_true, beq_iff_eq] at h1
      have hle := hc d o ho hl e he h1.1
      rcases h1.2 with h2 | h2
      · rw [← h2]; exact hle
      · exact Region.sU hc fuel e.on h2 hle
theorem Region.vF {listed : Array Bool} {i d fuel : Nat} (hc : iI md ops listed) (hr : Region.lg md ops i fuel d = true) (hun : listed.getD i true = false) : d ∉ Region.ready md ops listed := by
  intro hd
  obtain ⟨_, o, ho, hall⟩ := mem_ready.1 hd
  have hi : listed.getD i false = true := by
    cases fuel with
    | zero => simp [Region.lg] at hr
    | succ n =>
      unfold Region.lg at hr
      rw [ho] at hr
      obtain ⟨e, he, h1⟩ := Array.any_eq_true'.1 hr
      simp only [Bool.and_eq_true, Bool.or_eq_true, beq_iff_eq] at h1
      have hle := hall e he h1.1
      rcases h1.2 with h2 | h2
      · rw [← h2]; exact hle
      · exact Region.sU hc n e.on h2 hle
  rcases Nat.lt_or_ge i listed.size with h' | h'
  · simp [h'] at hun hi
    rw [hun] at hi
    cases hi
  · simp [Array.getElem?_eq_none h'] at hun
def dw (P : Program) (md : Region.Mode) (ops : Array Oper) (Q : Exit → Act → World → Prop) (S : World → Prop) (ds : List Nat) : Nat → Array Bool → Act → World → Prop
  | 0, listed, a, w => Region.ready md ops listed = [] ∧ Q .normal a w
  | fuel + 1, listed, a, w =>
    (Region.ready md ops listed = [] → Q .normal a w) ∧
    ∀ i ∈ Region.ready md ops listed, wpOp P ops Q i (fun a' w' => (i ∉ ds → S w → S w') ∧ dw P md ops Q S ds fuel (listed.setIfInBounds i true) a' w') a w
theorem qC : ∀ (fuel : Nat) (listed : Array Bool) (a : Act) (w : World), dw P md ops Q S ds fuel listed a w → wpAny P md ops Q fuel listed a w
  | 0, _, _, _, h => h
  | fuel + 1, _, _, _, h => ⟨h.1, fun i hi => wpOp_mono (fun a' w' h' => qC fuel _ a' w' h'.2) (h.2 i hi)⟩
theorem vG {i : Nat} {oi : Oper} {v : Value} (hi : ops[i]? = some oi) (hsel : ∀ (j : Nat) (o : Oper) cs b, ops[j]? = some o → o.op ≠ .select cs b)
    (hQ : ∀ c a w, Q (.panic c) (a.put oi.dst v) w → Q (.panic c) a w) (n : Nat) :
    ∀ (fuel : Nat) (listed : Array Bool) (a : Act) (w : World),
      (∀ j oj, ops[j]? = some oj → j ≠ i → listed.getD j true = false → (∀ e ∈ oj.after, Region.binds md e = true → e.on ≠ i) → oi.apart ops oj = true) →
      iI md ops listed → (∀ d ∈ ds, listed.getD d true = false → Region.lg md ops i n d = true) →
      i ∈ Region.ready md ops listed → YieldsIf P ops S oi v a → S w →
      dw P md ops Q S ds fuel (listed.setIfInBounds i true) (a.put oi.dst v) w → dw P md ops Q S ds (fuel + 1) listed a w := by
  intro fuel
  induction fuel with
  | zero =>
    intro listed a w _ _ _ hr hy hS H
    refine ⟨fun h => (by rw [h] at hr; cases hr), fun j hj => ?_⟩
    by_cases hji : j = i
    · subst hji; exact hy.wpOp hi hS ⟨fun _ h => h, H⟩
    · have := ready_mono hj hji
      rw [H.1] at this
      cases this
  | succ fuel ih =>
    intro listed a w hfree hc hd hr hy hS H
    refine ⟨fun h => (by rw [h] at hr; cases hr), fun j hj => ?_⟩
    by_cases hji : j = i
    · subst hji; exact hy.wpOp hi hS ⟨fun _ h => h, H⟩
    · have h1 := H.2 j (ready_mono hj hji)
      obtain ⟨hjun, oj, hoj, hall⟩ := mem_ready.1 hj
      have Ig := (mem_ready.1 hr).1
      have hnot : ∀ e ∈ oj.after, Region.binds md e = true → e.on ≠ i := fun e he hb heq => by
        have h1 := hall e he hb
        rw [heq] at h1
        rcases Nat.lt_or_ge i listed.size with h' | h'
        · simp [h'] at Ig h1; rw [Ig] at h1; cases h1
        · simp [Array.getElem?_eq_none h'] at h1
      have hjd : j ∉ ds := fun hm => Region.vF hc (hd j hm hjun) Ig hj
      have h2 := wpOp_putIf hoj (hfree j oj hoj hji hjun hnot) (fun cs b => hsel i oi cs b hi) (fun cs b => hsel j oj cs b hoj) hQ hy h1
      have hfree' : ∀ k ok, ops[k]? = some ok → k ≠ i → (listed.setIfInBounds j true).getD k true = false →
          (∀ e ∈ ok.after, Region.binds md e = true → e.on ≠ i) → oi.apart ops ok = true := fun k ok hk hki hun hno => by
        refine hfree k ok hk hki ?_ hno
        by_cases hjk : j = k
        · subst hjk; exact hjun
        · rw [getD_set_ne true hjk] at hun; exact hun
      have hd' : ∀ d ∈ ds, (listed.setIfInBounds j true).getD d true = false → Region.lg md ops i n d = true := fun d hm hun => by
        refine hd d hm ?_
        by_cases hjk : j = d
        · subst hjk; exact hjun
        · rw [getD_set_ne true hjk] at hun; exact hun
      refine wpOp_mono (fun a' w' h3 => ⟨h3.2.1, ih (listed.setIfInBounds j true) a' w' hfree' (hc.set hj) hd' (ready_mono hr (Ne.symm hji)) h3.1 (h3.2.1 hjd hS) ?_⟩) h2
      rw [Array.setIfInBounds_comm _ _ hji]
      exact h3.2.2
theorem yU {i : Nat} {oi : Oper} {v : Value} (hi : ops[i]? = some oi) (hsel : ∀ (j : Nat) (o : Oper) cs b, ops[j]? = some o → o.op ≠ .select cs b)
    (hQ : ∀ c a w, Q (.panic c) (a.put oi.dst v) w → Q (.panic c) a w) :
    ∀ (fuel : Nat) (listed : Array Bool) (a : Act) (w : World),
      (∀ j oj, ops[j]? = some oj → j ≠ i → listed.getD j true = false → (∀ e ∈ oj.after, Region.binds md e = true → e.on ≠ i) → oi.apart ops oj = true) →
      i ∈ Region.ready md ops listed → Yields P ops oi v a →
      dw P md ops Q S ds fuel (listed.setIfInBounds i true) (a.put oi.dst v) w → dw P md ops Q S ds (fuel + 1) listed a w := by
  intro fuel
  induction fuel with
  | zero =>
    intro listed a w _ hr hy H
    refine ⟨fun h => (by rw [h] at hr; cases hr), fun j hj => ?_⟩
    by_cases hji : j = i
    · subst hji; exact (hy.yieldsIf (S := fun _ => True)).wpOp hi trivial ⟨fun _ h => h, H⟩
    · have := ready_mono hj hji
      rw [H.1] at this
      cases this
  | succ fuel ih =>
    intro listed a w hfree hr hy H
    refine ⟨fun h => (by rw [h] at hr; cases hr), fun j hj => ?_⟩
    by_cases hji : j = i
    · subst hji; exact (hy.yieldsIf (S := fun _ => True)).wpOp hi trivial ⟨fun _ h => h, H⟩
    · have h1 := H.2 j (ready_mono hj hji)
      obtain ⟨hjun, oj, hoj, hall⟩ := mem_ready.1 hj
      have Ig := (mem_ready.1 hr).1
      have hnot : ∀ e ∈ oj.after, Region.binds md e = true → e.on ≠ i := fun e he hb heq => by
        have h1 := hall e he hb
        rw [heq] at h1
        rcases Nat.lt_or_ge i listed.size with h' | h'
        · simp [h'] at Ig h1; rw [Ig] at h1; cases h1
        · simp [Array.getElem?_eq_none h'] at h1
      have h2 := wpOp_put hoj (hfree j oj hoj hji hjun hnot) (fun cs b => hsel i oi cs b hi) (fun cs b => hsel j oj cs b hoj) hQ hy h1
      have hfree' : ∀ k ok, ops[k]? = some ok → k ≠ i → (listed.setIfInBounds j true).getD k true = false →
          (∀ e ∈ ok.after, Region.binds md e = true → e.on ≠ i) → oi.apart ops ok = true := fun k ok hk hki hun hno => by
        refine hfree k ok hk hki ?_ hno
        by_cases hjk : j = k
        · subst hjk; exact hjun
        · rw [getD_set_ne true hjk] at hun; exact hun
      refine wpOp_mono (fun a' w' h3 => ⟨h3.2.1, ih (listed.setIfInBounds j true) a' w' hfree' (ready_mono hr (Ne.symm hji)) h3.1 ?_⟩) h2
      rw [Array.setIfInBounds_comm _ _ hji]
      exact h3.2.2
theorem xE {i : Nat} {oi : Oper} {v : Value} {fuel : Nat} {listed : Array Bool} {a : Act} {w : World} (hi : ops[i]? = some oi)
    (hs : Region.noSelect ops = true) (hf : Region.free md ops listed i = true) (hr : (Region.ready md ops listed).contains i = true)
    (hc : Region.sS md ops listed = true) (hl : Region.lastB md ops listed ds i = true)
    (hQ : ∀ c a w, Q (.panic c) (a.put oi.dst v) w → Q (.panic c) a w) (hy : YieldsIf P ops S oi v a) (hS : S w)
    (h : dw P md ops Q S ds fuel (listed.setIfInBounds i true) (a.put oi.dst v) w) : dw P md ops Q S ds (fuel + 1) listed a w :=
  vG hi (Region.noSelect_spec hs) hQ ops.size fuel listed a w (Region.free_spec hi hf) (Region.Bd hc)
    (fun d hm hun => by have := List.all_eq_true.1 hl d hm; rw [hun] at this; simpa using this) (by simpa using hr) hy hS h
theorem yV {rs : List Nat} {fuel : Nat} {listed : Array Bool} {a : Act} {w : World} (hr : Region.ready md ops listed = rs) (hne : rs ≠ [])
    (h : ∀ i ∈ rs, wpOp P ops Q i (fun a' w' => (i ∉ ds → S w → S w') ∧ dw P md ops Q S ds fuel (listed.setIfInBounds i true) a' w') a w) : dw P md ops Q S ds (fuel + 1) listed a w :=
  ⟨fun h0 => absurd (hr ▸ h0) hne, hr ▸ h⟩
theorem xG {listed : Array Bool} {a : Act} {w : World} (hr : Region.ready md ops listed = []) (h : Q .normal a w) :
    ∀ fuel, dw P md ops Q S ds fuel listed a w
  | 0 => ⟨hr, h⟩
  | _ + 1 => ⟨fun _ => h, by rw [hr]; simp⟩
theorem xH {id : Nat} {a : Act} {w : World} (hm : P.follows .mixedOrders = true)
    (h : dw P .any ops Q S ds ops.size (Array.replicate ops.size false) a { w with drawn := w.drawn + 1 }) : (Code.region id ops true).wp P Q a w :=
  wp_region_any hm (qC _ _ _ _ h)
end
section
variable {P : Program} {ops : Array Oper} {Q : Exit → Act → World → Prop} {md : Region.Mode} {S : World → Prop} {ds : List Nat}
def jP (P : Program) (md : Region.Mode) (ops : Array Oper) (Q : Exit → Act → World → Prop) (S : World → Prop) (ds : List Nat) (fuel : Nat) (listed : Array Bool) (a : Act) (w : World) (rs : List Nat) : Prop :=
  ∀ i ∈ rs, wpOp P ops Q i (fun a' w' => (i ∉ ds → S w → S w') ∧ dw P md ops Q S ds fuel (listed.setIfInBounds i true) a' w') a w
theorem jP.nil {fuel : Nat} {listed : Array Bool} {a : Act} {w : World} : jP P md ops Q S ds fuel listed a w [] := fun _ h => by cases h
theorem jP.cons {fuel : Nat} {listed : Array Bool} {a : Act} {w : World} {i : Nat} {o : Oper} {rs : List Nat} (ho : ops[i]? = some o) (hd : i ∉ ds)
    (h : ∀ K' : Act → World → Prop, Shut (∀ a w, S w → (S w → dw P md ops Q S ds fuel (listed.setIfInBounds i true) a w) → K' a w) → if Region.wanted o (yielded ops a.tmps) = true then Oper.wp P o a w K' Q else K' (a.put o.dst undef) w)
    (hs : jP P md ops Q S ds fuel listed a w rs) : jP P md ops Q S ds fuel listed a w (i :: rs) := fun j hj => by
  rcases List.mem_cons.1 hj with rfl | hj
  · exact wpOp_step ho (fun K' hK => h K' (fun a w hS hW => hK a w ⟨fun _ _ => hS, hW hS⟩))
  · exact hs j hj
theorem vH {rs : List Nat} {fuel : Nat} {listed : Array Bool} {a : Act} {w : World} (hr : Region.ready md ops listed = rs) (hne : rs ≠ [])
    (h : jP P md ops Q S ds fuel listed a w rs) : dw P md ops Q S ds (fuel + 1) listed a w := yV hr hne h
theorem KT {id n : Nat} {a : Act} {w : World} (l : Array Bool) (hm : P.follows .mixedOrders = true) (hn : ops.size = n) (hl : Array.replicate n false = l) (hS : S w.drew)
    (h : S w.drew → dw P .any ops Q S ds n l a w.drew) : (Code.region id ops true).wp P Q a w := by
  subst hn
  subst hl
  exact xH hm (h hS)
def takeB (md : Region.Mode) (ops : Array Oper) (ds : List Nat) (l l' : Array Bool) (i : Nat) : Bool :=
  Region.noSelect ops && Region.free md ops l i && (Region.ready md ops l).contains i && Region.sS md ops l && Region.lastB md ops l ds i && (l.setIfInBounds i true == l')
theorem Dl {i : Nat} {N : Option Tmp} {oi : Oper} {v : Value} {fuel : Nat} {l : Array Bool} {a : Act} {w : World} (l' : Array Bool) (hi : ops[i]? = some oi) (hN : oi.dst = N) (hc : takeB md ops ds l l' i = true)
    (hQ : ∀ c a w, Q (.panic c) (a.put oi.dst v) w → Q (.panic c) a w) (hy : YieldsIf P ops S oi v a) (hS : S w) {a' : Act} (ha : a.put N v = a')
    (h : dw P md ops Q S ds fuel l' a' w) : dw P md ops Q S ds (fuel + 1) l a w := by
  subst ha
  subst hN
  simp only [takeB, Bool.and_eq_true, beq_iff_eq] at hc
  obtain ⟨⟨⟨⟨⟨h1, h2⟩, h3⟩, h4⟩, h5⟩, h6⟩ := hc
  subst h6
  exact xE hi h1 h2 h3 h4 h5 hQ hy hS h
def NS (md : Region.Mode) (ops : Array Oper) (l l' : Array Bool) (i : Nat) : Bool :=
  Region.noSelect ops && Region.free md ops l i && (Region.ready md ops l).contains i && (l.setIfInBounds i true == l')
theorem lu {i : Nat} {N : Option Tmp} {oi : Oper} {v : Value} {fuel : Nat} {l : Array Bool} {a : Act} {w : World} (l' : Array Bool) (hi : ops[i]? = some oi) (hN : oi.dst = N) (hc : NS md ops l l' i = true)
    (hQ : ∀ c a w, Q (.panic c) (a.put oi.dst v) w → Q (.panic c) a w) (hy : Yields P ops oi v a) {a' : Act} (ha : a.put N v = a')
    (h : dw P md ops Q S ds fuel l' a' w) : dw P md ops Q S ds (fuel + 1) l a w := by
  subst ha
  subst hN
  simp only [NS, Bool.and_eq_true, beq_iff_eq] at hc
  obtain ⟨⟨⟨h1, h2⟩, h3⟩, h6⟩ := hc
  subst h6
  exact yU hi (Region.noSelect_spec h1) hQ fuel l a w (Region.free_spec hi h2) (by simpa using h3) hy h
def Bf (md : Region.Mode) (ops : Array Oper) (l l' : Array Bool) (i : Nat) : Bool := (Region.ready md ops l == [i]) && (l.setIfInBounds i true == l')
theorem TB {i : Nat} {N : Option Tmp} {oi : Oper} {fuel : Nat} {l : Array Bool} {a : Act} {w : World} (l' : Array Bool) (hi : ops[i]? = some oi) (hN : oi.dst = N) (hc : Bf md ops l l' i = true) (hd : i ∉ ds)
    (h : ∀ K : Act → World → Prop, Shut (∀ a' w', S w' → (S w' → dw P md ops Q S ds fuel l' a' w') → K a' w') → if Region.wanted oi (yielded ops a.tmps) = true then Oper.wp P oi a w K Q else K (a.put N undef) w) :
    dw P md ops Q S ds (fuel + 1) l a w := by
  subst hN
  simp only [Bf, Bool.and_eq_true, beq_iff_eq] at hc
  obtain ⟨h1, h2⟩ := hc
  subst h2
  exact vH h1 (by simp) (jP.cons hi hd (fun K hK => h K hK) jP.nil)
theorem Qz {l : Array Bool} {a : Act} {w : World} {n : Nat} (hr : (Region.ready md ops l == []) = true) (h : Q .normal a w) : dw P md ops Q S ds n l a w := xG (by simpa using hr) h n
theorem QA {fuel : Nat} {l : Array Bool} {a a' : Act} {w : World} (ha : a = a') (h : dw P md ops Q S ds fuel l a' w) : dw P md ops Q S ds fuel l a w := by
  subst ha
  exact h
theorem NT {f : FuncId} {fn : Func} (hf : P.funcs[f]? = some fn) (hname : (fn.name == "runtime.NumGoroutine") = false) (hb : fn.body.isSome = true) (args : Array Value) (w : World) : (callFunc f args).run P w = .ok (.enter f args) w := by
  have h1 : fn.name ≠ "runtime.NumGoroutine" := by simpa using hname
  obtain ⟨c, hc⟩ := Option.isSome_iff_exists.1 hb
  simp [callFunc, hf, h1, hc]
theorem bP {rest : List Oper} {oi : Oper} {a : Act} {w : World} (N : Option Tmp) (hd : oi.dst = N) (hg : oi.guard = none) {f : FuncId} {fn : Func} {ZZ9 : Array Operand} {ts : Array TypeId} (hf : P.funcs[f]? = some fn) (hname : (fn.name == "runtime.NumGoroutine") = false) (hb : fn.body.isSome = true) (args : Array Value)
    (hop : oi.op = .call { callee := .value (.func f), args := ZZ9, argTypes := ts }) (hargs : ZZ9.map a.eval = args)
    (h : Calls P f args w fun e w' => ∃ v, e = .returned v ∧ wpList P ops Q rest (a.put N v) w') : wpList P ops Q (oi :: rest) a w := by
  refine wpList_plain hg fun K hK => ?_
  have he := NT hf hname hb args w
  have hrun : (execOp a.eval oi).run P w = .ok (.enter f args) w := by
    unfold execOp
    simp [hop, resolve, Deferred.ofValue, invoke, Act.eval, hargs, he]
  unfold Oper.wp
  rw [hrun, Oper.upon_enter]
  refine h.mono fun e w'' hh => ?_
  obtain ⟨v, rfl, hk⟩ := hh
  subst hd
  exact hK _ _ hk
theorem TD {oi : Oper} {N : Option Tmp} {a : Act} {w w1 : World} {v : Value} {K : Act → World → Prop} (hw : Region.wanted oi (yielded ops a.tmps) = true) (hN : oi.dst = N) (hrun : (execOp a.eval oi).run P w = .ok (.value v) w1)
    (h : K (a.put N v) w1) : if Region.wanted oi (yielded ops a.tmps) = true then Oper.wp P oi a w K Q else K (a.put N undef) w := by
  rw [if_pos hw]
  subst hN
  unfold Oper.wp
  rw [hrun]
  exact h
theorem XK {oi : Oper} {a : Act} {w w1 : World} {K : Act → World → Prop} (hw : Region.wanted oi (yielded ops a.tmps) = true) (hN : oi.dst = none) (hrun : (execOp a.eval oi).run P w = .ok .skip w1)
    (h : K a w1) : if Region.wanted oi (yielded ops a.tmps) = true then Oper.wp P oi a w K Q else K (a.put none undef) w := by
  rw [if_pos hw]
  unfold Oper.wp
  rw [hrun]
  show K (a.put oi.dst undef) w1
  rw [hN]
  exact h
theorem gN (n : Int) : IntKind.i64.wrap n = Go.RowKit.wrap64 n := by unfold Go.RowKit.wrap64; exact IntKind.wrap_i64 n
theorem ig (n : Int) : IntKind.i32.wrap n = Go.RowKit.wrap32 n := by unfold Go.RowKit.wrap32; exact IntKind.wrap_i32 n
end
end Go.Proofs.YtdkkgecdhapfhaaW.dV
namespace Go.Proofs.YtdkkgecdhapfhaaW.bD
open Go.RowKit
namespace Kd
def tag {α : Type} (f : Nat → Nat) (d : Kd α) : Kd (α × Nat) where
  sz := d.sz
  E := d.E
  K := fun w x cs => d.K w x.1 cs
  M := fun w base ok x cs => d.M w base (fun k => ok k ∧ f k = x.2) x.1 cs
  nT := fun h => d.nT h
  oH := fun h => d.oH h
  lG := fun hb h => d.lG hb h
  jg := fun h => d.jg h
  jX := fun hok h => d.jX (fun k hk => ⟨hok k hk.1, hk.2⟩) h
  jY := fun h => d.jX (fun _ hk => ⟨⟨hk.1.1, hk.2⟩, hk.1.2⟩) (d.jY h)
  lY := fun hm h => d.lY (fun k hk => hm k hk.1) h
  lH := fun hb h => d.lH hb h
def raw (sz : Nat) : Kd (List Value) where
  sz := sz
  E := []
  K := fun _ x cs => cs = x ∧ cs.length = sz ∧ ∀ u ∈ cs, u.oneCell' = true
  M := fun _ _ _ x cs => cs = x ∧ cs.length = sz ∧ ∀ u ∈ cs, u.oneCell' = true
  nT := fun h => h.2.1
  oH := fun h => h.2.2
  lG := fun _ h => h
  jg := fun h => h
  jX := fun _ h => h
  jY := fun h => h
  lY := fun _ h => h
  lH := fun _ h => h
def S {α : Type} (d : Kd α) (e : Nat) (w : World) (base : Nat) (ok : Nat → Prop) (v : Value) (xs : List α) : Prop := ∃ f, (tag f d).R e w base ok v xs.zipIdx
section
variable {α β : Type} {d : Kd α} {d' : Kd β} {e e' : Nat} {w w1 W : World} {base b : Nat} {ok ok' okv oku : Nat → Prop} {u v : Value} {xs : List α} {ys : List β}
theorem kQ (d : Kd α) (e : Nat) (w : World) (base : Nat) (ok : Nat → Prop) : S d e w base ok (.slice none 0 0) [] := ⟨fun _ => 0, jA _ _ _ _ _⟩
end
section
variable {α β : Type} {d : Kd α} {d' : Kd β} {e e' g : Nat} {w w1 W : World} {base b : Nat} {ok ok' okv oku : Nat → Prop} {u v : Value} {xs : List α} {ys : List β}
end
section
open Classical in
variable {P : Program} {ops : Array Oper} {rest : List Oper} {o : Oper} {a : Act} {Q : Exit → Act → World → Prop} {Kc : Act → World → Prop} {α : Type}
end
def gap {α : Type} (f : Nat → Nat) (d : Kd α) (i : Nat) (c : List Value) : Kd (α × Nat) where
  sz := d.sz
  E := d.E
  K := fun w x cs => (x.2 = i → cs = c ∧ cs.length = d.sz ∧ ∀ u ∈ cs, u.oneCell' = true) ∧ (x.2 ≠ i → d.K w x.1 cs)
  M := fun w base ok x cs => (x.2 = i → cs = c ∧ cs.length = d.sz ∧ ∀ u ∈ cs, u.oneCell' = true) ∧ (x.2 ≠ i → d.M w base (fun k => ok k ∧ f k = x.2) x.1 cs)
  nT := fun {w x cs} h => by
    by_cases hx : x.2 = i
    · exact (h.1 hx).2.1
    · exact d.nT (h.2 hx)
  oH := fun {w x cs} h => by
    by_cases hx : x.2 = i
    · exact (h.1 hx).2.2
    · exact d.oH (h.2 hx)
  lG := fun hb h => ⟨h.1, fun hx => d.lG hb (h.2 hx)⟩
  jg := fun h => ⟨h.1, fun hx => d.jg (h.2 hx)⟩
  jX := fun hok h => ⟨h.1, fun hx => d.jX (fun k hk => ⟨hok k hk.1, hk.2⟩) (h.2 hx)⟩
  jY := fun h => ⟨h.1, fun hx => d.jX (fun _ hk => ⟨⟨hk.1.1, hk.2⟩, hk.1.2⟩) (d.jY (h.2 hx))⟩
  lY := fun hm h => ⟨h.1, fun hx => d.lY (fun k hk => hm k hk.1) (h.2 hx)⟩
  lH := fun hb h => ⟨h.1, fun hx => d.lH hb (h.2 hx)⟩
def H {α : Type} (d : Kd α) (e : Nat) (w : World) (base : Nat) (ok : Nat → Prop) (v : Value) (xs : List α) (i : Int) (XL : Nat → Prop) (c : List Value) : Prop :=
  (∀ k, XL k → ok k) ∧ ∃ f, (gap f d i.toNat c).R e w base (fun k => ok k ∧ ¬ XL k) v xs.zipIdx
section
variable {α β : Type} {d : Kd α} {e e' g n cap : Nat} {w w1 W : World} {base : Nat} {ok ok' XL Ic : Nat → Prop} {u v : Value} {xs : List α} {i : Int} {c : List Value}
open Classical in
end
section
variable {P : Program} {ops : Array Oper} {rest : List Oper} {o : Oper} {a : Act} {Q : Exit → Act → World → Prop} {α : Type}
end
end Kd
end Go.Proofs.YtdkkgecdhapfhaaW.bD
namespace Go.Proofs.YtdkkgecdhapfhaaW.bD
open Go.RowKit
namespace Kd
structure Heap {α : Type} (d : Kd α) : Prop where
  K : ∀ {w w1 : World} {x : α} {cs : List Value}, (∀ k, k < w.heap.size → w1.heap[k]? = w.heap[k]?) → d.K w x cs → d.K w1 x cs
theorem Ih {w w1 : World} (hb : ∀ k, k < w.heap.size → w1.heap[k]? = w.heap[k]?) {a : Addr} {v : Value} (h : w.cell? a = some v) : w1.cell? a = some v := by
  have := hb a.block (World.block_lt_of_cell? w a h)
  simpa [World.cell?, this] using h
theorem Heap.C {α : Type} {d : Kd α} (hd : Heap d) {w w1 : World} {A : Option Addr} {n : Nat} {xs : List α} (hb : ∀ k, k < w.heap.size → w1.heap[k]? = w.heap[k]?) (h : d.C w A n xs) : d.C w1 A n xs :=
  ⟨h.1, h.2.1, fun hn => by
    obtain ⟨ad, e, hc⟩ := h.2.2 hn
    refine ⟨ad, e, fun j p hj => ?_⟩
    obtain ⟨c, hs, hr, hcell⟩ := hc j p hj
    exact ⟨c, hs, hd.K hb hr, fun i u hu => Ih hb (hcell i u hu)⟩⟩
section
variable {α : Type} {d : Kd α} {e base g n c : Nat} {ok : Nat → Prop} {w w0 W : World} {A : Option Addr} {xs : List α}
end
end Kd
end Go.Proofs.YtdkkgecdhapfhaaW.bD

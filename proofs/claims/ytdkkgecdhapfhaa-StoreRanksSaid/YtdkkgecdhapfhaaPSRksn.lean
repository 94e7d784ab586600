/- A part of the proof of StoreRanks: cut, joined and given short names by a program of this session (wip/tools/pack.py); Lean checks it. No condition. -/
import Derived.Test.YtdkkgecdhapfhaaPSRkse
import Derived.ProofKit
import Derived.OpenShut
import Derived.SizedLaws
import Derived.ChangeArms
import Derived.ChangeSlices
import Derived.Carry
import Derived.Test.YtdkkgecdhapfhaaPSRksm
import Derived.KernelRfl
import Derived.Test.YtdkkgecdhapfhaaPSRksd
set_option linter.unusedSectionVars false
set_option linter.unusedSimpArgs false
set_option linter.unusedVariables false
namespace Go.Proofs.Ytdkkgecdhapfhaa.Ev
open Go Go.RowKit
structure Old (w w' : World) : Prop where
  os : w'.os = w.os
  output : w'.output = w.output
  size : w.heap.size ≤ w'.heap.size
  block : ∀ k, k < w.heap.size → w'.heap[k]? = w.heap[k]?
theorem Old.frame {W w' : World} (h : Old W w') (may : MemPlace → Prop) : W.keptBut w' may := by
  refine ⟨h.os, h.output, fun i hi => ?_⟩
  rw [h.block i hi]
  split <;> simp_all
theorem Old.same {W w' : World} (h : Old W w') {p : MemPlace} (hp : p.block < W.heap.size) : W.sameAt w' p := by
  cases p with
  | cell b o => exact World.cell?_of_block (w := W) (h.block b hp)
  | map b => exact h.block b hp
theorem Old.trod {H : Type} {enc : TypeId × Value → H} {P : Program} {t : TypeId} (hl : laidOutB P = true) (hr : P.readableRec t = true) (hrow : t < P.types.size) {W W' : World} {v : Value} {d : DataW H} {ps : List MemPlace}
    (h : DataW.Trod enc P W 0 (fun _ => true) true t v d ps) (hb : Old W W') (hlt : ∀ x ∈ ps, x.block < W.heap.size) : DataW.Trod enc P W' 0 (fun b => decide (b < W.heap.size)) true t v d ps :=
  WideElems.Trod_stays hl hr hrow h (fun x hx => hb.same (hlt x hx)) (fun x hx => by simpa using hlt x hx)
theorem IZ {P : Program} {Γ : Env} (mq : iP P Γ) {f : FuncId} {gH rD : List AV} {b : Bool} {vals : List Value} {W : World} (h : Γ f gH = some ([.one (.f (.bool b))], rD)) (ha : fM (fun k => k < W.heap.size) W gH vals []) :
    Calls P f vals.toArray W fun e W' => e = .returned (.bool b) ∧ Old W W' := by
  refine (mq f gH _ _ h (fun k => k < W.heap.size) W vals [] ha List.nodup_nil (by simp) (fun _ h => h)).mono fun e w' ⟨bK, uy, b1, b2, he, hp⟩ => ?_
  refine ⟨?_, hp.kp.1, hp.kp.2, hp.big, fun k hk => hp.ext k hk (by simp)⟩
  match uy, hp.rs with
  | [v], ⟨c1, c2, h1, h2, h3⟩ => rw [he, show v = .bool b from h1.1]; rfl
def I4 (P : Program) {α : Type} (T : TypeId) (f : α → List FV) (G : α → Prop) : Prop :=
  ∀ {H : Type} (enc : TypeId × Value → H) (w : World) (spare : Nat → Bool) (held : Bool) (fuel : Nat) (cs : List Value) (x : DataW H × List MemPlace),
    DataW.trod enc P w 0 spare held fuel T cs = some x → (∀ n ∈ x.1.weights P T, n ≤ reachBytes) → ∃ a : α, cB (fun k => k < w.heap.size) w (f a) cs ∧ G a
section
variable {P : Program}
theorem qj {k : IntKind} {T : TypeId} (h : P.underlying T = some (.int k)) : I4 P T (fun n => [FV.int k n]) (fun n => (Lit.int k n).wf = true) := by
  intro H enc w spare held fuel cs x hx _
  obtain ⟨n, rfl, rfl, hw⟩ := DataW.trod_int h hx
  exact ⟨n, ⟨by simp only [fB], trivial⟩, hw⟩
theorem G5 {T : TypeId} (h : P.underlying T = some .string) : I4 P T (fun s => [FV.str s]) (fun s => s.size ≤ 140737488351232) := by
  intro H enc w spare held fuel cs x hx hz
  obtain ⟨s, rfl, rfl, hw⟩ := DataW.trod_string h hx
  refine ⟨s, ⟨by simp only [fB], trivial⟩, ?_⟩
  have := hz s.data.toList.length (by simp [DataW.weights])
  rw [Array.length_toList] at this
  exact this
theorem nI {H : Type} {e : TypeId} : ∀ {ds : List (DataW H)} {i : Nat} {d : DataW H}, ds[i]? = some d → ∀ n ∈ d.weights P e, n ∈ DataW.weightsAll P e ds
  | [], i, d, h, _, _ => by simp at h
  | d0 :: ds, 0, d, h, n, hn => by
    simp at h; subst h
    exact List.mem_append.mpr (.inl hn)
  | d0 :: ds, i + 1, d, h, n, hn => by
    simp at h
    exact List.mem_append.mpr (.inr (nI h n hn))
theorem vE {H : Type} {ts : List TypeId} {ds : List (DataW H)} (h : (DataW.weightsEach P ts ds).all (· ≤ reachBytes) = true) {j : Nat} {t : TypeId} {d : DataW H} (ht : ts[j]? = some t) (hd : ds[j]? = some d) :
    ∀ n ∈ d.weights P t, n ≤ reachBytes := fun n hn => by
  have := List.all_eq_true.1 h n (DataW.weights_mem_each ht hd n hn)
  simpa using this
theorem tY {α : Type} {Q : Nat → α → Prop} : ∀ n, (∀ i, i < n → ∃ y, Q i y) → ∃ ys : List α, ys.length = n ∧ ∀ i y, ys[i]? = some y → Q i y
  | 0, _ => ⟨[], rfl, by simp⟩
  | n + 1, h => by
    obtain ⟨ys, hl, hq⟩ := tY n (fun i hi => h i (by omega))
    obtain ⟨y, hy⟩ := h n (by omega)
    refine ⟨ys ++ [y], by simp [hl], fun i z hz => ?_⟩
    by_cases hi : i < n
    · rw [List.getElem?_append_left (by omega)] at hz
      exact hq i z hz
    · have hlt := (List.getElem?_eq_some_iff.1 hz).1
      simp only [List.length_append, List.length_singleton] at hlt
      obtain rfl : i = n := by omega
      rw [List.getElem?_append_right (by omega), hl, Nat.sub_self] at hz
      simp at hz
      subst hz
      exact hy
theorem z8 {Fz : Nat → Prop} {w : World} {b : Nat} : ∀ (xs : List FV) (cs : List Value) (o : Nat), cB Fz w xs cs → (∀ i u, cs[i]? = some u → w.cell? ⟨b, o + i, none⟩ = some u) → dY Fz w b o xs
  | [], _, _, _, _ => by simp only [dY]
  | x :: xs, [], _, h, _ => h.elim
  | x :: xs, c :: cs, o, h, hc => by
    simp only [dY]
    exact ⟨⟨c, hc 0 c rfl, h.1⟩, z8 xs cs (o + 1) h.2 fun i u hi => by rw [show o + 1 + i = o + (i + 1) from by omega]; exact hc (i + 1) u hi⟩
theorem yA {Fz : Nat → Prop} {w : World} {sz b : Nat} {α : Type} {f : α → List FV} (hf : ∀ a, (f a).length = sz) : ∀ (l : List α) (o : Nat), (∀ i y, l[i]? = some y → dY Fz w b (o + i * sz) (f y)) → dh Fz w sz b o (l.map f)
  | [], _, _ => by simp only [List.map_nil, dh]
  | y :: l, o, h => by
    simp only [List.map_cons, dh]
    refine ⟨hf y, by simpa using h 0 y rfl, yA hf l (o + sz) fun i z hz => ?_⟩
    rw [show o + sz + i * sz = o + (i + 1) * sz from by rw [Nat.add_mul]; omega]
    exact h (i + 1) z hz
theorem I5 (a : Addr) (x y : Nat) : (a.add x).add y = a.add (x + y) := by
  unfold Addr.add
  by_cases hx : x = 0
  · subst hx; simp
  · by_cases hy : y = 0
    · subst hy; simp [hx]
    · simp [hx, hy, Nat.add_assoc]
theorem yB {w : World} {a : Addr} {u : Value} (h : w.cell? a = some u) : a = ⟨a.block, a.off, none⟩ ∧ a.block < w.heap.size := by
  unfold World.cell? at h
  split at h
  · rename_i c _ _ hb
    split at h
    · cases h
    · rename_i hs
      obtain ⟨b, o, s⟩ := a
      cases s with
      | none => exact ⟨rfl, by have := (Array.getElem?_eq_some_iff.mp hb).1; exact this⟩
      | some s => simp at hs
  · cases h
theorem I6 {α : Type} {f : α → List FV} {T e : TypeId} {G : α → Prop} (sz : Nat) (h : P.underlying T = some (.slice e)) (hc : P.cellsOf e = sz) (h0 : 0 < sz) (hf : ∀ a, (f a).length = sz) (hby : decide (1 ≤ P.bytesOf e) = true) (hd : I4 P e f G) :
    I4 P T (fun l : List α => [FV.sl (l.map f)]) (fun l => l.length ≤ 140737488351232 ∧ ∀ x ∈ l, G x) := by
  intro H enc w spare held fuel cs x hx hz
  rcases DataW.trod_slice h hx with ⟨rfl, rfl⟩ | ⟨a, len, cap, elems, rest, n, _, rfl, rfl, hb, hl, hm, hlen, hel, _, _⟩
  · refine ⟨[], ⟨?_, trivial⟩, by simp⟩
    simp only [fB]
    exact ⟨none, 0, rfl, Nat.le_refl _, by simp, .inl rfl⟩
  · have hw : ∀ m ∈ (elems.length + rest.length) * P.bytesOf e :: (DataW.weightsAll P e (elems.map (·.1)) ++ DataW.weightsAll P e (rest.map (·.1))), m ≤ reachBytes := by
      intro m hm'
      refine hz m ?_
      simp only [DataW.weights, h, List.length_map]
      exact hm'
    obtain ⟨ys, hyl, hys⟩ := tY (α := α) (Q := fun i y => ∃ c, w.cells? 0 (a.add (i * P.cellsOf e)) (P.cellsOf e) = some c ∧ cB (fun k => k < w.heap.size) w (f y) c ∧ G y) len (fun i hi => by
      have h1 := hel i hi
      rw [List.getElem?_eq_getElem (by omega), Option.bind_eq_some_iff] at h1
      obtain ⟨c, hc1, hc2⟩ := h1
      obtain ⟨y, hy, hg⟩ := hd enc w spare held n c _ hc2 (fun m hm' => by
        refine hw m (List.mem_cons_of_mem _ (List.mem_append.mpr (.inl ?_)))
        exact nI (i := i) (d := (elems[i]'(by omega)).1) (by rw [List.getElem?_map, List.getElem?_eq_getElem (by omega)]; rfl) m hm')
      exact ⟨y, c, hc1, hy, hg⟩)
    have hlen1 : (elems.length + rest.length) * P.bytesOf e ≤ reachBytes := hw _ (by simp)
    have hlm : cap ≤ 9223372036854775807 := by unfold maxLen at hm; omega
    refine ⟨ys, ⟨?_, trivial⟩, ?_, ?_⟩
    · simp only [fB, List.length_map]
      refine ⟨some a, cap, by rw [hyl], by omega, by omega, ?_⟩
      cases hy0 : ys with
      | nil => exact .inl rfl
      | cons y0 ys0 =>
        right
        obtain ⟨c0, k0, _, _⟩ := hys 0 y0 (by rw [hy0]; rfl)
        rw [hc] at k0
        obtain ⟨_, kl, kc⟩ := World.cells?_some k0
        have k1 := kc 0 h0
        rw [List.getElem?_eq_getElem (by omega)] at k1
        obtain ⟨ea, eb⟩ := yB k1
        have ea0 : (a.add (0 * sz)).add 0 = a := by simp [Addr.add]
        rw [ea0] at ea eb
        refine ⟨a.block, a.off, sz, congrArg some ea, eb, ?_⟩
        rw [← hy0]
        refine yA hf ys a.off fun i y hi => ?_
        obtain ⟨c, hc1, hk, _⟩ := hys i y hi
        rw [hc] at hc1
        obtain ⟨_, hcl, hcc⟩ := World.cells?_some hc1
        refine z8 _ c _ hk fun j u hj => ?_
        have hj' : j < sz := by have := (List.getElem?_eq_some_iff.1 hj).1; omega
        have := hcc j hj'
        rw [I5, hj] at this
        obtain ⟨e1, _⟩ := yB this
        rw [e1] at this
        have e2 : a.add (i * sz + j) = ⟨a.block, a.off + i * sz + j, none⟩ := by
          rw [ea]; unfold Addr.add; split
          · rename_i hz; congr 1; simp only; omega
          · congr 1; simp only; omega
        rw [e2] at this
        exact this
    · rw [hyl, ← hlen]
      have h1 : elems.length * P.bytesOf e ≤ (elems.length + rest.length) * P.bytesOf e := Nat.mul_le_mul_right _ (by omega)
      have h2 : reachBytes = 140737488351232 := rfl
      have h3 : elems.length * 1 ≤ elems.length * P.bytesOf e := Nat.mul_le_mul_left _ (of_decide_eq_true hby)
      omega
    · intro y hy
      obtain ⟨i, hi, rfl⟩ := List.mem_iff_getElem.1 hy
      obtain ⟨_, _, _, hg⟩ := hys i _ (List.getElem?_eq_getElem hi)
      exact hg
def PD (P : Program) {α : Type} (sz : Nat) (f : α → List FV) (fs : List (TypeId × Nat)) (off : Nat) (G : α → Prop) : Prop :=
  ∀ {H : Type} (enc : TypeId × Value → H) (w : World) (spare : Nat → Bool) (held : Bool) (n : Nat) (cs : List Value) (xs : List (DataW H × List MemPlace)),
    (∀ (i : Nat) (f : TypeId × Nat), fs[i]? = some f → DataW.trod enc P w 0 spare held n f.1 ((cs.drop f.2).take (P.cellsOf f.1)) = xs[i]?) → xs.length = fs.length →
    (∀ (i : Nat) (x : DataW H × List MemPlace) (f : TypeId × Nat), xs[i]? = some x → fs[i]? = some f → ∀ m ∈ x.1.weights P f.1, m ≤ reachBytes) → cs.length = off + sz → ∃ a, cB (fun k => k < w.heap.size) w (f a) (cs.drop off) ∧ G a
theorem uR {α : Type} {sz : Nat} {f : α → List FV} {t : TypeId} {off : Nat} {G : α → Prop} (hd : I4 P t f G) (hc : P.cellsOf t = sz) : PD P sz f [(t, off)] off G := by
  intro H enc w spare held n cs xs hf hl hw hn
  match xs, hl with
  | [y], _ =>
    have h1 := hf 0 _ rfl
    have h2 : (cs.drop off).take (P.cellsOf t) = cs.drop off := List.take_of_length_le (by rw [List.length_drop]; omega)
    rw [h2] at h1
    exact hd enc w spare held n _ y h1 (hw 0 y _ rfl rfl)
theorem Aa {Fz : Nat → Prop} {w : World} : ∀ {xs ys : List FV} {cs ds : List Value}, cB Fz w xs cs → cB Fz w ys ds → cB Fz w (xs ++ ys) (cs ++ ds)
  | [], _, [], _, _, h => h
  | [], _, _ :: _, _, h, _ => h.elim
  | _ :: _, _, [], _, h, _ => h.elim
  | x :: xs, ys, c :: cs, ds, h, k => ⟨h.1, Aa h.2 k⟩
theorem kM {α β : Type} {sz sz' : Nat} {f : α → List FV} {g : β → List FV} {t : TypeId} {fs : List (TypeId × Nat)} {off : Nat} {G : α → Prop} {G' : β → Prop} (hd : I4 P t f G) (hc : P.cellsOf t = sz)
    (hr : PD P sz' g fs (off + sz) G') : PD P (sz + sz') (fun p : α × β => f p.1 ++ g p.2) ((t, off) :: fs) off (fun p => G p.1 ∧ G' p.2) := by
  intro H enc w spare held n cs xs hf hl hw hn
  match xs, hl with
  | y :: ys, hl =>
    have h1 := hf 0 _ rfl
    obtain ⟨a, ha, ga⟩ := hd enc w spare held n _ y h1 (hw 0 y _ rfl rfl)
    obtain ⟨b, hb, gb⟩ := hr enc w spare held n cs ys (fun i f hi => hf (i + 1) f hi) (by simpa using hl) (fun i x f hx hfi => hw (i + 1) x f hx hfi) (by omega)
    refine ⟨(a, b), ?_, ga, gb⟩
    have e : cs.drop off = (cs.drop off).take (P.cellsOf t) ++ cs.drop (off + sz) := by rw [← List.drop_drop, hc, List.take_append_drop]
    rw [e]
    exact Aa ha hb
theorem rA {α : Type} {sz : Nat} {f : α → List FV} {T : TypeId} {fs : Array Field} {G : α → Prop} (h : P.underlying T = some (.struct fs)) (hc : P.cellsOf T = sz)
    (hd : PD P sz f (fs.toList.map fun f => (f.type, f.offset)) 0 G) : I4 P T f G := by
  intro H enc w spare held fuel cs x hx hz
  obtain ⟨xs, n, _, rfl, hl, hlen, hf⟩ := DataW.trod_struct h hx
  have hd' := hd enc w spare held n cs xs ?_ (by rw [List.length_map, Array.length_toList]; exact hlen) ?_ (by rw [Nat.zero_add, ← hc]; exact hl)
  · obtain ⟨a, ha, ga⟩ := hd'
    exact ⟨a, by simpa using ha, ga⟩
  · intro i f hi
    rw [List.getElem?_map, Option.map_eq_some_iff] at hi
    obtain ⟨f', hf', rfl⟩ := hi
    exact hf i f' (by rw [← Array.getElem?_toList]; exact hf')
  · intro i x f hxi hfi m hm
    refine hz m ?_
    simp only [DataW.weights, h]
    refine DataW.weights_mem_each (j := i) (t := f.1) (d := x.1) ?_ ?_ m hm
    · rw [List.getElem?_map] at hfi ⊢
      rw [Option.map_eq_some_iff] at hfi ⊢
      obtain ⟨f', hf', rfl⟩ := hfi
      exact ⟨f', hf', rfl⟩
    · rw [List.getElem?_map, hxi]; rfl
theorem wm {α β : Type} {T : TypeId} {f : α → List FV} {f' : β → List FV} {G : α → Prop} {G' : β → Prop} (g : α → β) (hg : ∀ a, f' (g a) = f a) (hG : ∀ a, G a → G' (g a)) (hd : I4 P T f G) : I4 P T f' G' := by
  intro H enc w spare held fuel cs x hx hz
  obtain ⟨a, ha, ga⟩ := hd enc w spare held fuel cs x hx hz
  exact ⟨g a, by rw [hg]; exact ha, hG a ga⟩
theorem pE {w : World} {r : Reach} {base : Nat} {t : TypeId} {fs : Array Field} {v : Value} (ht : P.underlying t = some (.struct fs)) (h : Value.okWide P w r base t v) : ∃ cs, v = .agg cs := by
  simp only [Value.okWide, ht] at h
  obtain ⟨cs, h1, _⟩ := h
  exact ⟨cs, h1⟩
theorem D9 {Fz : Nat → Prop} {w : World} : ∀ {xs : List FV} {cs : List Value}, cB Fz w xs cs → lu Fz w (xs.map .f) cs []
  | [], [], _ => rfl
  | [], _ :: _, h => h.elim
  | _ :: _, [], h => h.elim
  | x :: xs, c :: cs, h => ⟨[], [], ⟨h.1, rfl⟩, D9 h.2, rfl⟩
theorem Ea {Fz : Nat → Prop} {w : World} {xs : List FV} {cs : Array Value} (h : cB Fz w xs cs.toList) : qm Fz w (.agg (xs.map .f)) (.agg cs) [] := ⟨cs, rfl, D9 h⟩
theorem yC {Fz : Nat → Prop} {w : World} {x : AV} {v : Value} {xs : List AV} {vs : List Value} (h : qm Fz w x v []) (k : fM Fz w xs vs []) : fM Fz w (x :: xs) (v :: vs) [] := ⟨[], [], h, k, rfl⟩
theorem I7 {Fz : Nat → Prop} {w : World} : fM Fz w [] [] [] := rfl
end
end Go.Proofs.Ytdkkgecdhapfhaa.Ev
set_option maxRecDepth 100000
namespace Go.Proofs.Ytdkkgecdhapfhaa.Ka
open Go Ev
theorem opQ : I4 Try.prog 32 rQ (fun _ => True) :=
  wm (fun p : ByteArray × Int × Int => ⟨p.1, p.2.1, p.2.2⟩) (by exact fun _ => rfl) (by exact fun _ _ => trivial) (rA Try.underlying32 (by kernel_rfl) (kM (sz := 1) (sz' := 2) (G5 Try.underlying9) (by kernel_rfl) (kM (sz := 1) (sz' := 1) (qj Try.underlying3) (by kernel_rfl) (uR (qj Try.underlying3) (by kernel_rfl)))))
theorem opD : I4 Try.prog 33 (fun d : List ByteArray => [.sl (d.map gJ)]) (fun d => d.length ≤ 140737488351232) :=
  wm (fun d : List ByteArray => d) (by exact fun _ => rfl) (by exact fun _ h => h.1) (I6 1 Try.underlying33 (by kernel_rfl) (by decide) (fun _ => rfl) (by kernel_rfl) (G5 Try.underlying9))
theorem opS : I4 Try.prog 35 rS (fun x => x.d.length ≤ 140737488351232) :=
  wm (fun p : Qn × List ByteArray × Int => ⟨p.1.q, p.1.t, p.1.c, p.2.1, p.2.2⟩) (by exact fun _ => rfl) (by exact fun _ h => h.2.1) (rA Try.underlying35 (by kernel_rfl) (kM (sz := 3) (sz' := 2) opQ (by kernel_rfl) (kM (sz := 1) (sz' := 1) opD (by kernel_rfl) (uR (qj Try.underlying3) (by kernel_rfl)))))
theorem opO : I4 Try.prog 37 rO (fun x => x.d.length ≤ 140737488351232) :=
  wm (fun p : Int × Int × Se × Int => ⟨p.1, p.2.1, p.2.2.1.q, p.2.2.1.t, p.2.2.1.c, p.2.2.1.d, p.2.2.1.ttl, p.2.2.2⟩) (by exact fun _ => rfl) (by exact fun _ h => h.2.2.1) (rA Try.underlying37 (by kernel_rfl) (kM (sz := 1) (sz' := 7) (qj Try.underlying3) (by kernel_rfl) (kM (sz := 1) (sz' := 6) (qj Try.underlying3) (by kernel_rfl) (kM (sz := 5) (sz' := 1) opS (by kernel_rfl) (uR (qj Try.underlying3) (by kernel_rfl))))))
end Go.Proofs.Ytdkkgecdhapfhaa.Ka

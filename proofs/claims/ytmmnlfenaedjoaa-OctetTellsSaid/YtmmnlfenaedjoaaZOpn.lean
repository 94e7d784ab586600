/- Opening a law's arguments: what the reading of a value as data tells of it, by its kind. No conditions. -/
import Derived.Test.YtmmnlfenaedjoaaZB
import Derived.ProofKit
import Derived.OpenShut
import Derived.SizedLaws
import Derived.ChangeArms
import Derived.ChangeSlices
set_option linter.unusedVariables false
set_option linter.unusedSimpArgs false
namespace Go.Proofs.Ytmmnlfenaedjoaa.B
open Go.RowKit Go.Proofs.YtmmnlfenaedjoaaW.PrintWords
def Opens (P : Program) {α : Type} (d : Kd α) (T : TypeId) (G : α → Prop) : Prop :=
  ∀ {H : Type} (enc : TypeId × Value → H) (w : World) (spare : Nat → Bool) (held : Bool) (fuel : Nat) (cs : List Value) (x : DataW H × List MemPlace),
    DataW.trod enc P w 0 spare held fuel T cs = some x → (∀ n ∈ x.1.weights P T, n ≤ reachBytes) → ∃ a : α, d.K w a cs ∧ G a
theorem opens_int {P : Program} {k : IntKind} {T : TypeId} (h : P.underlying T = some (.int k)) : Opens P (Kd.int k) T (fun n => (Lit.int k n).wf = true) := by
  intro H enc w spare held fuel cs x hx _
  obtain ⟨n, rfl, rfl, hw⟩ := DataW.trod_int h hx
  exact ⟨n, rfl, hw⟩
theorem opens_bool {P : Program} {T : TypeId} (h : P.underlying T = some .bool) : Opens P Kd.bool T (fun _ => True) := by
  intro H enc w spare held fuel cs x hx _
  obtain ⟨b, rfl, rfl⟩ := DataW.trod_bool h hx
  exact ⟨b, rfl, trivial⟩
theorem opens_string {P : Program} {T : TypeId} (h : P.underlying T = some .string) : Opens P Kd.string T (fun s => s.size ≤ 140737488351232) := by
  intro H enc w spare held fuel cs x hx hz
  obtain ⟨s, rfl, rfl, hw⟩ := DataW.trod_string h hx
  refine ⟨s, rfl, ?_⟩
  have := hz s.data.toList.length (by simp [DataW.weights])
  rw [Array.length_toList] at this
  exact this
theorem add_add' (a : Addr) (x y : Nat) : (a.add x).add y = a.add (x + y) := by
  unfold Addr.add
  by_cases hx : x = 0
  · subst hx; simp
  · by_cases hy : y = 0
    · subst hy; simp [hx]
    · simp [hx, hy, Nat.add_assoc]
theorem weights_each_cons {H : Type} {P : Program} (t : TypeId) (ts : List TypeId) (d : DataW H) (ds : List (DataW H)) : DataW.weightsEach P (t :: ts) (d :: ds) = d.weights P t ++ DataW.weightsEach P ts ds := rfl
theorem weights_all_mem {H : Type} {P : Program} {e : TypeId} : ∀ {ds : List (DataW H)} {i : Nat} {d : DataW H}, ds[i]? = some d → ∀ n ∈ d.weights P e, n ∈ DataW.weightsAll P e ds
  | [], i, d, h, _, _ => by simp at h
  | d0 :: ds, 0, d, h, n, hn => by
    simp at h; subst h
    exact List.mem_append.mpr (.inl hn)
  | d0 :: ds, i + 1, d, h, n, hn => by
    simp at h
    exact List.mem_append.mpr (.inr (weights_all_mem h n hn))
theorem exists_list {α : Type} {Q : Nat → α → Prop} : ∀ n, (∀ i, i < n → ∃ y, Q i y) → ∃ ys : List α, ys.length = n ∧ ∀ i y, ys[i]? = some y → Q i y
  | 0, _ => ⟨[], rfl, by simp⟩
  | n + 1, h => by
    obtain ⟨ys, hl, hq⟩ := exists_list n (fun i hi => h i (by omega))
    obtain ⟨y, hy⟩ := h n (by omega)
    refine ⟨ys ++ [y], by simp [hl], fun i z hz => ?_⟩
    by_cases hi : i < n
    · rw [List.getElem?_append_left (by omega)] at hz
      exact hq i z hz
    · have hlt := (List.getElem?_eq_some_iff.1 hz).1
      simp only [List.length_append, List.length_singleton] at hlt
      obtain rfl : i = n := by omega
      rw [List.getElem?_append_right (by omega), hl, Nat.sub_self] at hz
      simp at hz
      subst hz
      exact hy
/-- A slice's. -/
theorem opens_slice {P : Program} {α : Type} {d : Kd α} {T e : TypeId} {G : α → Prop} (q : Nat) (h : P.underlying T = some (.slice e)) (hc : P.cellsOf e = d.sz) (hby : decide (1 ≤ P.bytesOf e) = true) (hd : Opens P d e G) :
    Opens P (Kd.slice q d) T (fun l => l.length ≤ 140737488351232 ∧ ∀ x ∈ l, G x) := by
  intro H enc w spare held fuel cs x hx hz
  rcases DataW.trod_slice h hx with ⟨rfl, rfl⟩ | ⟨a, len, cap, elems, rest, n, _, rfl, rfl, hb, hl, hm, hlen, hel, _, _⟩
  · exact ⟨[], ⟨none, 0, rfl, Nat.le_refl _, Kd.C_nil d w⟩, by simp⟩
  · have hw : ∀ m ∈ (elems.length + rest.length) * P.bytesOf e :: (DataW.weightsAll P e (elems.map (·.1)) ++ DataW.weightsAll P e (rest.map (·.1))), m ≤ reachBytes := by
      intro m hm'
      refine hz m ?_
      simp only [DataW.weights, h, List.length_map]
      exact hm'
    obtain ⟨ys, hyl, hys⟩ := exists_list (α := α) (Q := fun i y => ∃ c, w.cells? 0 (a.add (i * P.cellsOf e)) (P.cellsOf e) = some c ∧ d.K w y c ∧ G y) len (fun i hi => by
      have h1 := hel i hi
      rw [List.getElem?_eq_getElem (by omega), Option.bind_eq_some_iff] at h1
      obtain ⟨c, hc1, hc2⟩ := h1
      obtain ⟨y, hy, hg⟩ := hd enc w spare held n c _ hc2 (fun m hm' => by
        refine hw m (List.mem_cons_of_mem _ (List.mem_append.mpr (.inl ?_)))
        exact weights_all_mem (i := i) (d := (elems[i]'(by omega)).1) (by rw [List.getElem?_map, List.getElem?_eq_getElem (by omega)]; rfl) m hm')
      exact ⟨y, c, hc1, hy, hg⟩)
    have hlen1 : (elems.length + rest.length) * P.bytesOf e ≤ reachBytes := hw _ (by simp)
    have hlm : len ≤ 9223372036854775807 := by unfold maxLen at hm; omega
    refine ⟨ys, ⟨some a, cap, by rw [hyl], by omega, hyl.symm ▸ rfl, by omega, fun hp => ⟨a, rfl, fun j p hj => ?_⟩⟩, ?_, ?_⟩
    · obtain ⟨c, hc1, hk, _⟩ := hys j p hj
      obtain ⟨_, hcl, hcc⟩ := World.cells?_some hc1
      rw [hc] at hcl hcc hc1
      refine ⟨c, hcl, hk, fun i u hu => ?_⟩
      have hi : i < d.sz := by have := (List.getElem?_eq_some_iff.1 hu).1; omega
      rw [← add_add', ← hu]
      exact hcc i hi
    · rw [hyl, ← hlen]
      have h1 : elems.length * P.bytesOf e ≤ (elems.length + rest.length) * P.bytesOf e := Nat.mul_le_mul_right _ (by omega)
      have h2 : reachBytes = 140737488351232 := rfl
      have h3 : elems.length * 1 ≤ elems.length * P.bytesOf e := Nat.mul_le_mul_left _ (of_decide_eq_true hby)
      omega
    · intro y hy
      obtain ⟨i, hi, rfl⟩ := List.mem_iff_getElem.1 hy
      obtain ⟨_, _, _, hg⟩ := hys i _ (List.getElem?_eq_getElem hi)
      exact hg
/-- The fields of a struct, or the elements of an array, from a place on. -/
def OpensFs (P : Program) {α : Type} (d : Kd α) (fs : List (TypeId × Nat)) (off : Nat) (G : α → Prop) : Prop :=
  ∀ {H : Type} (enc : TypeId × Value → H) (w : World) (spare : Nat → Bool) (held : Bool) (n : Nat) (cs : List Value) (xs : List (DataW H × List MemPlace)),
    (∀ (i : Nat) (f : TypeId × Nat), fs[i]? = some f → DataW.trod enc P w 0 spare held n f.1 ((cs.drop f.2).take (P.cellsOf f.1)) = xs[i]?) → xs.length = fs.length →
    (∀ (i : Nat) (x : DataW H × List MemPlace) (f : TypeId × Nat), xs[i]? = some x → fs[i]? = some f → ∀ m ∈ x.1.weights P f.1, m ≤ reachBytes) → cs.length = off + d.sz → ∃ a, d.K w a (cs.drop off) ∧ G a
theorem opensFs_last {P : Program} {α : Type} {d : Kd α} {t : TypeId} {off : Nat} {G : α → Prop} (hd : Opens P d t G) (hc : P.cellsOf t = d.sz) : OpensFs P d [(t, off)] off G := by
  intro H enc w spare held n cs xs hf hl hw hn
  match xs, hl with
  | [y], _ =>
    have h1 := hf 0 _ rfl
    have h2 : (cs.drop off).take (P.cellsOf t) = cs.drop off := List.take_of_length_le (by rw [List.length_drop]; omega)
    rw [h2] at h1
    exact hd enc w spare held n _ y h1 (hw 0 y _ rfl rfl)
theorem opensFs_cons {P : Program} {α β : Type} {d : Kd α} {d' : Kd β} {t : TypeId} {fs : List (TypeId × Nat)} {off : Nat} {G : α → Prop} {G' : β → Prop} (hd : Opens P d t G) (hc : P.cellsOf t = d.sz)
    (hr : OpensFs P d' fs (off + d.sz) G') : OpensFs P (Kd.pair d d') ((t, off) :: fs) off (fun p => G p.1 ∧ G' p.2) := by
  intro H enc w spare held n cs xs hf hl hw hn
  have hn' : cs.length = off + (d.sz + d'.sz) := hn
  match xs, hl with
  | y :: ys, hl =>
    have h1 := hf 0 _ rfl
    obtain ⟨a, ha, ga⟩ := hd enc w spare held n _ y h1 (hw 0 y _ rfl rfl)
    obtain ⟨b, hb, gb⟩ := hr enc w spare held n cs ys (fun i f hi => hf (i + 1) f hi) (by simpa using hl) (fun i x f hx hfi => hw (i + 1) x f hx hfi) (by omega)
    refine ⟨(a, b), ⟨(cs.drop off).take d.sz, cs.drop (off + d.sz), ?_, by rw [← hc]; exact ha, hb⟩, ga, gb⟩
    rw [← List.drop_drop, List.take_append_drop]
theorem opens_struct {P : Program} {α : Type} {d : Kd α} {T : TypeId} {fs : Array Field} {G : α → Prop} (h : P.underlying T = some (.struct fs)) (hc : P.cellsOf T = d.sz)
    (hd : OpensFs P d (fs.toList.map fun f => (f.type, f.offset)) 0 G) : Opens P d T G := by
  intro H enc w spare held fuel cs x hx hz
  obtain ⟨xs, n, _, rfl, hl, hlen, hf⟩ := DataW.trod_struct h hx
  have hd' := hd enc w spare held n cs xs ?_ (by rw [List.length_map, Array.length_toList]; exact hlen) ?_ (by rw [Nat.zero_add, ← hc]; exact hl)
  · obtain ⟨a, ha, ga⟩ := hd'
    exact ⟨a, by simpa using ha, ga⟩
  · intro i f hi
    rw [List.getElem?_map, Option.map_eq_some_iff] at hi
    obtain ⟨f', hf', rfl⟩ := hi
    exact hf i f' (by rw [← Array.getElem?_toList]; exact hf')
  · intro i x f hxi hfi m hm
    refine hz m ?_
    simp only [DataW.weights, h]
    refine DataW.weights_mem_each (j := i) (t := f.1) (d := x.1) ?_ ?_ m hm
    · rw [List.getElem?_map] at hfi ⊢
      rw [Option.map_eq_some_iff] at hfi ⊢
      obtain ⟨f', hf', rfl⟩ := hfi
      exact ⟨f', hf', rfl⟩
    · rw [List.getElem?_map, hxi]; rfl
theorem opens_array {P : Program} {α : Type} {d : Kd α} {T e : TypeId} {n : Nat} {G : α → Prop} (h : P.underlying T = some (.array n e)) (hc : P.cellsOf T = d.sz)
    (hd : OpensFs P d ((List.range n).map fun i => (e, i * P.cellsOf e)) 0 G) : Opens P d T G := by
  intro H enc w spare held fuel cs x hx hz
  obtain ⟨xs, m, _, rfl, hl, hlen, hf⟩ := DataW.trod_array h hx
  have hd' := hd enc w spare held m cs xs ?_ (by rw [List.length_map, List.length_range]; exact hlen) ?_ (by rw [Nat.zero_add, ← hc]; exact hl)
  · obtain ⟨a, ha, ga⟩ := hd'
    exact ⟨a, by simpa using ha, ga⟩
  · intro i f hi
    rw [List.getElem?_map, Option.map_eq_some_iff] at hi
    obtain ⟨j, hj, rfl⟩ := hi
    have hlt := (List.getElem?_eq_some_iff.1 hj).1
    rw [List.length_range] at hlt
    rw [List.getElem?_range hlt] at hj
    obtain rfl := Option.some.inj hj
    exact hf i hlt
  · intro i x f hxi hfi k hk
    rw [List.getElem?_map, Option.map_eq_some_iff] at hfi
    obtain ⟨j, hj, rfl⟩ := hfi
    refine hz k ?_
    simp only [DataW.weights, h]
    exact weights_all_mem (i := i) (d := x.1) (by rw [List.getElem?_map, hxi]; rfl) k hk
theorem opens_iso {P : Program} {α β : Type} {d : Kd α} {T : TypeId} {G : α → Prop} {f : β → α} (g : α → β) (hg : ∀ a, f (g a) = a) (hd : Opens P d T G) : Opens P (Kd.iso d f) T (fun b => G (f b)) := by
  intro H enc w spare held fuel cs x hx hz
  obtain ⟨a, ha, ga⟩ := hd enc w spare held fuel cs x hx hz
  exact ⟨g a, by show d.K w (f (g a)) cs; rw [hg]; exact ha, by show G (f (g a)); rw [hg]; exact ga⟩
theorem okWide_array' {P : Program} {w : World} {r : Reach} {base n : Nat} {t e : TypeId} {v : Value} (ht : P.underlying t = some (.array n e)) (h : Value.okWide P w r base t v) : ∃ cs, v = .agg cs ∧ cs.size = P.cellsOf t := by
  simp only [Value.okWide, ht] at h
  obtain ⟨cs, h1, h2, _⟩ := h
  exact ⟨cs, h1, h2⟩
theorem weights_in {H : Type} {P : Program} {ts : List TypeId} {ds : List (DataW H)} (h : (DataW.weightsEach P ts ds).all (· ≤ reachBytes) = true) {j : Nat} {t : TypeId} {d : DataW H} (ht : ts[j]? = some t) (hd : ds[j]? = some d) :
    ∀ n ∈ d.weights P t, n ≤ reachBytes := fun n hn => by
  have := List.all_eq_true.1 h n (DataW.weights_mem_each ht hd n hn)
  simpa using this
end Go.Proofs.Ytmmnlfenaedjoaa.B

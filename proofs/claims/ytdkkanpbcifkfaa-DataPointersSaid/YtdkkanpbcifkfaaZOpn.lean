/- Opening a law's arguments: what the reading of a value as data tells of it, by its kind. No conditions. -/
import Derived.Test.YtdkkanpbcifkfaaZB
import Derived.ProofKit
import Derived.OpenShut
import Derived.SizedLaws
import Derived.ChangeArms
import Derived.ChangeSlices
set_option linter.unusedVariables false
set_option linter.unusedSimpArgs false
namespace Go.Proofs.Ytdkkanpbcifkfaa.B
open Go.RowKit Go.Proofs.YtdkkanpbcifkfaaW.PrintWords
def Opens (P : Program) {α : Type} (d : Kd α) (T : TypeId) (G : α → Prop) : Prop :=
  ∀ {H : Type} (enc : TypeId × Value → H) (w : World) (spare : Nat → Bool) (held : Bool) (fuel : Nat) (cs : List Value) (x : DataW H × List MemPlace),
    DataW.trod enc P w 0 spare held fuel T cs = some x → (∀ n ∈ x.1.weights P T, n ≤ reachBytes) → ∃ a : α, d.K w a cs ∧ G a
theorem opens_int {P : Program} {k : IntKind} {T : TypeId} (h : P.underlying T = some (.int k)) : Opens P (Kd.int k) T (fun n => (Lit.int k n).wf = true) := by
  intro H enc w spare held fuel cs x hx _
  obtain ⟨n, rfl, rfl, hw⟩ := DataW.trod_int h hx
  exact ⟨n, rfl, hw⟩
theorem weights_all_mem {H : Type} {P : Program} {e : TypeId} : ∀ {ds : List (DataW H)} {i : Nat} {d : DataW H}, ds[i]? = some d → ∀ n ∈ d.weights P e, n ∈ DataW.weightsAll P e ds
  | [], i, d, h, _, _ => by simp at h
  | d0 :: ds, 0, d, h, n, hn => by
    simp at h; subst h
    exact List.mem_append.mpr (.inl hn)
  | d0 :: ds, i + 1, d, h, n, hn => by
    simp at h
    exact List.mem_append.mpr (.inr (weights_all_mem h n hn))
/-- The fields of a struct, or the elements of an array, from a place on. -/
def OpensFs (P : Program) {α : Type} (d : Kd α) (fs : List (TypeId × Nat)) (off : Nat) (G : α → Prop) : Prop :=
  ∀ {H : Type} (enc : TypeId × Value → H) (w : World) (spare : Nat → Bool) (held : Bool) (n : Nat) (cs : List Value) (xs : List (DataW H × List MemPlace)),
    (∀ (i : Nat) (f : TypeId × Nat), fs[i]? = some f → DataW.trod enc P w 0 spare held n f.1 ((cs.drop f.2).take (P.cellsOf f.1)) = xs[i]?) → xs.length = fs.length →
    (∀ (i : Nat) (x : DataW H × List MemPlace) (f : TypeId × Nat), xs[i]? = some x → fs[i]? = some f → ∀ m ∈ x.1.weights P f.1, m ≤ reachBytes) → cs.length = off + d.sz → ∃ a, d.K w a (cs.drop off) ∧ G a
theorem opensFs_last {P : Program} {α : Type} {d : Kd α} {t : TypeId} {off : Nat} {G : α → Prop} (hd : Opens P d t G) (hc : P.cellsOf t = d.sz) : OpensFs P d [(t, off)] off G := by
  intro H enc w spare held n cs xs hf hl hw hn
  match xs, hl with
  | [y], _ =>
    have h1 := hf 0 _ rfl
    have h2 : (cs.drop off).take (P.cellsOf t) = cs.drop off := List.take_of_length_le (by rw [List.length_drop]; omega)
    rw [h2] at h1
    exact hd enc w spare held n _ y h1 (hw 0 y _ rfl rfl)
theorem opensFs_cons {P : Program} {α β : Type} {d : Kd α} {d' : Kd β} {t : TypeId} {fs : List (TypeId × Nat)} {off : Nat} {G : α → Prop} {G' : β → Prop} (hd : Opens P d t G) (hc : P.cellsOf t = d.sz)
    (hr : OpensFs P d' fs (off + d.sz) G') : OpensFs P (Kd.pair d d') ((t, off) :: fs) off (fun p => G p.1 ∧ G' p.2) := by
  intro H enc w spare held n cs xs hf hl hw hn
  have hn' : cs.length = off + (d.sz + d'.sz) := hn
  match xs, hl with
  | y :: ys, hl =>
    have h1 := hf 0 _ rfl
    obtain ⟨a, ha, ga⟩ := hd enc w spare held n _ y h1 (hw 0 y _ rfl rfl)
    obtain ⟨b, hb, gb⟩ := hr enc w spare held n cs ys (fun i f hi => hf (i + 1) f hi) (by simpa using hl) (fun i x f hx hfi => hw (i + 1) x f hx hfi) (by omega)
    refine ⟨(a, b), ⟨(cs.drop off).take d.sz, cs.drop (off + d.sz), ?_, by rw [← hc]; exact ha, hb⟩, ga, gb⟩
    rw [← List.drop_drop, List.take_append_drop]
theorem opens_array {P : Program} {α : Type} {d : Kd α} {T e : TypeId} {n : Nat} {G : α → Prop} (h : P.underlying T = some (.array n e)) (hc : P.cellsOf T = d.sz)
    (hd : OpensFs P d ((List.range n).map fun i => (e, i * P.cellsOf e)) 0 G) : Opens P d T G := by
  intro H enc w spare held fuel cs x hx hz
  obtain ⟨xs, m, _, rfl, hl, hlen, hf⟩ := DataW.trod_array h hx
  have hd' := hd enc w spare held m cs xs ?_ (by rw [List.length_map, List.length_range]; exact hlen) ?_ (by rw [Nat.zero_add, ← hc]; exact hl)
  · obtain ⟨a, ha, ga⟩ := hd'
    exact ⟨a, by simpa using ha, ga⟩
  · intro i f hi
    rw [List.getElem?_map, Option.map_eq_some_iff] at hi
    obtain ⟨j, hj, rfl⟩ := hi
    have hlt := (List.getElem?_eq_some_iff.1 hj).1
    rw [List.length_range] at hlt
    rw [List.getElem?_range hlt] at hj
    obtain rfl := Option.some.inj hj
    exact hf i hlt
  · intro i x f hxi hfi k hk
    rw [List.getElem?_map, Option.map_eq_some_iff] at hfi
    obtain ⟨j, hj, rfl⟩ := hfi
    refine hz k ?_
    simp only [DataW.weights, h]
    exact weights_all_mem (i := i) (d := x.1) (by rw [List.getElem?_map, hxi]; rfl) k hk
theorem opens_iso {P : Program} {α β : Type} {d : Kd α} {T : TypeId} {G : α → Prop} {f : β → α} (g : α → β) (hg : ∀ a, f (g a) = a) (hd : Opens P d T G) : Opens P (Kd.iso d f) T (fun b => G (f b)) := by
  intro H enc w spare held fuel cs x hx hz
  obtain ⟨a, ha, ga⟩ := hd enc w spare held fuel cs x hx hz
  exact ⟨g a, by show d.K w (f (g a)) cs; rw [hg]; exact ha, by show G (f (g a)); rw [hg]; exact ga⟩
theorem okWide_array' {P : Program} {w : World} {r : Reach} {base n : Nat} {t e : TypeId} {v : Value} (ht : P.underlying t = some (.array n e)) (h : Value.okWide P w r base t v) : ∃ cs, v = .agg cs ∧ cs.size = P.cellsOf t := by
  simp only [Value.okWide, ht] at h
  obtain ⟨cs, h1, h2, _⟩ := h
  exact ⟨cs, h1, h2⟩
theorem weights_in {H : Type} {P : Program} {ts : List TypeId} {ds : List (DataW H)} (h : (DataW.weightsEach P ts ds).all (· ≤ reachBytes) = true) {j : Nat} {t : TypeId} {d : DataW H} (ht : ts[j]? = some t) (hd : ds[j]? = some d) :
    ∀ n ∈ d.weights P t, n ≤ reachBytes := fun n hn => by
  have := List.all_eq_true.1 h n (DataW.weights_mem_each ht hd n hn)
  simpa using this
end Go.Proofs.Ytdkkanpbcifkfaa.B

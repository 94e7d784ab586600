/- A part of the proof of StoreUsed: cut, joined and given short names by a program of this session (wip/tools/pack.py); Lean checks it. No condition. -/
import Derived.Test.YtdkkgecdhapfhaaPSUedm
import Derived.Test.YtdkkgecdhapfhaaPSUede
import Derived.ProofKit
import Derived.OpenShut
import Derived.SizedLaws
import Derived.ChangeArms
import Derived.ChangeSlices
import Derived.Carry
import Derived.Test.YtdkkgecdhapfhaaPSUedd
set_option linter.unusedSectionVars false
set_option linter.unusedSimpArgs false
set_option linter.unusedVariables false
namespace Go.Proofs.Ytdkkgecdhapfhaa.Ka
open Go Ev
variable {θ : Th}
structure Iv (key : Nat → Qn) (it : Nat → It) (R a i : Nat) (s : Sv) : Prop where
  room : s.room = R
  ch : s.ch = R + i
  o : ∃ A B, s.o = A ++ key a :: B ∧ A.length + i + 1 = R ∧ B.length = i
  sub : ∀ k ∈ s.o, ∃ j, j < R + i ∧ k = key j
  d : ∀ x ∈ s.m, x.d.length ≤ 1000000
  ml : s.m.length ≤ R + i
  has : old s.m (key a) = some (it a)
  new : ∀ j, R + i ≤ j → j ≤ 80 → old s.m (key j) = none
  mK : s.o.Nodup
  Zj : (ks s.m).Nodup
theorem oW {l : List It} {b : Qn} (h : old l b = none) : b ∉ ks l := fun hm => by
  obtain ⟨y, hy, hk⟩ := List.mem_map.mp hm
  have := List.find?_eq_none.mp h y hy
  simp [hk] at this
theorem Iv.step {key : Nat → Qn} {it : Nat → It} {x : Se} (hinj : ∀ i j, i ≤ 80 → j ≤ 80 → key i = key j → i = j) {R a i : Nat} {s : Sv} (h : Iv key it R a i s) (hi : i + 1 < R) (hR : R ≤ 40) (ha : a < R) (hx : x.k = key (R + i)) (hd : x.d.length ≤ 1000000) (hs : θ.set x.q x.t x.c x.d x.ttl = true) (hu : 0 ≤ cZ 1 x.ttl) (hl : iW 1 (cZ 1 x.ttl) = true) :
    ∃ s', jM θ s 1 x 3 = (s', 0) ∧ Iv key it R a (i + 1) s' := by
  obtain ⟨A, B, ho, hA, hB⟩ := h.o
  cases A with
  | nil => simp at hA; omega
  | cons y A =>
  have hnew := h.new (R + i) (by omega) (by omega)
  have hno : x.k ∉ s.o := fun hm => by
    obtain ⟨j, hj, e⟩ := h.sub _ hm
    rw [hx] at e
    have := hinj _ _ (by omega) (by omega) e
    omega
  have hnm : x.k ∉ ks s.m := oW (by rw [hx]; exact hnew)
  have hlen : (s.o.length : Int) = s.room := by rw [ho, h.room]; simp at hA ⊢; omega
  refine ⟨_, zR hu hs (by decide) hl (by rw [hx]; exact hnew) hno ho hlen, ?_⟩
  have Zk := h.mK
  rw [ho] at Zk
  have hnc := List.nodup_cons.mp Zk
  have hyk : y ≠ key a := by rintro rfl; exact hnc.1 (by simp)
  have hma : (ks (s.m ++ [x.it (cZ 1 x.ttl) 3])).Nodup := zQ h.Zj hnm
  have hak : key a ≠ x.k := fun e => by
    rw [hx] at e
    have := hinj _ _ (by omega) (by omega) e
    omega
  refine ⟨h.room, by show s.ch + 1 = _; rw [h.ch]; omega, ⟨A, B ++ [x.k], by simp, by simp at hA; omega, by simp [hB]⟩, fun k hk => ?_, fun z hz => ?_, ?_, ?_, fun j h1 h2 => ?_, ?_, IQ hma⟩
  · rcases List.mem_append.mp hk with hk | hk
    · obtain ⟨j, hj, e⟩ := h.sub k (by rw [ho]; exact List.mem_cons_of_mem _ hk)
      exact ⟨j, by omega, e⟩
    · rw [List.mem_singleton] at hk
      exact ⟨R + i, by omega, by rw [hk, hx]⟩
  · rcases List.mem_append.mp (tO.subset hz) with hz | hz
    · exact h.d z hz
    · rw [List.mem_singleton] at hz; subst hz; exact hd
  · have := h.ml
    have h3 : (rid (s.m ++ [x.it (cZ 1 x.ttl) 3]) y).length ≤ s.m.length + 1 := Nat.le_trans tO.length_le (by simp)
    show (rid (s.m ++ [x.it (cZ 1 x.ttl) 3]) y).length ≤ _
    omega
  · show old (rid (s.m ++ [x.it (cZ 1 x.ttl) 3]) y) (key a) = _
    rw [BH hma, if_neg (fun e => hyk e.symm), GQ hnm, if_neg hak]
    exact h.has
  · show old (rid (s.m ++ [x.it (cZ 1 x.ttl) 3]) y) (key j) = _
    rw [BH hma]
    split
    · rfl
    · rw [GQ hnm, if_neg (fun e => by
        have e' : key j = key (R + i) := e.trans hx
        have := hinj _ _ (by omega) (by omega) e'
        omega)]
      exact h.new j (by omega) h2
  · show ((A ++ key a :: B) ++ [x.k]).Nodup
    refine List.nodup_append.mpr ⟨hnc.2, List.pairwise_singleton _ _, fun p hp q hq => ?_⟩
    rw [List.mem_singleton] at hq; subst hq; rintro rfl
    exact hno (by rw [ho]; exact List.mem_cons_of_mem _ hp)
theorem Iv.last {key : Nat → Qn} {it : Nat → It} {x : Se} (hinj : ∀ i j, i ≤ 80 → j ≤ 80 → key i = key j → i = j) {R a i : Nat} {s : Sv} (h : Iv key it R a i s) (hi : i + 1 = R) (hR : R ≤ 40) (hx : x.k = key (2 * R)) (hd : x.d.length ≤ 1000000) (hs : θ.set x.q x.t x.c x.d x.ttl = true) (hu : 0 ≤ cZ 1 x.ttl) (hl : iW 1 (cZ 1 x.ttl) = true) :
    ∃ s', jM θ s 1 x 3 = (s', 0) ∧ nT s' 1 (key a) = (M8, false) ∧ ∀ y ∈ s'.m, y.d.length ≤ 1000000 := by
  obtain ⟨A, B, ho, hA, hB⟩ := h.o
  obtain rfl : A = [] := List.length_eq_zero_iff.mp (by omega)
  rw [List.nil_append] at ho
  have hnew := h.new (2 * R) (by omega) (by omega)
  have hno : x.k ∉ s.o := fun hm => by
    obtain ⟨j, hj, e⟩ := h.sub _ hm
    rw [hx] at e
    have := hinj _ _ (by omega) (by omega) e
    omega
  have hnm : x.k ∉ ks s.m := oW (by rw [hx]; exact hnew)
  have hlen : (s.o.length : Int) = s.room := by rw [ho, h.room]; simp; omega
  have hma : (ks (s.m ++ [x.it (cZ 1 x.ttl) 3])).Nodup := zQ h.Zj hnm
  refine ⟨_, zR hu hs (by decide) hl (by rw [hx]; exact hnew) hno ho hlen, ?_, fun z hz => ?_⟩
  · unfold nT
    show (match old (rid (s.m ++ [x.it (cZ 1 x.ttl) 3]) (key a)) (key a) with | some x => if iW 1 x.u then (x, true) else (M8, false) | none => (M8, false)) = _
    rw [BH hma, if_pos rfl]
  · rcases List.mem_append.mp (tO.subset hz) with hz | hz
    · exact h.d z hz
    · rw [List.mem_singleton] at hz; subst hz; exact hd
end Go.Proofs.Ytdkkgecdhapfhaa.Ka
set_option maxRecDepth 4000
namespace Go.Proofs.Ytdkkgecdhapfhaa.Ka
open Go Ev
variable {ext : Env} {F n : Nat} {θ : Th}
def Th.Ones (θ : Th) : Prop := ∀ i : Nat, i ≤ 80 → θ.set (jf i).q 1 1 (jf i).d 99 = true
abbrev kk (i : Nat) : Qn := (jf i).k
abbrev ii (i : Nat) : It := (jf i).it 99 3
def D7 (room : Int) (i : Nat) : Sv := ⟨room, (List.range i).map ii, (List.range i).map kk, i⟩
theorem q8 {i j : Nat} (hi : i ≤ 80) (hj : j ≤ 80) (h : kk i = kk j) : i = j := LH hi hj (congrArg Qn.q h)
theorem Pg (O : θ.Ones) {room : Int} {i : Nat} (h : (i : Int) < room) (hr : room ≤ 40) : jM θ (D7 room i) 0 (jf i) 3 = (D7 room (i + 1), 0) := by
  have hno : kk i ∉ (List.range i).map kk := fun hm => by
    obtain ⟨j, hj, he⟩ := List.mem_map.mp hm
    have := List.mem_range.mp hj
    have := q8 (by omega) (by omega) he
    omega
  have hold : old (D7 room i).m (jf i).k = none := BF (by show kk i ∉ ks ((List.range i).map ii); rw [show ks ((List.range i).map ii) = (List.range i).map kk by simp [ks]]; exact hno)
  have hu : cZ 0 (jf i).ttl = 99 := by show cZ 0 99 = 99; decide
  rw [LG (by rw [hu]; decide) (O i (by omega)) (by decide) (by rw [hu]; decide) hold hno (by show (((List.range i).map kk).length : Int) < room; simpa using h)]
  simp [D7, List.range_succ, hu]
def Zl (room : Int) (a : Int) : Sv := ⟨room, (List.range room.toNat).map ii, uo ((List.range room.toNat).map kk) (jf a).k ++ [(jf a).k], room.toNat⟩
theorem Ph {room a : Int} (hb : 2 ≤ room ∧ room ≤ 40 ∧ 0 ≤ a ∧ a < room) : C8 (D7 room room.toNat) 1 (jf a).k = (Zl room a, (jf a).it 99 3, true) := by
  obtain ⟨j, rfl⟩ : ∃ j : Nat, a = j := ⟨a.toNat, by omega⟩
  have hold : old (D7 room room.toNat).m (jf j).k = some ((jf j).it 99 3) := by
    cases h : old (D7 room room.toNat).m (jf j).k with
    | none => exact absurd (List.mem_map.mpr ⟨ii j, List.mem_map.mpr ⟨j, List.mem_range.mpr (by omega), rfl⟩, rfl⟩) (oW h)
    | some x =>
      obtain ⟨hk, hm⟩ := BG h
      obtain ⟨i, hi, rfl⟩ := List.mem_map.mp hm
      have := List.mem_range.mp hi
      have := q8 (i := i) (j := j) (by omega) (by omega) hk
      rw [this]
  unfold C8
  rw [hold]
  rfl
theorem iv0 {room : Int} {a : Nat} (hb : 2 ≤ room ∧ room ≤ 40 ∧ (a : Int) < room) : Iv kk ii room.toNat a 0 (Zl room a) := by
  have hN : ((room.toNat : Nat) : Int) = room := by omega
  have hks : ks ((List.range room.toNat).map ii) = (List.range room.toNat).map kk := by simp [ks]
  have hnd : ((List.range room.toNat).map kk).Nodup := by
    refine List.pairwise_map.mpr (List.Pairwise.imp_of_mem (fun {i j} hi hj hne he => ?_) (List.nodup_range (n := room.toNat)))
    have := List.mem_range.mp hi
    have := List.mem_range.mp hj
    exact hne (q8 (by omega) (by omega) he)
  have ham : kk a ∈ (List.range room.toNat).map kk := List.mem_map.mpr ⟨a, List.mem_range.mpr (by omega), rfl⟩
  have hlen : (uo ((List.range room.toNat).map kk) (kk a)).length + 1 = room.toNat := by
    have h1 := Uc (l := (List.range room.toNat).map ii) (a := kk a) (by rw [hks]; exact hnd)
    rw [hks] at h1
    obtain ⟨x, hx⟩ : ∃ x, old ((List.range room.toNat).map ii) (kk a) = some x := by
      cases h : old ((List.range room.toNat).map ii) (kk a) with
      | some x => exact ⟨x, rfl⟩
      | none => exact absurd (by rw [hks]; exact ham) (oW h)
    have h2 := Ud hx
    rw [← h1]
    simp [ks] at h2 ⊢
    omega
  refine ⟨hN.symm, by show ((room.toNat : Nat) : Int) = _; omega, ⟨uo ((List.range room.toNat).map kk) (kk a), [], rfl, by omega, rfl⟩, fun k hk => ?_, fun x hx => ?_, by simp [Zl], ?_, fun j h1 h2 => ?_, ?_, by show (ks ((List.range room.toNat).map ii)).Nodup; rw [hks]; exact hnd⟩
  · rcases List.mem_append.mp hk with hk | hk
    · obtain ⟨j, hj, rfl⟩ := List.mem_map.mp (List.mem_filter.mp hk).1
      exact ⟨j, by have := List.mem_range.mp hj; omega, rfl⟩
    · rw [List.mem_singleton] at hk
      exact ⟨a, by omega, hk⟩
  · obtain ⟨j, -, rfl⟩ := List.mem_map.mp hx
    show (1 : Nat) ≤ _; decide
  · show old ((List.range room.toNat).map ii) (kk a) = some (ii a)
    cases h : old ((List.range room.toNat).map ii) (kk a) with
    | none => exact absurd (by rw [hks]; exact ham) (oW h)
    | some x =>
      obtain ⟨hk, hm⟩ := BG h
      obtain ⟨i, hi, rfl⟩ := List.mem_map.mp hm
      have := List.mem_range.mp hi
      rw [q8 (i := i) (j := a) (by omega) (by omega) hk]
  · refine BF ?_
    show kk j ∉ ks ((List.range room.toNat).map ii)
    rw [hks]
    intro hm
    obtain ⟨i, hi, he⟩ := List.mem_map.mp hm
    have := List.mem_range.mp hi
    have := q8 (i := i) (j := j) (by omega) (by omega) he
    omega
  · show (uo ((List.range room.toNat).map kk) (kk a) ++ [kk a]).Nodup
    refine List.nodup_append.mpr ⟨hnd.filter _, List.pairwise_singleton _ _, fun p hp q hq => ?_⟩
    rw [List.mem_singleton] at hq; subst hq; rintro rfl
    have := (List.mem_filter.mp hp).2
    simp at this
theorem BI (Q : FY θ ext) (C : qQ ext) (L : θ.Live) (O : θ.Ones) (hF : 200000000000001 ≤ F) (room at' : Int) : G ext F (n + 8) 8 [vi room, vi at'] = some ([vb true], [vi room, vi at']) := by
  refine iF (cf := c8) rfl ?_
  have hv := fun n => Kk (F := F) (n := n) Q C L hF
  by_cases hb : 2 ≤ room ∧ room ≤ 40 ∧ 0 ≤ at' ∧ at' < room
  · have hn := fun n => AA (ext := ext) (F := F) (n := n) room
    rw [if_neg (by omega), oG] at hn
    have c1 : decide (room < 2) = false := by simp; omega
    have c2 : decide (40 < room) = false := by simp; omega
    have c3 : decide (at' < 0) = false := by simp; omega
    have c4 : decide (room ≤ at') = false := by simp; omega
    simp only [c8, hv, hn, c1, c2, c3, c4, go_sem, Nat.reduceAdd, Nat.reduceMul, Nat.reduceEqDiff, Nat.reduceBEq, Nat.reduceMod, Nat.reduceDiv, ↓reduceIte, reduceCtorEq]
    refine wT room.toNat (fun i => ⟨[(0, PV.c (CV.one (PL.f (FV.int IntKind.i64 room)))), (1, PV.c (CV.one (PL.f (FV.int IntKind.i64 at')))), (5, PV.c (CV.one (PL.ptr 640200 0))), (6, PV.c (CV.one (PL.f (FV.int IntKind.i64 i))))], [(640200, Ob.mR [PL.f (FV.int IntKind.i64 room), PL.mp 640204, PL.f (FV.sl ((D7 room i).o.map rQ)), PL.f (FV.int IntKind.i64 i)]), (640204, Ob.map shQ ((D7 room i).m.map ent))]⟩) (fun _ => True) (by omega) rfl trivial (fun i hi _ => ?_) (fun _ => ?_)
    · have hlt : decide ((i : Int) < room) = true := by simp; omega
      have hn' := nx (i := i) (N := 1000000) (by omega) (by omega)
      have ho := fun n => AB (ext := ext) (F := F) (n := n) i
      have hp := fun n => nL (F := F) (n := n) Q (D7 room i) 0 (jf i) 3 (by show 0 ≤ room ∧ room ≤ _; omega) (by show 0 ≤ (i : Int) ∧ (i : Int) ≤ _; omega) (by simp [D7]; omega) (by simp [D7]; omega) (by simp [jf, EF, ByteArray.size]) (by simp [jf]) (by intro y hy; simp [jf] at hy; subst hy; decide)
      rw [Pg O (by omega) hb.2.1] at hp
      simp only [Sv.v, Se.v, J5, jf, List.map_cons, List.map_nil, iY] at ho hp
      simp only [D7] at hp ⊢
      simp only [hlt, hn', ho, hp, go_sem, Nat.reduceAdd, Nat.reduceMul, Nat.reduceEqDiff, Nat.reduceBEq, Nat.reduceMod, Nat.reduceDiv, ↓reduceIte, reduceCtorEq]
      done
    · have hlt : decide (((room.toNat : Nat) : Int) < room) = false := by simp; omega
      have ho := fun n => AB (ext := ext) (F := F) (n := n) at'
      have hg := fun n => Kh (F := F) (n := n) C (D7 room room.toNat) 1 (jf at').k (by intro x hx; obtain ⟨j, -, rfl⟩ := List.mem_map.mp hx; show (1 : Nat) ≤ _; decide) (by simp [D7]; omega) hF
      rw [Ph hb] at hg
      simp only [Sv.v, D7, Zl] at hg ⊢
      simp only [hlt, ho, hg, go_sem, Nat.reduceAdd, Nat.reduceMul, Nat.reduceEqDiff, Nat.reduceBEq, Nat.reduceMod, Nat.reduceDiv, ↓reduceIte, reduceCtorEq]
      obtain ⟨a, rfl⟩ : ∃ a : Nat, at' = a := ⟨at'.toNat, by omega⟩
      have hN : ((room.toNat : Nat) : Int) = room := by omega
      have hw1 : IntKind.i64.wrap (room - 1) = room - 1 := CK (by omega) (by omega)
      refine Qk (room.toNat - 1) (fun x : Nat × Sv => ⟨[(0, PV.c (CV.one (PL.f (FV.int IntKind.i64 room)))), (1, PV.c (CV.one (PL.f (FV.int IntKind.i64 a)))), (5, PV.c (CV.one (PL.ptr 640200 0))), (8, PV.c (CV.one (PL.f (FV.bool true)))), (9, PV.c (CV.one (PL.f (FV.int IntKind.i64 x.1))))], [(640200, Ob.mR [PL.f (FV.int IntKind.i64 x.2.room), PL.mp 640204, PL.f (FV.sl (x.2.o.map rQ)), PL.f (FV.int IntKind.i64 x.2.ch)]), (640204, Ob.map shQ (x.2.m.map ent))]⟩) (fun i x => x.1 = i ∧ Iv kk ii room.toNat a i x.2) (by omega) (0, Zl room a) rfl ⟨rfl, iv0 (by omega)⟩ (fun i x hi hP => ?_) (fun x hP => ?_)
      · obtain ⟨i', s⟩ := x
        obtain ⟨rfl, hI⟩ := hP
        simp only at hI ⊢
        have hlt : decide ((i' : Int) < room - 1) = true := by simp; omega
        have hn' := nx (i := i') (N := 1000000) (by omega) (by omega)
        have hwi : IntKind.i64.wrap (room + (i' : Int)) = ((room.toNat + i' : Nat) : Int) := by rw [CK (by omega) (by omega)]; omega
        have ho1 := fun n => AB (ext := ext) (F := F) (n := n) ((room.toNat + i' : Nat) : Int)
        have hch := hI.ch
        have hrm := hI.room
        have hml := hI.ml
        obtain ⟨A, B, hAB, hA, hB⟩ := hI.o
        have hol : s.o.length = room.toNat := by rw [hAB]; simp; omega
        have hp := fun n => nL (F := F) (n := n) Q s 1 (jf ((room.toNat + i' : Nat) : Int)) 3 (by omega) (by omega) (by omega) (by omega) (by simp [jf, EF, ByteArray.size]) (by simp [jf]) (by intro y hy; simp [jf] at hy; subst hy; decide)
        obtain ⟨s', hs', hI'⟩ := hI.step (x := jf ((room.toNat + i' : Nat) : Int)) (fun i j hi hj h => q8 hi hj h) (by omega) (by omega) (by omega) rfl (by simp [jf]) (O _ (by omega)) (by show 0 ≤ cZ 1 99; decide) (by show iW 1 (cZ 1 99) = true; decide)
        rw [hs'] at hp
        have hpk := fun n => su (F := F) (n := n) C s' 1 (kk a) hI'.d
        have hsp : nT s' 1 (kk a) = (ii a, true) := by unfold nT; rw [hI'.has]; rfl
        rw [hsp] at hpk
        have hky := fun n => CY (ext := ext) (F := F) (n := n) C (some s') (by rintro _ ⟨⟩; obtain ⟨A', B', Ue, hA', hB'⟩ := hI'.o; rw [Ue]; simp; omega)
        have adS : ((s'.o.length : Nat) : Int) = room := by obtain ⟨A', B', Ue, hA', hB'⟩ := hI'.o; rw [Ue]; simp; omega
        simp only [oG, Sv.v] at hky hp hpk
        simp only [hlt, hn', hw1, hwi, ho1, hp, ho, hpk, hky, List.length_map, adS, go_sem, Nat.reduceAdd, Nat.reduceMul, Nat.reduceEqDiff, Nat.reduceBEq, Nat.reduceMod, Nat.reduceDiv, ↓reduceIte, reduceCtorEq]
        exact ⟨(i' + 1, s'), rfl, rfl, hI'⟩
      · obtain ⟨i', s⟩ := x
        obtain ⟨rfl, hI⟩ := hP
        simp only at hI ⊢
        have hlt : decide (((room.toNat - 1 : Nat) : Int) < room - 1) = false := by simp; omega
        have hw2 : IntKind.i64.wrap (2 * room) = ((2 * room.toNat : Nat) : Int) := by rw [CK (by omega) (by omega)]; omega
        have ho1 := fun n => AB (ext := ext) (F := F) (n := n) ((2 * room.toNat : Nat) : Int)
        have hch := hI.ch
        have hrm := hI.room
        have hml := hI.ml
        obtain ⟨A, B, hAB, hA, hB⟩ := hI.o
        have hol : s.o.length = room.toNat := by rw [hAB]; simp; omega
        have hp := fun n => nL (F := F) (n := n) Q s 1 (jf ((2 * room.toNat : Nat) : Int)) 3 (by omega) (by omega) (by omega) (by omega) (by simp [jf, EF, ByteArray.size]) (by simp [jf]) (by intro y hy; simp [jf] at hy; subst hy; decide)
        obtain ⟨s', hs', hI', hd'⟩ := hI.last (x := jf ((2 * room.toNat : Nat) : Int)) (fun i j hi hj h => q8 hi hj h) (by omega) (by omega) rfl (by simp [jf]) (O _ (by omega)) (by show 0 ≤ cZ 1 99; decide) (by show iW 1 (cZ 1 99) = true; decide)
        rw [hs'] at hp
        have hpk := fun n => su (F := F) (n := n) C s' 1 (kk a) hd'
        rw [hI'] at hpk
        simp only [Sv.v] at hp hpk
        simp only [hlt, hw1, hw2, ho1, hp, ho, hpk, hv, go_sem, Nat.reduceAdd, Nat.reduceMul, Nat.reduceEqDiff, Nat.reduceBEq, Nat.reduceMod, Nat.reduceDiv, ↓reduceIte, reduceCtorEq]
        done
  · simp only [c8, hv, go_sem, Nat.reduceAdd, Nat.reduceMul, Nat.reduceEqDiff, Nat.reduceBEq, Nat.reduceMod, Nat.reduceDiv, ↓reduceIte, reduceCtorEq]
    repeat' (refine fC (fun h => ?_) (fun h => ?_) <;> simp only [h, hv, go_sem, Nat.reduceAdd, Nat.reduceMul, Nat.reduceEqDiff, Nat.reduceBEq, Nat.reduceMod, Nat.reduceDiv, ↓reduceIte, reduceCtorEq])
    all_goals first | rfl | (exfalso; clear hv; simp only [decide_eq_true_eq, decide_eq_false_iff_not] at *; omega)
end Go.Proofs.Ytdkkgecdhapfhaa.Ka
set_option maxRecDepth 100000
namespace Go.Proofs.Ytdkkgecdhapfhaa.Ka
open Go Ev
theorem Pj : zP.Ones := by
  intro i hi
  have h : ∀ i : Fin 81, zP.set (jf i.val).q 1 1 (jf i.val).d 99 = true := by decide +kernel
  exact h ⟨i, by omega⟩
end Go.Proofs.Ytdkkgecdhapfhaa.Ka
namespace Go.Proofs.Ytdkkgecdhapfhaa.Ev
open Go Go.RowKit
structure Old (w w' : World) : Prop where
  os : w'.os = w.os
  output : w'.output = w.output
  size : w.heap.size ≤ w'.heap.size
  block : ∀ k, k < w.heap.size → w'.heap[k]? = w.heap[k]?
theorem Old.frame {W w' : World} (h : Old W w') (may : MemPlace → Prop) : W.keptBut w' may := by
  refine ⟨h.os, h.output, fun i hi => ?_⟩
  rw [h.block i hi]
  split <;> simp_all
theorem Old.same {W w' : World} (h : Old W w') {p : MemPlace} (hp : p.block < W.heap.size) : W.sameAt w' p := by
  cases p with
  | cell b o => exact World.cell?_of_block (w := W) (h.block b hp)
  | map b => exact h.block b hp
theorem IU {P : Program} {Γ : Env} (l9 : iN P Γ) {f : FuncId} {gH ru : List AV} {b : Bool} {vals : List Value} {W : World} (h : Γ f gH = some ([.one (.f (.bool b))], ru)) (ha : fM (fun k => k < W.heap.size) W gH vals []) :
    Calls P f vals.toArray W fun e W' => e = .returned (.bool b) ∧ Old W W' := by
  refine (l9 f gH _ _ h (fun k => k < W.heap.size) W vals [] ha List.nodup_nil (by simp) (fun _ h => h)).mono fun e w' ⟨bK, uh, b1, b2, he, hp⟩ => ?_
  refine ⟨?_, hp.kp.1, hp.kp.2, hp.big, fun k hk => hp.ext k hk (by simp)⟩
  match uh, hp.rs with
  | [v], ⟨c1, c2, h1, h2, h3⟩ => rw [he, show v = .bool b from h1.1]; rfl
section
variable {P : Program}
theorem DX {Fz : Nat → Prop} {w : World} {x : FV} {v : Value} (h : fA Fz w x v) : qd Fz w (.one (.f x)) v [] := ⟨h, rfl⟩
theorem yj {Fz : Nat → Prop} {w : World} {x : AV} {v : Value} {xs : List AV} {vs : List Value} (h : qd Fz w x v []) (k : fM Fz w xs vs []) : fM Fz w (x :: xs) (v :: vs) [] := ⟨[], [], h, k, rfl⟩
theorem IV {Fz : Nat → Prop} {w : World} : fM Fz w [] [] [] := rfl
end
end Go.Proofs.Ytdkkgecdhapfhaa.Ev

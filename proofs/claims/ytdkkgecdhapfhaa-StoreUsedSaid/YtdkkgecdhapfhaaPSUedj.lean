/- A part of the proof of StoreUsed: cut, joined and given short names by a program of this session (wip/tools/pack.py); Lean checks it. No condition. -/
import Derived.Test.YtdkkgecdhapfhaaPSUedi
import Derived.Test.YtdkkgecdhapfhaaProg
import Derived.Below
import Derived.Deep.Draws
import Derived.Deep.AppendLies
import Derived.Maps.AppendAt
import Derived.OwnWalk
import Derived.Laws.BytesArg
import Derived.Laws.MakeOwn
import Derived.Laws.OwnMore
import Derived.Deep.OwnRows
import Derived.Tactics
import Derived.Lib.ConvBytes
import Derived.Laws.Slices
import Derived.WalkKit
import Derived.KernelRfl
import Derived.RowKit3
import Derived.Deep.LoopGhost
import Derived.Deep.QuietTactic
import Derived.BigQuiet
import Derived.WideLaws
import Derived.Deep.DeepCutAuto
import Derived.Deep.CutBlock
import Derived.Deep.RegionHeld3
import Derived.Laws.Rows
import Derived.Lib.AppendStr
import Derived.ArgAppend
import Derived.Laws.IdiomCopy
import Derived.OrdersHeld
import Derived.Laws.BitsLemmas
import Derived.RowKit
import Derived.Laws.StructEq
import Derived.WalkSpells
import Derived.Lib.Builder
import Derived.Lib.UnsafeStr
import Derived.Shelf.Strings.OnBuilder
import Derived.Laws.Externs
import Derived.LaidEqlPtr
import Derived.Test.YtdkkgecdhapfhaaPSUedd
set_option linter.unusedSectionVars false
set_option linter.unusedSimpArgs false
set_option linter.unusedVariables false
namespace Go.Proofs.Ytdkkgecdhapfhaa.B
open Go.RowKit Go.Proofs.YtdkkgecdhapfhaaW.bD
def sg (b : Int) : ByteArray := strOfNums [b]
def root : ByteArray := ⟨#[0]⟩
theorem pK (b : Int) : (sg b).size = 1 := by unfold sg; rw [strOfNums_size]; rfl
theorem kL : root.size = 1 := rfl
theorem KN (b : Int) (h : 0 ≤ b ∧ b ≤ 255) : bt (sg b) 0 = b := by
  unfold sg; rw [NC [b] 0 (by simpa using h)]; rfl
theorem F6 : bt root 0 = 0 := by decide
def yN : List ByteArray → ByteArray
  | [] => ⟨#[]⟩
  | x :: l => sg x.size ++ x ++ yN l
def enc (l : List ByteArray) : ByteArray := yN l ++ root
def Ib (x : ByteArray) : Prop := 1 ≤ x.size ∧ x.size ≤ 63
instance (x : ByteArray) : Decidable (Ib x) := by unfold Ib; infer_instance
theorem F7 : enc [] = root := empty_append _
theorem xH (x : ByteArray) (l : List ByteArray) : enc (x :: l) = sg x.size ++ x ++ enc l := by unfold enc; rw [yN, ByteArray.append_assoc]
theorem Dk (l m : List ByteArray) : yN (l ++ m) = yN l ++ yN m := by
  induction l with
  | nil => simp only [List.nil_append, yN]; exact (empty_append _).symm
  | cons x l ih => simp only [List.cons_append, yN, ih, ByteArray.append_assoc]
theorem nP (l : List ByteArray) : 1 ≤ (enc l).size := by unfold enc; rw [ByteArray.size_append, kL]; omega
theorem Tn {b : Int} {x r : ByteArray} (h : 0 ≤ b ∧ b ≤ 255) : bt (sg b ++ x ++ r) 0 = b := by
  rw [ByteArray.append_assoc, xC (by omega) (by rw [pK]; omega), KN b h]
theorem Ic {b : Int} {x r : ByteArray} : (sg b ++ x ++ r).extract 1 (1 + x.size) = x := by
  rw [ByteArray.append_assoc, show (1 : Nat) = (sg b).size + 0 from by rw [pK], show (sg b).size + 0 + x.size = (sg b).size + x.size from by omega, ByteArray.extract_append_size_add, ByteArray.extract_append_eq_left rfl]
theorem KO {b : Int} {x r : ByteArray} : (sg b ++ x ++ r).extract (1 + x.size) (sg b ++ x ++ r).size = r := by
  have : (sg b ++ x).size = 1 + x.size := by rw [ByteArray.size_append, pK]
  have h := sP (sg b ++ x) r
  rw [this] at h
  exact h
theorem oL {b : Int} {x r : ByteArray} : (sg b ++ x ++ r).size = 1 + x.size + r.size := by simp only [ByteArray.size_append, pK]
theorem XE (n : ByteArray) (k : Nat) (hk : (k : Int) = bt n 0) (hlt : 1 + k ≤ n.size) : n = sg k ++ n.extract 1 (1 + k) ++ n.extract (1 + k) n.size := by
  have h1 : n.extract 0 1 = sg k := by
    have hz : (n.extract 0 1).size = 1 := by rw [ByteArray.size_extract]; omega
    refine EN (by rw [hz, pK]) fun i h0 hi => ?_
    have : i = 0 := by omega
    subst this
    have hr := gq n 0
    rw [lY (by omega) (by rw [hz]; omega), KN _ (by omega), hk]
    rfl
  rw [← h1, ByteArray.extract_append_extract, show min 0 1 = 0 from rfl, show max 1 (1 + k) = 1 + k from by omega, ByteArray.extract_append_extract]
  rw [show min 0 (1 + k) = 0 from by omega, show max (1 + k) n.size = n.size from by omega, ByteArray.extract_zero_size]
def jK : Nat → ByteArray → Option (List ByteArray)
  | 0, _ => none
  | k + 1, n =>
    if n.size = 0 then none
    else if n = root then some []
    else if 1 ≤ bt n 0 ∧ bt n 0 ≤ 63 ∧ bt n 0 + 1 < (n.size : Int) then
      (jK k (n.extract (1 + (bt n 0).toNat) n.size)).map (n.extract 1 (1 + (bt n 0).toNat) :: ·)
    else none
theorem kU : ∀ (k : Nat) (n : ByteArray) (l : List ByteArray), jK k n = some l → n = enc l ∧ ∀ x ∈ l, Ib x
  | 0, _, _, h => by simp [jK] at h
  | k + 1, n, l, h => by
    rw [jK] at h
    split at h
    · cases h
    · split at h
      · rename_i hr
        cases h
        exact ⟨by rw [F7]; exact hr, by simp⟩
      · split at h
        · rename_i hc
          obtain ⟨m, hm, rfl⟩ := zmm h
          obtain ⟨e, hok⟩ := kU k _ m hm
          have hz : (n.extract 1 (1 + (bt n 0).toNat)).size = (bt n 0).toNat := by rw [ByteArray.size_extract]; omega
          refine ⟨?_, ?_⟩
          · rw [xH, hz, ← e]
            exact XE n _ (by omega) (by omega)
          · intro x hx
            rcases List.mem_cons.mp hx with rfl | hx
            · unfold Ib; omega
            · exact hok x hx
        · cases h
theorem Dl (x : ByteArray) (l : List ByteArray) (h : Ib x) : enc (x :: l) ≠ root := by
  intro e
  have := congrArg ByteArray.size e
  have h2 := nP l
  have h1 := h.1
  rw [xH, oL, kL] at this
  omega
theorem pO : ∀ (k : Nat) (l : List ByteArray), (∀ x ∈ l, Ib x) → (enc l).size ≤ k → jK k (enc l) = some l
  | 0, l, _, hk => by have := nP l; omega
  | k + 1, [], _, _ => by
    rw [jK, F7, if_neg (by rw [kL]; omega), if_pos rfl]
  | k + 1, x :: l, hok, hk => by
    have hx := hok x (by simp)
    have h1 := nP l
    have hr := Dl x l hx
    obtain ⟨hx1, hx2⟩ := hx
    rw [xH] at hk hr ⊢
    rw [oL] at hk
    rw [jK, if_neg (by rw [oL]; omega), if_neg hr, Tn (by omega), oL, if_pos (by omega)]
    have e : ((x.size : Int)).toNat = x.size := by omega
    have hc := @KO (x.size : Int) x (enc l)
    rw [oL] at hc
    rw [e, Ic, hc, pO k l (fun y hy => hok y (by simp [hy])) (by omega)]
    rfl
def uz (n : ByteArray) : Option (List ByteArray) := if n.size ≤ 255 then jK 255 n else none
theorem Ie {n : ByteArray} {l : List ByteArray} (h : uz n = some l) : n = enc l ∧ (∀ x ∈ l, Ib x) ∧ n.size ≤ 255 := by
  unfold uz at h
  split at h
  · exact ⟨(kU _ _ _ h).1, (kU _ _ _ h).2, by assumption⟩
  · cases h
theorem KP {l : List ByteArray} (hok : ∀ x ∈ l, Ib x) (hz : (enc l).size ≤ 255) : uz (enc l) = some l := by
  unfold uz
  rw [if_pos hz, pO _ _ hok hz]
theorem xI : ∀ (k : Nat) (n : ByteArray), n.size ≤ k → jK k n = jK n.size n := by
  intro k n hk
  cases h : jK k n with
  | some l =>
    obtain ⟨e, hok⟩ := kU _ _ _ h
    subst e
    exact (pO _ _ hok (Nat.le_refl _)).symm
  | none =>
    cases h2 : jK n.size n with
    | none => rfl
    | some l =>
      obtain ⟨e, hok⟩ := kU _ _ _ h2
      rw [e] at h hk
      rw [pO k l hok hk] at h
      cases h
theorem xJ {n : ByteArray} (h : 1 ≤ n.size) : jK n.size n = if n = root then some [] else if 1 ≤ bt n 0 ∧ bt n 0 ≤ 63 ∧ bt n 0 + 1 < (n.size : Int) then
      (jK (n.extract (1 + (bt n 0).toNat) n.size).size (n.extract (1 + (bt n 0).toNat) n.size)).map (n.extract 1 (1 + (bt n 0).toNat) :: ·) else none := by
  obtain ⟨k, hk⟩ : ∃ k, n.size = k + 1 := ⟨n.size - 1, by omega⟩
  conv => lhs; rw [hk, jK]
  rw [if_neg (by omega)]
  split
  · rfl
  · split
    · rw [xI k _ (by rw [ByteArray.size_extract]; omega)]
    · rfl
def jC (n : ByteArray) : Bool := (uz n).isSome
def same (a b : ByteArray) : Bool := jC a && jC b && decide (nX a = nX b)
theorem F8 {n : ByteArray} : jC n = true ↔ ∃ l, n = enc l ∧ (∀ x ∈ l, Ib x) ∧ n.size ≤ 255 := by
  unfold jC
  constructor
  · intro h
    obtain ⟨l, hl⟩ := Option.isSome_iff_exists.mp h
    exact ⟨l, Ie hl⟩
  · rintro ⟨l, rfl, h1, h2⟩
    rw [KP h1 h2]; rfl
end Go.Proofs.Ytdkkgecdhapfhaa.B
namespace Go.Proofs.YtdkkgecdhapfhaaW.dV
open Go.Proofs.YtdkkgecdhapfhaaW.bD (aj)
def pQ (md : Region.Mode) (o : Oper) : List Nat := (o.after.toList.filter (fun e => Region.binds md e)).map (fun e => e.on)
def AZ (md : Region.Mode) (ops : Array Oper) (i : Nat) (oi : Oper) : List Nat := (List.range ops.size).filter fun j => !(j == i) && match ops[j]? with
  | some oj => !(oj.after.any (fun e => Region.binds md e && e.on == i) || oi.apart ops oj)
  | none => false
def mg (md : Region.Mode) (ops : Array Oper) : Bool × List (List Nat × List Nat) := (Region.noSelect ops, (List.range ops.size).map fun i => match ops[i]? with
  | some o => (pQ md o, AZ md ops i o)
  | none => ([], []))
def mE (T : List (List Nat × List Nat)) (l : List Bool) (i : Nat) : Bool := !l.getD i true && match T[i]? with
  | some r => r.1.all (fun j => l.getD j false)
  | none => false
def xK (T : List (List Nat × List Nat)) (l : List Bool) : List Nat := (List.range T.length).filter (mE T l)
def Dm (T : List (List Nat × List Nat)) (l : List Bool) (i : Nat) : Bool := match T[i]? with
  | some r => r.2.all (fun j => l.getD j true)
  | none => false
def vQ (T : List (List Nat × List Nat)) (l : List Bool) : Bool := (List.range T.length).all fun j => !l.getD j false || match T[j]? with
  | some r => r.1.all (fun k => l.getD k false)
  | none => true
def uD (T : List (List Nat × List Nat)) (i : Nat) : Nat → Nat → Bool
  | 0, _ => false
  | fuel + 1, d => match T[d]? with
    | some r => r.1.any fun j => j == i || uD T i fuel j
    | none => false
def lastT (T : List (List Nat × List Nat)) (l : List Bool) (ds : List Nat) (i : Nat) : Bool := ds.all fun d => l.getD d true || uD T i T.length d
section
variable {md : Region.Mode} {ops : Array Oper} {T : Bool × List (List Nat × List Nat)} {l l' li lj lk : Array Bool} {ds : List Nat} {i j k : Nat}
theorem gd (l : Array Bool) (j : Nat) (b : Bool) : l.getD j b = l.toList.getD j b := by simp [Array.getD_eq_getD_getElem?, List.getD_eq_getElem?_getD]
theorem zA (o : Oper) (p : Nat → Bool) : o.after.all (fun e => !Region.binds md e || p e.on) = (pQ md o).all p := by
  unfold pQ
  rw [← Array.all_toList]
  induction o.after.toList with
  | nil => rfl
  | cons e r ih =>
    rw [List.all_cons, ih, List.filter_cons]
    cases h : Region.binds md e <;> simp
theorem Ig (o : Oper) (p : Nat → Bool) : o.after.any (fun e => Region.binds md e && p e.on) = (pQ md o).any p := by
  unfold pQ
  rw [← Array.any_toList]
  induction o.after.toList with
  | nil => rfl
  | cons e r ih =>
    rw [List.any_cons, ih, List.filter_cons]
    cases h : Region.binds md e <;> simp
theorem mF : (mg md ops).2.length = ops.size := by simp [mg]
theorem pR {o : Oper} (h : ops[i]? = some o) : (mg md ops).2[i]? = some (pQ md o, AZ md ops i o) := by
  have hi := (Array.getElem?_eq_some_iff.1 h).1
  unfold mg
  rw [List.getElem?_map, List.getElem?_range hi, Option.map_some, h]
theorem pU (h : ops[i]? = none) : (mg md ops).2[i]? = none := by
  have hi : ops.size ≤ i := Array.getElem?_eq_none_iff.1 h
  exact List.getElem?_eq_none (by rw [mF]; exact hi)
theorem EO : mE (mg md ops).2 l.toList i = (!l.getD i true && ((ops[i]?).map (·.after.all fun e => !Region.binds md e || l.getD e.on false)).getD false) := by
  unfold mE
  rw [gd]
  cases h : ops[i]? with
  | none => rw [pU h]; rfl
  | some o =>
    rw [pR h]
    simp only [Option.map_some, Option.getD_some]
    rw [← zA]
    simp only [gd]
theorem ready_eq : Region.ready md ops l = xK (mg md ops).2 l.toList := by
  unfold Region.ready xK
  rw [mF]
  refine List.filter_congr (fun i _ => ?_)
  rw [EO]
theorem free_eq : Region.free md ops l i = Dm (mg md ops).2 l.toList i := by
  unfold Region.free Dm
  cases h : ops[i]? with
  | none => rw [pU h]
  | some oi =>
    rw [pR h]
    simp only [AZ]
    rw [List.all_filter]
    congr 1
    funext j
    rw [gd]
    cases hj : ops[j]? with
    | none => cases (j == i) <;> cases (l.toList.getD j true) <;> simp
    | some oj =>
      cases (j == i) <;> cases (l.toList.getD j true) <;> cases (oj.after.any (fun e => Region.binds md e && e.on == i) || oi.apart ops oj) <;> simp_all
theorem Ih : Region.sN md ops l = vQ (mg md ops).2 l.toList := by
  unfold Region.sN vQ
  rw [mF]
  congr 1
  funext j
  rw [gd]
  cases h : ops[j]? with
  | none => rw [pU h]
  | some o =>
    rw [pR h]
    simp only
    rw [← zA]
    simp only [gd]
theorem Dp : ∀ (fuel d : Nat), Region.lg md ops i fuel d = uD (mg md ops).2 i fuel d
  | 0, _ => rfl
  | fuel + 1, d => by
    unfold Region.lg uD
    cases h : ops[d]? with
    | none => rw [pU h]
    | some o =>
      rw [pR h]
      simp only
      rw [← Ig]
      congr 1
      funext e
      rw [Dp fuel]
theorem ND : Region.lastB md ops l ds i = lastT (mg md ops).2 l.toList ds i := by
  unfold Region.lastB lastT
  rw [mF]
  congr 1
  funext d
  rw [gd, Dp]
theorem uV (h : mE T.2 l.toList i = true) (hT : mg md ops = T) : (Region.ready md ops l).contains i = true := by
  subst hT
  rw [ready_eq]
  unfold xK
  rw [List.contains_iff_mem, List.mem_filter, List.mem_range]
  refine ⟨?_, h⟩
  unfold mE at h
  rw [Bool.and_eq_true] at h
  cases hq : (mg md ops).2[i]? with
  | none => rw [hq] at h; simp at h
  | some r => exact (List.getElem?_eq_some_iff.1 hq).1
theorem EP (h : (l.toList.set i true == l'.toList) = true) : (l.setIfInBounds i true == l') = true := by
  rw [beq_iff_eq] at h ⊢
  apply Array.ext'
  rw [Array.toList_setIfInBounds]
  exact h
def XF (T : Bool × List (List Nat × List Nat)) (l l' : List Bool) (i : Nat) : Bool := T.1 && Dm T.2 l i && mE T.2 l i && (l.set i true == l')
theorem jF (hT : mg md ops = T) (h : XF T l.toList l'.toList i = true) : Nw md ops l l' i = true := by
  simp only [XF, Bool.and_eq_true] at h
  obtain ⟨⟨⟨h1, h2⟩, h3⟩, h4⟩ := h
  have h5 := uV h3 hT
  have h6 := EP h4
  subst hT
  simp only [Nw, Bool.and_eq_true]
  exact ⟨⟨⟨h1, by rw [free_eq]; exact h2⟩, h5⟩, h6⟩
def KQ (T : Bool × List (List Nat × List Nat)) (ds : List Nat) (l l' : List Bool) (i : Nat) : Bool := T.1 && Dm T.2 l i && mE T.2 l i && vQ T.2 l && lastT T.2 l ds i && (l.set i true == l')
theorem NG (hT : mg md ops = T) (h : KQ T ds l.toList l'.toList i = true) : takeB md ops ds l l' i = true := by
  simp only [KQ, Bool.and_eq_true] at h
  obtain ⟨⟨⟨⟨⟨h1, h2⟩, h3⟩, h4⟩, h5⟩, h6⟩ := h
  have h7 := uV h3 hT
  have h8 := EP h6
  subst hT
  simp only [takeB, Bool.and_eq_true]
  exact ⟨⟨⟨⟨⟨h1, by rw [free_eq]; exact h2⟩, h7⟩, by rw [Ih]; exact h4⟩, by rw [ND]; exact h5⟩, h8⟩
theorem ER (hT : mg md ops = T) (h : (xK T.2 l.toList == [i] && l.toList.set i true == l'.toList) = true) : AY md ops l l' i = true := by
  simp only [Bool.and_eq_true] at h
  obtain ⟨h1, h2⟩ := h
  subst hT
  simp only [AY, Bool.and_eq_true]
  exact ⟨by rw [ready_eq]; exact h1, EP h2⟩
theorem F9 (hT : mg md ops = T) (h : (xK T.2 l.toList == []) = true) : (Region.ready md ops l == []) = true := by
  subst hT
  rw [ready_eq]
  exact h
def Tp (B : List Nat) (d : Nat) : List Nat → Nat
  | [] => 0
  | n :: r => (2 ^ n ||| (if n < d then B.getD n 0 else 0)) ||| Tp B d r
def pV (T : List (List Nat × List Nat)) (B : List Nat) : Bool := (List.range T.length).all fun d => match T[d]? with
  | some r => (B.getD d 0 ||| Tp B d r.1) == Tp B d r.1
  | none => false
theorem Ga {B : List Nat} {d i : Nat} : ∀ {ns : List Nat}, (Tp B d ns).testBit i = true → ∃ n ∈ ns, n = i ∨ (n < d ∧ (B.getD n 0).testBit i = true)
  | [], h => by simp [Tp] at h
  | n :: r, h => by
    unfold Tp at h
    rw [Nat.testBit_or, Nat.testBit_or, Bool.or_eq_true, Bool.or_eq_true] at h
    rcases h with (h | h) | h
    · rw [Nat.testBit_two_pow] at h
      exact ⟨n, List.mem_cons_self, .inl (by simpa using h)⟩
    · by_cases hn : n < d
      · rw [if_pos hn] at h
        exact ⟨n, List.mem_cons_self, .inr ⟨hn, h⟩⟩
      · rw [if_neg hn] at h
        simp at h
    · obtain ⟨m, hm, h2⟩ := Ga h
      exact ⟨m, List.mem_cons_of_mem _ hm, h2⟩
theorem zB {T : List (List Nat × List Nat)} {B : List Nat} (hB : pV T B = true) : ∀ (fuel d : Nat), d < fuel → d < T.length → (B.getD d 0).testBit i = true → uD T i fuel d = true
  | 0, d, h, _, _ => by omega
  | fuel + 1, d, h, hd, hb => by
    have h1 := List.all_eq_true.1 hB d (List.mem_range.2 hd)
    cases hr : T[d]? with
    | none => rw [hr] at h1; simp at h1
    | some r =>
      rw [hr] at h1
      simp only [beq_iff_eq] at h1
      have h2 : (Tp B d r.1).testBit i = true := by rw [← h1, Nat.testBit_or, hb, Bool.true_or]
      obtain ⟨n, hn, h3⟩ := Ga h2
      unfold uD
      rw [hr]
      simp only
      rw [List.any_eq_true]
      refine ⟨n, hn, ?_⟩
      rcases h3 with rfl | ⟨h4, h5⟩
      · simp
      · rw [zB hB fuel n (by omega) (by omega) h5, Bool.or_true]
def Qs (T : List (List Nat × List Nat)) (B : List Nat) (l : List Bool) (ds : List Nat) (i : Nat) : Bool := ds.all fun d => l.getD d true || (decide (d < T.length) && (B.getD d 0).testBit i)
def Qt (T : Bool × List (List Nat × List Nat)) (B : List Nat) (ds : List Nat) (l l' : List Bool) (i : Nat) : Bool := T.1 && Dm T.2 l i && mE T.2 l i && vQ T.2 l && Qs T.2 B l ds i && (l.set i true == l')
theorem xL {B : List Nat} (hT : mg md ops = T) (hB : pV T.2 B = true) (h : Qt T B ds l.toList l'.toList i = true) : takeB md ops ds l l' i = true := by
  refine NG hT ?_
  simp only [Qt, KQ, Bool.and_eq_true] at h ⊢
  obtain ⟨⟨⟨⟨⟨h1, h2⟩, h3⟩, h4⟩, h5⟩, h6⟩ := h
  refine ⟨⟨⟨⟨⟨h1, h2⟩, h3⟩, h4⟩, ?_⟩, h6⟩
  unfold Qs at h5
  unfold lastT
  rw [List.all_eq_true] at h5 ⊢
  intro d hd
  have h7 := h5 d hd
  rw [Bool.or_eq_true, Bool.and_eq_true, decide_eq_true_eq] at h7
  rcases h7 with h7 | ⟨h8, h9⟩
  · rw [h7, Bool.true_or]
  · rw [zB hB _ d h8 h8 h9, Bool.or_true]
theorem zC {P : Program} {Q : Exit → Act → World → Prop} {S : World → Prop} {n : Nat} {a : Act} {w : World} {B : List Nat} (hT : mg md ops = T) (hB : pV T.2 B = true) (h : aj (mg md ops = T) → aj (pV T.2 B = true) → dh P md ops Q S ds n l a w) : dh P md ops Q S ds n l a w := h ⟨hT⟩ ⟨hB⟩
end
def qF : Code → Nat → Option (Array Oper)
  | .region id ops _, k => if id == k then some ops else none
  | .seq a b, k => match qF a k with
    | some o => some o
    | none => qF b k
  | .cond _ a b, k => match qF a k with
    | some o => some o
    | none => qF b k
  | .block _ c, k => qF c k
  | .loop c, k => qF c k
  | .scope c, k => qF c k
  | .rangeFunc _ _ a b, k => match qF a k with
    | some o => some o
    | none => qF b k
  | _, _ => none
def opsOf (f : Func) (k : Nat) : Array Oper := ((f.body.bind fun c => qF c k)).getD #[]
end Go.Proofs.YtdkkgecdhapfhaaW.dV
namespace Go.Proofs.YtdkkgecdhapfhaaW.bD
theorem fO.one {α : Type} {R : α → List Value → Prop} {ps : List α} {cs : List Value} {p : α} {v : Value} (hp : R p [v]) (h : fO R 1 ps cs) : fO R 1 (p :: ps) (v :: cs) := by
  refine ⟨by simp [h.1], fun j q hq => ?_⟩
  cases j with
  | zero =>
    simp only [List.getElem?_cons_zero, Option.some.injEq] at hq
    subst hq
    simpa using hp
  | succ j =>
    simp only [List.getElem?_cons_succ] at hq
    have h1 := h.2 j q hq
    simpa [Nat.mul_one] using h1
theorem fO.front {α : Type} {R : α → List Value → Prop} {size : Nat} {ps : List α} {cs c all : List Value} {p : α} (hp : R p c) (hc : c.length = size) (h : fO R size ps cs) (ha : c ++ cs = all) : fO R size (p :: ps) all := by
  subst ha
  refine ⟨by rw [List.length_append, hc, h.1, List.length_cons, Nat.succ_mul, Nat.add_comm], fun j q hq => ?_⟩
  cases j with
  | zero =>
    simp only [List.getElem?_cons_zero, Option.some.injEq] at hq
    subst hq
    rw [Nat.zero_mul, List.drop_zero, List.take_append_of_le_length (by omega), List.take_of_length_le (by omega)]
    exact hp
  | succ j =>
    simp only [List.getElem?_cons_succ] at hq
    have h1 := h.2 j q hq
    rw [Nat.succ_mul, List.drop_append, List.drop_of_length_le (by rw [hc]; exact Nat.le_add_left _ _), List.nil_append, hc, Nat.add_sub_cancel]
    exact h1
theorem fO.c2 {α : Type} {R : α → List Value → Prop} {ps : List α} {cs : List Value} {p : α} {va vb : Value} (hp : R p [va, vb]) (h : fO R 2 ps cs) : fO R 2 (p :: ps) (va :: vb :: cs) := fO.front hp rfl h rfl
theorem fO.c3 {α : Type} {R : α → List Value → Prop} {ps : List α} {cs : List Value} {p : α} {va vb vc : Value} (hp : R p [va, vb, vc]) (h : fO R 3 ps cs) : fO R 3 (p :: ps) (va :: vb :: vc :: cs) := fO.front hp rfl h rfl
theorem fO.c4 {α : Type} {R : α → List Value → Prop} {ps : List α} {cs : List Value} {p : α} {va vb vc vd : Value} (hp : R p [va, vb, vc, vd]) (h : fO R 4 ps cs) : fO R 4 (p :: ps) (va :: vb :: vc :: vd :: cs) := fO.front hp rfl h rfl
theorem fO.c5 {α : Type} {R : α → List Value → Prop} {ps : List α} {cs : List Value} {p : α} {va vb vc vd ve : Value} (hp : R p [va, vb, vc, vd, ve]) (h : fO R 5 ps cs) : fO R 5 (p :: ps) (va :: vb :: vc :: vd :: ve :: cs) := fO.front hp rfl h rfl
theorem fO.c6 {α : Type} {R : α → List Value → Prop} {ps : List α} {cs : List Value} {p : α} {va vb vc vd ve vf : Value} (hp : R p [va, vb, vc, vd, ve, vf]) (h : fO R 6 ps cs) : fO R 6 (p :: ps) (va :: vb :: vc :: vd :: ve :: vf :: cs) := fO.front hp rfl h rfl
theorem fO.c7 {α : Type} {R : α → List Value → Prop} {ps : List α} {cs : List Value} {p : α} {va vb vc vd ve vf vg : Value} (hp : R p [va, vb, vc, vd, ve, vf, vg]) (h : fO R 7 ps cs) : fO R 7 (p :: ps) (va :: vb :: vc :: vd :: ve :: vf :: vg :: cs) := fO.front hp rfl h rfl
theorem fO.c8 {α : Type} {R : α → List Value → Prop} {ps : List α} {cs : List Value} {p : α} {va vb vc vd ve vf vg vh : Value} (hp : R p [va, vb, vc, vd, ve, vf, vg, vh]) (h : fO R 8 ps cs) : fO R 8 (p :: ps) (va :: vb :: vc :: vd :: ve :: vf :: vg :: vh :: cs) := fO.front hp rfl h rfl
theorem fO.c9 {α : Type} {R : α → List Value → Prop} {ps : List α} {cs : List Value} {p : α} {va vb vc vd ve vf vg vh vi : Value} (hp : R p [va, vb, vc, vd, ve, vf, vg, vh, vi]) (h : fO R 9 ps cs) : fO R 9 (p :: ps) (va :: vb :: vc :: vd :: ve :: vf :: vg :: vh :: vi :: cs) := fO.front hp rfl h rfl
theorem fO.c10 {α : Type} {R : α → List Value → Prop} {ps : List α} {cs : List Value} {p : α} {va vb vc vd ve vf vg vh vi vj : Value} (hp : R p [va, vb, vc, vd, ve, vf, vg, vh, vi, vj]) (h : fO R 10 ps cs) : fO R 10 (p :: ps) (va :: vb :: vc :: vd :: ve :: vf :: vg :: vh :: vi :: vj :: cs) := fO.front hp rfl h rfl
end Go.Proofs.YtdkkgecdhapfhaaW.bD
namespace Go.Proofs.YtdkkgecdhapfhaaW.bD
open Go.RowKit
section
variable {P : Program} {ops : Array Oper} {rest : List Oper} {o : Oper} {a : Act} {Q : Exit → Act → World → Prop} {W : World}
theorem jo (hw : Region.wanted o (yielded ops a.tmps) = true) (h : wpList P ops Q ({ o with guard := none } :: rest) a W) : wpList P ops Q (o :: rest) a W := by
  have h1 : Region.wanted { o with guard := none } (yielded ops a.tmps) = true := rfl
  unfold wpList at h ⊢
  rw [if_pos h1] at h
  rw [if_pos hw]
  exact h
end
end Go.Proofs.YtdkkgecdhapfhaaW.bD
namespace Go.Proofs.Ytdkkgecdhapfhaa.ZQ
open Go.RowKit Go.Proofs.YtdkkgecdhapfhaaW.bD Go.Proofs.YtdkkgecdhapfhaaW.dV Go.Proofs.YtdkkgecdhapfhaaW.eD
attribute [local go_sem] ji jk j4 j5 iA iB jl jm
def XG : Option Int → Value
  | none => .nilIface
  | some c => .iface 0 (.int .i64 c)
theorem aJ : XG none = .nilIface := rfl
theorem aK (c : Int) : XG (some c) = .iface 0 (.int .i64 c) := rfl
theorem Gb : (Try.prog.info? 9).map (fun i => (i.zero, i.size, i.bytes)) = some (some (.string ⟨#[]⟩), 1, 16) := by kernel_rfl
end Go.Proofs.Ytdkkgecdhapfhaa.ZQ
namespace Go.Proofs.Ytdkkgecdhapfhaa.ZQ
open Go.RowKit Go.Proofs.YtdkkgecdhapfhaaW.bD Go.Proofs.YtdkkgecdhapfhaaW.dV Go.Proofs.YtdkkgecdhapfhaaW.eD
attribute [local go_sem] ji jk j4 j5 iA iB jl jm
mutual
def bN.l0 : Nat → ByteArray → List ByteArray → Option (List ByteArray × Bool)
  | 0, _, _ => none
  | k + 1, x0, x4 => if (x0.size : Int) > 0 then (bN.j1 k x0 x4 (x0.toList != ([0] : List UInt8))) else (bN.j1 k x0 x4 false)
def bN.j1 : Nat → ByteArray → List ByteArray → Bool → Option (List ByteArray × Bool)
  | 0, _, _, _ => none
  | k + 1, x0, x4, x15 => if x15 = true then (if 0 < (x0.size : Int) then (if (wrap64 (bt x0 0)) < 1 then (some (([] : List ByteArray), false)) else (if (wrap64 (bt x0 0)) > 63 then (some (([] : List ByteArray), false)) else (if (wrap64 ((wrap64 (bt x0 0)) + 1)) ≥ (x0.size : Int) then (some (([] : List ByteArray), false)) else (if 1 ≤ (wrap64 (1 + (wrap64 (bt x0 0)))) then (if (wrap64 (1 + (wrap64 (bt x0 0)))) ≤ (x0.size : Int) then (if x4.length < 8796093022208 then (if 0 ≤ (wrap64 (1 + (wrap64 (bt x0 0)))) then (bN.l0 k (x0.extract ((wrap64 (1 + (wrap64 (bt x0 0)))) : Int).toNat x0.size) (x4 ++ [x0.extract 1 ((wrap64 (1 + (wrap64 (bt x0 0)))) : Int).toNat])) else (none)) else (none)) else (none)) else (none))))) else (none)) else (some (x4, (x0.toList == ([0] : List UInt8))))
end
def bN.f (k : Nat) (a0 : ByteArray) : Option (List ByteArray × Bool) := if (a0.size : Int) > 255 then (some (([] : List ByteArray), false)) else (bN.l0 k a0 ([] : List ByteArray))
def bN.T8 : Bool × List (List Nat × List Nat) := (true, [([], []), ([], []), ([], []), ([2], [2]), ([1, 3], [1, 3]), ([4], [4]), ([0, 5], [0, 5]), ([], []), ([], []), ([8], [8]), ([7, 9], [7, 9]), ([6, 6, 0, 1, 2, 3, 4, 5, 6], [0, 6]), ([10, 11, 0, 1, 2, 3, 4, 5, 6, 7, 8, 9, 10, 11], [1, 7, 10])])
def bN.B8 : List Nat := [0, 0, 0, 4, 14, 30, 63, 0, 0, 256, 896, 127, 4095]
theorem bN.adu : mg .any (opsOf Try.f109 8) = bN.T8 := by kernel_rfl
theorem bN.XH : pV bN.T8.2 bN.B8 = true := by kernel_rfl
set_option maxHeartbeats 8000000 in
set_option maxRecDepth 100000 in
theorem bN.calls (k : Nat) (a0 : ByteArray) (r1 : List ByteArray) (r2 : Bool) (w : World) (h : bN.f k a0 = some (r1, r2)) :
    Calls Try.prog 109 #[.string a0] w fun e w' => ∃ Qu : Value, e = .returned (.tuple #[Qu, .bool r2]) ∧ Kd.R Kd.string 9 w' w.heap.size (fun _ => True) Qu r1 ∧ Below w.heap.size w w' := by
  have HB := aj.mk (Below.refl w.heap.size w)
  have H : (if (a0.size : Int) > 255 then (some (([] : List ByteArray), false)) else (bN.l0 k a0 ([] : List ByteArray))) = some (r1, r2) := h
  clear h
  by_cases c2 : (a0.size : Int) > 255
  · rw [if_pos c2] at H
    have vD : decide (255 < (a0.size : Int)) = true := decide_eq_true c2
    have Ii : decide (255 < a0.size) = true := decide_eq_true (by omega)
    clear c2
    simp only [Option.some.injEq, Prod.mk.injEq] at H
    obtain ⟨rfl, rfl⟩ := H
    go_enter Try.func109, Try.ntmps109
    go_wp2
    go_ret2
    exact ⟨_, by first | rfl | (simp [aJ, aK] <;> rfl) | (simp [*, aJ, aK] <;> rfl), by first | exact Kd.jB _ _ _ _ _ | exact Kd.kS _ _ _ _ _ | exact Kd.kT _ _ _ _ _ | exact Kd.kQ _ _ _ _ _ | exact Kd.kR _ _ _ _ _, by repeat (first | (with_reducible first | exact HB.out | apply ak | apply ah | apply au) | exact HB.out)⟩
  · rw [if_neg c2] at H
    have vD : decide (255 < (a0.size : Int)) = false := decide_eq_false c2
    have Ii : decide (255 < a0.size) = false := decide_eq_false (by omega)
    clear c2
    have H' := aj.mk H
    clear H
    go_enter Try.func109, Try.ntmps109
    go_wp2
    go_loopg [0, 4] k (fun kq v0 v4 w' => ∃ (bM : ByteArray) (qj : List ByteArray), v0 = .string bM ∧ aj (bN.l0 kq bM qj = some (r1, r2)) ∧ aj (kq ≤ k) ∧ aj (Kd.R Kd.string 9 w' w.heap.size (fun _ => True) v4 qj) ∧ aj (Below w.heap.size w w'))
    case atStart => exact ⟨(a0), (([] : List ByteArray)), (by first | rfl | (simp; done) | (simp [*]; done) | (simp [B.aV]; done) | (simp [B.aW]; done)), H', ⟨Nat.le_refl _⟩, ⟨by first | exact Kd.jB _ _ _ _ _ | exact Kd.kS _ _ _ _ _ | exact Kd.kT _ _ _ _ _ | exact Kd.kQ _ _ _ _ _ | exact Kd.kR _ _ _ _ _⟩, ⟨by repeat (first | (with_reducible first | exact HB.out | apply ak | apply ah | apply au) | exact HB.out)⟩⟩
    case round =>
      clear H'
      try clear c1
      try clear c2
      try clear vD
      try clear Ii
      try clear p2
      obtain ⟨bM, qj, rfl, HA, sQ, ql, HB⟩ := hrel
      cases gk with
      | zero => exact absurd HA.out (by simp [bN.l0])
      | succ k1 =>
        have H := HA.out
        clear HA
        simp only [bN.l0] at H
        have HC3 := aj.mk H
        clear H
        go_upto_region 4 with (fail)
        go_cut [15] (fun v15 wc => ∃ (kq : Nat) (Gc : Bool), v15 = .bool Gc ∧ aj (bN.j1 kq bM qj Gc = some (r1, r2)) ∧ aj (kq ≤ k1) ∧ aj (Kd.R Kd.string 9 wc w.heap.size (fun _ => True) u4 qj) ∧ aj (Below w.heap.size w wc))
        case first =>
          have H := HC3.out
          clear HC3
          by_cases c4 : (bM.size : Int) > 0
          · rw [if_pos c4] at H
            have qm : decide (0 < (bM.size : Int)) = true := decide_eq_true c4
            have Ij : decide (0 < bM.size) = true := decide_eq_true (by omega)
            clear c4
            (first | rw [qm] | rw [KR] | (simp only [gM, gZ]; rw [qm]) | skip)
            have H' := aj.mk H
            clear H
            go_wp2
            go_meet
            case rel => exact ⟨_, ((bM.toList != ([0] : List UInt8))), (by first | rfl | (simp; done) | (simp [*]; done) | (simp [B.aV]; done) | (simp [B.aW]; done)), H', ⟨by have := sQ.out; first | omega | exact Nat.le_refl _⟩, ⟨by (with_reducible repeat (first | apply Kd.eU | apply Kd.fG | apply Kd.fQ)); exact ql.out⟩, ⟨by repeat (first | (with_reducible first | exact HB.out | apply ak | apply ah | apply au) | exact HB.out)⟩⟩
          · rw [if_neg c4] at H
            have qm : decide (0 < (bM.size : Int)) = false := decide_eq_false c4
            have Ij : decide (0 < bM.size) = false := decide_eq_false (by omega)
            clear c4
            (first | rw [qm] | rw [KR] | (simp only [gM, gZ]; rw [qm]) | skip)
            have H' := aj.mk H
            clear H
            go_wp2
            go_meet
            case rel => exact ⟨_, (false), (by first | rfl | (simp; done) | (simp [*]; done) | (simp [B.aV]; done) | (simp [B.aW]; done)), H', ⟨by have := sQ.out; first | omega | exact Nat.le_refl _⟩, ⟨by (with_reducible repeat (first | apply Kd.eU | apply Kd.fG | apply Kd.fQ)); exact ql.out⟩, ⟨by repeat (first | (with_reducible first | exact HB.out | apply ak | apply ah | apply au) | exact HB.out)⟩⟩
        case rest =>
          clear HC3
          try clear c1
          try clear c2
          try clear vD
          try clear Ii
          try clear p2
          try clear c4
          try clear qm
          try clear Ij
          try clear KR
          try clear p2
          obtain ⟨kq, Gc, rfl, HA, HJ2, ql, HB⟩ := hcut
          cases kq with
          | zero => exact absurd HA.out (by simp [bN.j1])
          | succ kj2 =>
            have H := HA.out
            clear HA
            simp only [bN.j1] at H
            by_cases c5 : Gc = true
            · subst c5
              have H1 : (if 0 < (bM.size : Int) then (if (wrap64 (bt bM 0)) < 1 then (some (([] : List ByteArray), false)) else (if (wrap64 (bt bM 0)) > 63 then (some (([] : List ByteArray), false)) else (if (wrap64 ((wrap64 (bt bM 0)) + 1)) ≥ (bM.size : Int) then (some (([] : List ByteArray), false)) else (if 1 ≤ (wrap64 (1 + (wrap64 (bt bM 0)))) then (if (wrap64 (1 + (wrap64 (bt bM 0)))) ≤ (bM.size : Int) then (if qj.length < 8796093022208 then (if 0 ≤ (wrap64 (1 + (wrap64 (bt bM 0)))) then (bN.l0 kj2 (bM.extract ((wrap64 (1 + (wrap64 (bt bM 0)))) : Int).toNat bM.size) (qj ++ [bM.extract 1 ((wrap64 (1 + (wrap64 (bt bM 0)))) : Int).toNat])) else (none)) else (none)) else (none)) else (none))))) else (none)) = some (r1, r2) := by rw [if_pos rfl] at H; exact H
              clear H
              have H := H1
              clear H1
              by_cases c6 : 0 < (bM.size : Int)
              · rw [if_pos c6] at H
                have yO : decide (0 < (bM.size : Int)) = true := decide_eq_true c6
                have KT : decide (0 < bM.size) = true := decide_eq_true (by omega)
                clear c6
                by_cases c8 : (wrap64 (bt bM 0)) < 1
                · rw [if_pos c8] at H
                  have qV : decide ((wrap64 (bt bM 0)) < 1) = true := decide_eq_true c8
                  (try (have qW : decide (((bt bM 0)) < 1) = true := by have h_ : decide ((wrap64 (bt bM 0)) < 1) = true := decide_eq_true c8; rw [B.dO (by omega) (by omega)] at h_; exact h_))
                  clear c8
                  simp only [Option.some.injEq, Prod.mk.injEq] at H
                  obtain ⟨rfl, rfl⟩ := H
                  have p7 : 0 ≤ (0 : Int) := (by omega)
                  have q7 : 0 < bM.size := (by have : (0 : Int) < (bM.size : Int) := of_decide_eq_true (by first | (with_reducible assumption) | assumption); omega)
                  have hx7 : ∀ h : 0 < bM.size, ((bM[0]'h).toNat : Int) = bt bM 0 := ny bM 0
                  clear p7
                  have qi7 : (0 < (bM.size : Int)) = True := eq_true (of_decide_eq_true (by first | (with_reducible assumption) | assumption))
                  replace q7 := eq_true q7
                  go_wp2
                  go_ret2
                  exact ⟨_, by first | rfl | (simp [aJ, aK] <;> rfl) | (simp [*, aJ, aK] <;> rfl), by first | exact Kd.jB _ _ _ _ _ | exact Kd.kS _ _ _ _ _ | exact Kd.kT _ _ _ _ _ | exact Kd.kQ _ _ _ _ _ | exact Kd.kR _ _ _ _ _, by repeat (first | (with_reducible first | exact HB.out | apply ak | apply ah | apply au) | exact HB.out)⟩
                · rw [if_neg c8] at H
                  have qV : decide ((wrap64 (bt bM 0)) < 1) = false := decide_eq_false c8
                  (try (have qW : decide (((bt bM 0)) < 1) = false := by have h_ : decide ((wrap64 (bt bM 0)) < 1) = false := decide_eq_false c8; rw [B.dO (by omega) (by omega)] at h_; exact h_))
                  clear c8
                  by_cases c9 : (wrap64 (bt bM 0)) > 63
                  · rw [if_pos c9] at H
                    have sS : decide (63 < (wrap64 (bt bM 0))) = true := decide_eq_true c9
                    (try (have Dq : decide (63 < ((bt bM 0))) = true := by have h_ : decide (63 < (wrap64 (bt bM 0))) = true := decide_eq_true c9; rw [B.dO (by omega) (by omega)] at h_; exact h_))
                    clear c9
                    simp only [Option.some.injEq, Prod.mk.injEq] at H
                    obtain ⟨rfl, rfl⟩ := H
                    have p7 : 0 ≤ (0 : Int) := (by omega)
                    have q7 : 0 < bM.size := (by have : (0 : Int) < (bM.size : Int) := of_decide_eq_true (by first | (with_reducible assumption) | assumption); omega)
                    have hx7 : ∀ h : 0 < bM.size, ((bM[0]'h).toNat : Int) = bt bM 0 := ny bM 0
                    clear p7
                    have qi7 : (0 < (bM.size : Int)) = True := eq_true (of_decide_eq_true (by first | (with_reducible assumption) | assumption))
                    replace q7 := eq_true q7
                    go_wp2
                    go_ret2
                    exact ⟨_, by first | rfl | (simp [aJ, aK] <;> rfl) | (simp [*, aJ, aK] <;> rfl), by first | exact Kd.jB _ _ _ _ _ | exact Kd.kS _ _ _ _ _ | exact Kd.kT _ _ _ _ _ | exact Kd.kQ _ _ _ _ _ | exact Kd.kR _ _ _ _ _, by repeat (first | (with_reducible first | exact HB.out | apply ak | apply ah | apply au) | exact HB.out)⟩
                  · rw [if_neg c9] at H
                    have sS : decide (63 < (wrap64 (bt bM 0))) = false := decide_eq_false c9
                    (try (have Dq : decide (63 < ((bt bM 0))) = false := by have h_ : decide (63 < (wrap64 (bt bM 0))) = false := decide_eq_false c9; rw [B.dO (by omega) (by omega)] at h_; exact h_))
                    clear c9
                    by_cases c10 : (wrap64 ((wrap64 (bt bM 0)) + 1)) ≥ (bM.size : Int)
                    · rw [if_pos c10] at H
                      have qG : decide ((bM.size : Int) ≤ (wrap64 ((wrap64 (bt bM 0)) + 1))) = true := decide_eq_true c10
                      (try (have zD : decide ((bM.size : Int) ≤ ((((bt bM 0)) + 1))) = true := by have h_ : decide ((bM.size : Int) ≤ (wrap64 ((wrap64 (bt bM 0)) + 1))) = true := decide_eq_true c10; rw [B.dO (by omega) (by omega)] at h_; rw [B.dO (by omega) (by omega)] at h_; exact h_))
                      clear c10
                      simp only [Option.some.injEq, Prod.mk.injEq] at H
                      obtain ⟨rfl, rfl⟩ := H
                      have p7 : 0 ≤ (0 : Int) := (by omega)
                      have q7 : 0 < bM.size := (by have : (0 : Int) < (bM.size : Int) := of_decide_eq_true (by first | (with_reducible assumption) | assumption); omega)
                      have hx7 : ∀ h : 0 < bM.size, ((bM[0]'h).toNat : Int) = bt bM 0 := ny bM 0
                      clear p7
                      have qi7 : (0 < (bM.size : Int)) = True := eq_true (of_decide_eq_true (by first | (with_reducible assumption) | assumption))
                      replace q7 := eq_true q7
                      go_wp2
                      go_ret2
                      exact ⟨_, by first | rfl | (simp [aJ, aK] <;> rfl) | (simp [*, aJ, aK] <;> rfl), by first | exact Kd.jB _ _ _ _ _ | exact Kd.kS _ _ _ _ _ | exact Kd.kT _ _ _ _ _ | exact Kd.kQ _ _ _ _ _ | exact Kd.kR _ _ _ _ _, by repeat (first | (with_reducible first | exact HB.out | apply ak | apply ah | apply au) | exact HB.out)⟩
                    · rw [if_neg c10] at H
                      have qG : decide ((bM.size : Int) ≤ (wrap64 ((wrap64 (bt bM 0)) + 1))) = false := decide_eq_false c10
                      (try (have zD : decide ((bM.size : Int) ≤ ((((bt bM 0)) + 1))) = false := by have h_ : decide ((bM.size : Int) ≤ (wrap64 ((wrap64 (bt bM 0)) + 1))) = false := decide_eq_false c10; rw [B.dO (by omega) (by omega)] at h_; rw [B.dO (by omega) (by omega)] at h_; exact h_))
                      clear c10
                      by_cases c11 : 1 ≤ (wrap64 (1 + (wrap64 (bt bM 0))))
                      · rw [if_pos c11] at H
                        have KU := eq_true c11
                        have XI : decide (1 ≤ (wrap64 (1 + (wrap64 (bt bM 0))))) = true := decide_eq_true c11
                        by_cases c12 : (wrap64 (1 + (wrap64 (bt bM 0)))) ≤ (bM.size : Int)
                        · rw [if_pos c12] at H
                          have sU := eq_true c12
                          have sV : decide ((wrap64 (1 + (wrap64 (bt bM 0)))) ≤ (bM.size : Int)) = true := decide_eq_true c12
                          by_cases c13 : qj.length < 8796093022208
                          · rw [if_pos c13] at H
                            have XJ := aj.mk c13
                            clear c13
                            obtain ⟨y101, hy101⟩ : ∃ y_ : List ByteArray, y_ = (qj ++ [bM.extract 1 ((wrap64 (1 + (wrap64 (bt bM 0)))) : Int).toNat]) := ⟨_, rfl⟩
                            replace H : (if 0 ≤ (wrap64 (1 + (wrap64 (bt bM 0)))) then (bN.l0 kj2 (bM.extract ((wrap64 (1 + (wrap64 (bt bM 0)))) : Int).toNat bM.size) y101) else (none)) = some (r1, r2) := by first | (rw [hy101]; with_reducible exact H) | (have ES := (Option.bind_some _ _).symm.trans H; rw [hy101]; with_reducible exact ES) | (have ES := (Option.bind_some _ _).symm.trans H; with_reducible exact ES) | with_reducible exact H | (rw [hy101]; exact H) | exact H
                            have Qv := aj.mk hy101
                            clear hy101
                            obtain ⟨A8, oM⟩ : ∃ j_ : Int, (wrap64 (1 + (wrap64 (bt bM 0)))) = j_ := ⟨_, rfl⟩
                            replace H : (if 0 ≤ (A8) then (bN.l0 kj2 (bM.extract ((A8) : Int).toNat bM.size) y101) else (none)) = some (r1, r2) := by first | (rw [oM] at H; exact H) | (simp only [oM] at H ⊢; exact H)
                            (try rw [oM] at KU)
                            (try rw [oM] at XI)
                            (try rw [oM] at c11)
                            (try rw [oM] at sU)
                            (try rw [oM] at sV)
                            (try rw [oM] at c12)
                            (try rw [oM] at Qv)
                            have adv : (IntKind.i64.wrap (1 + (wrap64 (bt bM 0)))) = A8 := (gM _).trans oM
                            by_cases c15 : 0 ≤ (A8)
                            · rw [if_pos c15] at H
                              have XK := eq_true c15
                              have aeR : decide (0 ≤ (A8)) = true := decide_eq_true c15
                              clear c15
                              have Gd := eq_true (of_decide_eq_true (by first | (with_reducible assumption) | assumption) : (A8) ≤ (bM.size : Int))
                              have H' := aj.mk H
                              clear H
                              have p7 : 0 ≤ (0 : Int) := (by omega)
                              have q7 : 0 < bM.size := (by have : (0 : Int) < (bM.size : Int) := of_decide_eq_true (by first | (with_reducible assumption) | assumption); omega)
                              have hx7 : ∀ h : 0 < bM.size, ((bM[0]'h).toNat : Int) = bt bM 0 := ny bM 0
                              clear p7
                              have qi7 : (0 < (bM.size : Int)) = True := eq_true (of_decide_eq_true (by first | (with_reducible assumption) | assumption))
                              replace q7 := eq_true q7
                              try go_wp2
                              have dX := aj.mk (Kd.fQ ql.out)
                              have gV := aj.mk (au HB.out)
                              clear ql
                              clear HB
                              have ql := dX
                              have HB := gV
                              clear dX gV
                              refine KH (n := 13) (S := fun w' => True) (ds := []) #[false, false, false, false, false, false, false, false, false, false, false, false, false] (by kernel_rfl) rfl rfl trivial (fun hHeld => ?_); refine zC bN.adu bN.XH (fun vE HW_ => ?_)
                              generalize wc.drew = w17 at ql HB hHeld ⊢
                              refine lu (i := 0) (N := some 32) (v := ?_) (a' := ?_) #[true, false, false, false, false, false, false, false, false, false, false, false, false] rfl rfl (jF vE.out (by kernel_rfl)) (fun _ _ _ h => h) (Or.inl ⟨by rfl, ?_⟩) ?_ ?_
                              rotate_left
                              · intro w'
                                go_simp
                                with_reducible rfl
                              rotate_left
                              · simp only [Act.put, List.setIfInBounds_toArray, List.set_cons_zero, List.set_cons_succ, gM, gZ]
                                rfl
                              refine lu (i := 1) (N := some 33) (v := ?_) (a' := ?_) #[true, true, false, false, false, false, false, false, false, false, false, false, false] rfl rfl (jF vE.out (by kernel_rfl)) (fun _ _ _ h => h) (Or.inl ⟨by rfl, ?_⟩) ?_ ?_
                              rotate_left
                              · intro w'
                                go_simp
                                with_reducible rfl
                              rotate_left
                              · simp only [Act.put, List.setIfInBounds_toArray, List.set_cons_zero, List.set_cons_succ, gM, gZ]
                                rfl
                              refine lu (i := 2) (N := some 34) (v := ?_) (a' := ?_) #[true, true, true, false, false, false, false, false, false, false, false, false, false] rfl rfl (jF vE.out (by kernel_rfl)) (fun _ _ _ h => h) (Or.inl ⟨by rfl, ?_⟩) ?_ ?_
                              rotate_left
                              · intro w'
                                go_simp
                                with_reducible rfl
                              rotate_left
                              · simp only [Act.put, List.setIfInBounds_toArray, List.set_cons_zero, List.set_cons_succ, gM, gZ]
                                rfl
                              refine lu (i := 3) (N := some 35) (v := ?_) (a' := ?_) #[true, true, true, true, false, false, false, false, false, false, false, false, false] rfl rfl (jF vE.out (by kernel_rfl)) (fun _ _ _ h => h) (Or.inl ⟨by rfl, ?_⟩) ?_ ?_
                              rotate_left
                              · intro w'
                                go_simp
                                with_reducible rfl
                              rotate_left
                              · simp only [Act.put, List.setIfInBounds_toArray, List.set_cons_zero, List.set_cons_succ, gM, gZ]
                                rfl
                              refine lu (i := 4) (N := some 36) (v := ?_) (a' := ?_) #[true, true, true, true, true, false, false, false, false, false, false, false, false] rfl rfl (jF vE.out (by kernel_rfl)) (fun _ _ _ h => h) (Or.inl ⟨by rfl, ?_⟩) ?_ ?_
                              rotate_left
                              · intro w'
                                go_simp
                                with_reducible rfl
                              rotate_left
                              · simp only [Act.put, List.setIfInBounds_toArray, List.set_cons_zero, List.set_cons_succ, gM, gZ]
                                rfl
                              refine lu (i := 7) (N := some 39) (v := ?_) (a' := ?_) #[true, true, true, true, true, false, false, true, false, false, false, false, false] rfl rfl (jF vE.out (by kernel_rfl)) (fun _ _ _ h => h) (Or.inl ⟨by rfl, ?_⟩) ?_ ?_
                              rotate_left
                              · intro w'
                                go_simp
                                with_reducible rfl
                              rotate_left
                              · simp only [Act.put, List.setIfInBounds_toArray, List.set_cons_zero, List.set_cons_succ, gM, gZ]
                                rfl
                              refine lu (i := 8) (N := some 40) (v := ?_) (a' := ?_) #[true, true, true, true, true, false, false, true, true, false, false, false, false] rfl rfl (jF vE.out (by kernel_rfl)) (fun _ _ _ h => h) (Or.inl ⟨by rfl, ?_⟩) ?_ ?_
                              rotate_left
                              · intro w'
                                go_simp
                                with_reducible rfl
                              rotate_left
                              · simp only [Act.put, List.setIfInBounds_toArray, List.set_cons_zero, List.set_cons_succ, gM, gZ]
                                rfl
                              refine lu (i := 9) (N := some 41) (v := ?_) (a' := ?_) #[true, true, true, true, true, false, false, true, true, true, false, false, false] rfl rfl (jF vE.out (by kernel_rfl)) (fun _ _ _ h => h) (Or.inl ⟨by rfl, ?_⟩) ?_ ?_
                              rotate_left
                              · intro w'
                                go_simp
                                with_reducible rfl
                              rotate_left
                              · simp only [Act.put, List.setIfInBounds_toArray, List.set_cons_zero, List.set_cons_succ, gM, gZ]
                                rfl
                              refine lu (i := 10) (N := some 42) (v := ?_) (a' := ?_) #[true, true, true, true, true, false, false, true, true, true, true, false, false] rfl rfl (jF vE.out (by kernel_rfl)) (fun _ _ _ h => h) (Or.inl ⟨by rfl, ?_⟩) ?_ ?_
                              rotate_left
                              · intro w'
                                go_simp
                                with_reducible rfl
                              rotate_left
                              · simp only [Act.put, List.setIfInBounds_toArray, List.set_cons_zero, List.set_cons_succ, gM, gZ]
                                rfl
                              refine Tk (i := 5) (N := some 37) #[true, true, true, true, true, true, false, true, true, true, true, false, false] rfl rfl (ER vE.out (by kernel_rfl)) (by decide) (fun K hK => ?_)
                              refine Tm (w1 := ?_) (v := ?_) (by rfl) rfl ?_ ?_
                              rotate_left 2
                              · go_simp
                                constructor
                                · rfl
                                · rfl
                              refine hK.out _ _ trivial (fun hHeld => ?_)
                              clear hK K
                              refine Qr (a' := ?_) ?_ ?_
                              rotate_left
                              · show Act.put _ (some 37) _ = _
                                simp only [Act.put, List.setIfInBounds_toArray, List.set_cons_zero, List.set_cons_succ, gM, gZ]
                                rfl
                              refine Tk (i := 6) (N := some 38) #[true, true, true, true, true, true, true, true, true, true, true, false, false] rfl rfl (ER vE.out (by kernel_rfl)) (by decide) (fun K hK => ?_)
                              refine Kd.yK Kd.string (w0 := w) w.heap.size (by rfl) (.tmp 32) (.tmp 37) 33 9 (.string ⟨#[]⟩) 16 rfl Try.underlying33 Gb rfl (by decide) (by omega) u4 qj (bM.extract 1 ((A8) : Int).toNat) [.string (bM.extract 1 ((A8) : Int).toNat)] (fun _ => True) (fun _ => False) rfl rfl ?aP (fun _ hk => hk.elim) ?aF ?aO ?aB ?aS ?aL ?_
                              (case aP => exact rfl)
                              (case aB => exact (by repeat (first | (with_reducible first | exact HB.out | apply ak | apply ah | apply au) | exact HB.out)))
                              (case aF => exact (fun _ _ => trivial))
                              (case aO => exact (by (with_reducible repeat (first | apply Kd.eU | apply Kd.fG | apply Kd.fQ)); exact ql.out))
                              (case aS => exact (bL (by repeat (first | (with_reducible first | exact HB.out | apply ak | apply ah | apply au) | exact HB.out))))
                              (case aL => have := XJ.out; omega)
                              intro af0 w18 ho hb hg hat
                              rw [← Qv.out] at ho
                              have dX := aj.mk (hb)
                              have gV := aj.mk (ho)
                              clear HB
                              clear ql
                              have HB := dX
                              have XL := gV
                              clear dX gV
                              clear ho hb hg hat
                              refine hK.out _ _ trivial (fun hHeld => ?_)
                              clear hK K
                              refine Qr (a' := ?_) ?_ ?_
                              rotate_left
                              · show Act.put _ (some 38) _ = _
                                simp only [Act.put, List.setIfInBounds_toArray, List.set_cons_zero, List.set_cons_succ, gM, gZ]
                                rfl
                              refine lu (i := 11) (N := some 4) (v := ?_) (a' := ?_) #[true, true, true, true, true, true, true, true, true, true, true, true, false] rfl rfl (jF vE.out (by kernel_rfl)) (fun _ _ _ h => h) (Or.inl ⟨by rfl, ?_⟩) ?_ ?_
                              rotate_left
                              · intro w'
                                go_simp
                                with_reducible rfl
                              rotate_left
                              · simp only [Act.put, List.setIfInBounds_toArray, List.set_cons_zero, List.set_cons_succ, gM, gZ]
                                rfl
                              refine lu (i := 12) (N := some 0) (v := ?_) (a' := ?_) #[true, true, true, true, true, true, true, true, true, true, true, true, true] rfl rfl (jF vE.out (by kernel_rfl)) (fun _ _ _ h => h) (Or.inl ⟨by rfl, ?_⟩) ?_ ?_
                              rotate_left
                              · intro w'
                                go_simp
                                with_reducible rfl
                              rotate_left
                              · simp only [Act.put, List.setIfInBounds_toArray, List.set_cons_zero, List.set_cons_succ, gM, gZ]
                                rfl
                              refine Qq (F9 vE.out (by kernel_rfl)) ?_
                              try go_wp2
                              go_roundg kj2
                              case measure => have := sQ.out; have := HJ2.out; omega
                              case rel => exact ⟨(bM.extract ((A8) : Int).toNat bM.size), (y101), (by first | rfl | (simp; done) | (simp only [← oM] <;> (first | rfl | simp)) | (simp [*]; done)), H', ⟨by have := sQ.out; have := HJ2.out; omega⟩, ⟨by (with_reducible repeat (first | apply Kd.eU | apply Kd.fG | apply Kd.fQ)); exact XL.out⟩, ⟨by repeat (first | (with_reducible first | exact HB.out | apply ak | apply ah | apply au) | exact HB.out)⟩⟩
                            · rw [if_neg c15] at H
                              exact absurd H (by simp)
                          · rw [if_neg c13] at H
                            exact absurd H (by simp)
                        · rw [if_neg c12] at H
                          exact absurd H (by simp)
                      · rw [if_neg c11] at H
                        exact absurd H (by simp)
              · rw [if_neg c6] at H
                exact absurd H (by simp)
            · replace c5 := Bool.eq_false_iff.mpr c5
              subst c5
              have H1 : (some (qj, (bM.toList == ([0] : List UInt8)))) = some (r1, r2) := by rw [if_neg (show ¬ (false = true) by decide)] at H; exact H
              clear H
              have H := H1
              clear H1
              simp only [Option.some.injEq, Prod.mk.injEq] at H
              obtain ⟨rfl, rfl⟩ := H
              go_wp2
              go_ret2
              exact ⟨_, by first | rfl | (simp [aJ, aK] <;> rfl) | (simp [*, aJ, aK] <;> rfl), by (with_reducible repeat (first | apply Kd.eU | apply Kd.fG | apply Kd.fQ)); exact ql.out, by repeat (first | (with_reducible first | exact HB.out | apply ak | apply ah | apply au) | exact HB.out)⟩
def iJ.f (k : Nat) (a0 : ByteArray) : Option (Bool) := (bN.f k a0).bind fun KW => (some KW.2)
set_option maxHeartbeats 8000000 in
set_option maxRecDepth 100000 in
theorem iJ.calls (k : Nat) (a0 : ByteArray) (r : Bool) (w : World) (h : iJ.f k a0 = some r) :
    Calls Try.prog 91 #[.string a0] w fun e w' => e = .returned (.bool r) ∧ Below w.heap.size w w' := by
  have HB := aj.mk (Below.refl w.heap.size w)
  have H : ((bN.f k a0).bind fun KW => (some KW.2)) = some r := h
  clear h
  replace H := zbm H
  obtain ⟨⟨adw, t105⟩, KX, H⟩ := H
  replace H : (some t105) = some r := H
  have A2 := aj.mk KX
  clear KX
  obtain rfl := Option.some.inj H
  go_enter Try.func91, Try.ntmps91
  go_wp2_with (first | ((with_reducible refine aQ (f := 109) rfl ?_); refine bP (some 7) rfl rfl Try.func109 (by kernel_rfl) rfl #[.string a0] rfl (by (try simp only [List.map_toArray, List.map_cons, List.map_nil]); first | done | rfl | (simp only [List.length_drop, List.length_take]; rfl) | (simp only [ByteArray.size_append, Int.natCast_add]; rfl) | (rw [B.dO] <;> first | rfl | omega | (simp only [decide_eq_false_iff_not, decide_eq_true_eq, Int.not_lt, Nat.not_lt, gt_iff_lt] at * <;> omega))) ?_; (with_reducible refine (bN.calls k a0 adw t105 _ A2.out).mono ?_); rintro e w3 ⟨af2, rfl, ho0, hb⟩; refine ⟨_, rfl, ?_⟩; have dX := aj.mk (Kd.sI ho0 (bL (by repeat (first | (with_reducible first | exact HB.out | apply ak | apply ah | apply au) | exact HB.out)))); have gV := aj.mk (bE (by repeat (first | (with_reducible first | exact HB.out | apply ak | apply ah | apply au) | exact HB.out)) hb); clear HB; have aeS := dX; have HB := gV; clear dX gV; (try clear hb); (try clear hb2); (try clear hk); (try clear hi); (try clear ho0)))
  go_ret
  exact ⟨by first | rfl | (simp [aJ, aK] <;> rfl) | (simp [*, aJ, aK] <;> rfl), by repeat (first | (with_reducible first | exact HB.out | apply ak | apply ah | apply au) | exact HB.out)⟩
def lZ.f (a0 : Int) : Option (Int) := if a0 ≥ 65 then (if a0 ≤ 90 then (some ((a0 + 32) % 256)) else (some a0)) else (some a0)
set_option maxHeartbeats 8000000 in
set_option maxRecDepth 100000 in
theorem lZ.calls (a0 : Int) (r : Int) (w : World) (h : lZ.f a0 = some r) :
    Calls Try.prog 119 #[.int .u8 a0] w fun e w' => e = .returned (.int .u8 r) ∧ aY w w' := by
  have H : (if a0 ≥ 65 then (if a0 ≤ 90 then (some ((a0 + 32) % 256)) else (some a0)) else (some a0)) = some r := h
  clear h
  by_cases c2 : a0 ≥ 65
  · rw [if_pos c2] at H
    have vD : decide (65 ≤ a0) = true := decide_eq_true c2
    clear c2
    by_cases c3 : a0 ≤ 90
    · rw [if_pos c3] at H
      have qo : decide (a0 ≤ 90) = true := decide_eq_true c3
      clear c3
      obtain rfl := Option.some.inj H
      go_enter Try.func119, Try.ntmps119
      go_wp2
      go_ret
      exact ⟨by first | rfl | (simp; done) | (simp [*]; done), by repeat (first | exact aY.refl _ | apply aY.step)⟩
    · rw [if_neg c3] at H
      have qo : decide (a0 ≤ 90) = false := decide_eq_false c3
      clear c3
      obtain rfl := Option.some.inj H
      go_enter Try.func119, Try.ntmps119
      go_wp2
      go_ret
      exact ⟨by first | rfl | (simp; done) | (simp [*]; done), by repeat (first | exact aY.refl _ | apply aY.step)⟩
  · rw [if_neg c2] at H
    have vD : decide (65 ≤ a0) = false := decide_eq_false c2
    clear c2
    obtain rfl := Option.some.inj H
    go_enter Try.func119, Try.ntmps119
    go_wp2
    go_ret
    exact ⟨by first | rfl | (simp; done) | (simp [*]; done), by repeat (first | exact aY.refl _ | apply aY.step)⟩
def iP.f (a0 : ByteArray) : Option ByteArray := if a0.size ≤ 140737488355328 then some (B.nX a0) else none
theorem iP.small (c : Int) (h0 : 0 ≤ c) (h1 : c ≤ 255) : lZ.f c = some (B.iI c) := by
  unfold lZ.f B.iI
  by_cases h2 : 65 ≤ c
  · by_cases h3 : c ≤ 90
    · rw [if_pos (by omega), if_pos h3, if_pos ⟨h2, h3⟩]; congr 1; omega
    · rw [if_pos (by omega), if_neg h3, if_neg (by omega)]
  · rw [if_neg (by omega), if_neg (by omega)]
set_option maxHeartbeats 8000000 in
set_option maxRecDepth 100000 in
theorem iP.calls (a0 : ByteArray) (r : ByteArray) (w : World) (h : iP.f a0 = some r) :
    Calls Try.prog 110 #[.string a0] w fun e w' => e = .returned (.string r) ∧ Below w.heap.size w w' := by
  unfold iP.f at h
  by_cases hs : a0.size ≤ 140737488355328
  · rw [if_pos hs] at h
    obtain rfl := Option.some.inj h
    clear h
    have kc := fun (W : World) => Lib.run_convert_string_bytes (P := Try.prog) W 9 119 5 a0 Try.underlying9 Try.underlying119 Try.underlying5
    have hb0 := aj.mk (B.xG (Below.refl w.heap.size w) (Nat.le_refl _) 5 a0)
    have hr0 := aj.mk (B.xE w 5 a0)
    go_enter Try.func110, Try.ntmps110
    go_wp2
    generalize Lib.bytesWorld w 5 a0 = w1 at hb0 hr0 ⊢
    generalize grownCap w a0.size 0 5 = C
    have hz := aj.mk (B.numsOf_length a0)
    have hg := aj.mk (Nat.le_refl w.heap.size)
    generalize hgg : w.heap.size = g at hb0 hr0 hg ⊢
    have hg' := aj.mk hgg
    clear hgg
    go_loopw [10] (fun v wr => ∃ k : Nat, k ≤ a0.size ∧ v = .int .i64 k ∧ aj (B.uU wr g (B.iO k (B.numsOf a0))) ∧ aj (Below g w wr)) (fun v _ => a0.size - (intOf v).toNat)
    case atStart => exact ⟨0, Nat.zero_le _, rfl, ⟨by rw [B.xD]; exact hr0.out⟩, hb0⟩
    case round =>
      obtain ⟨k, hk, rfl, hrow, hbel⟩ := hrel
      clear hr0 hb0 kc
      by_cases hlt : k < a0.size
      · have hkl : k < (B.numsOf a0).length := by rw [hz.out]; exact hlt
        have hc := (hrow.out k (by rw [B.gJ]; exact hkl))
        rw [B.Dj k _ hkl, B.numsOf_at] at hc
        obtain ⟨hc1, hc2⟩ := hc
        have hrange := B.zy a0 k
        have hsm := aj.mk (iP.small (bt a0 k) hrange.1 hrange.2)
        have hset := aj.mk (B.rowAt_set hrow.out k (B.iI (bt a0 k)) (by rw [B.gJ]; exact hkl))
        have hset' := aj.mk (show B.uU (wr.setCell ⟨g, k, none⟩ (.int .u8 (B.iI (bt a0 k)))) g (B.iO (k + 1) (B.numsOf a0)) by
          have h1 := hset.out
          rw [← B.numsOf_at, B.uy k _ hkl] at h1
          rw [← B.numsOf_at]
          exact h1)
        have kV := aj.mk (hbel.out.setCell (p := ⟨g, k, none⟩) (Nat.le_refl _) (.int .u8 (B.iI (bt a0 k))))
        clear hset hrow hbel hkl
        generalize bt a0 k = c at *
        go_wp2_with (go_at_call 119; (with_reducible refine (lZ.calls c _ _ hsm.out).mono ?_); rintro e w' ⟨rfl, ⟨nd, rfl⟩⟩)
        go_roundw
        case rel => exact ⟨k + 1, by omega, by go_num, ⟨fun j hj => hset'.out j hj⟩, ⟨by first | exact kV.out | exact ⟨kV.out.os, kV.out.tape, kV.out.output, kV.out.size, kV.out.block⟩⟩⟩
        case measure => simp [intOf]; omega
      · obtain rfl : k = a0.size := by omega
        have hl : (B.iO a0.size (B.numsOf a0)).length = a0.size := by rw [B.gJ]; exact hz.out
        have kd := fun (dst : TypeId) (hd : Try.prog.underlying dst = some .string) => run_convert_bytes_arg (P := Try.prog) wr 119 5 Try.underlying119 Try.underlying5 g 0 a0.size C (B.iO a0.size (B.numsOf a0)) hl (fun i hi => by rw [Nat.zero_add]; exact (hrow.out i (by rw [hl]; exact hi)).1) dst hd
        replace kd := kd 9 Try.underlying9
        have he := aj.mk (show strOfNums (B.iO a0.size (B.numsOf a0)) = B.nX a0 by
          have := B.zx (B.numsOf a0)
          rw [hz.out] at this
          rw [this]; rfl)
        generalize strOfNums (B.iO a0.size (B.numsOf a0)) = q at kd he
        clear hrow hl hlt
        have he' := he.out
        clear he
        subst he'
        go_wp2
        go_ret
        exact ⟨rfl, by rw [hg'.out]; exact hbel.out⟩
  · rw [if_neg hs] at h
    exact absurd h (by simp)
def l5.f (k : Nat) (a0 : ByteArray) : Option (ByteArray) := (iJ.f k a0).bind fun Ik => (if Ik = true then ((iP.f a0).bind fun t109 => (some t109)) else (some (⟨#[]⟩ : ByteArray)))
set_option maxHeartbeats 8000000 in
set_option maxRecDepth 100000 in
theorem l5.calls (k : Nat) (a0 : ByteArray) (r : ByteArray) (w : World) (h : l5.f k a0 = some r) :
    Calls Try.prog 92 #[.string a0] w fun e w' => e = .returned (.string r) ∧ Below w.heap.size w w' := by
  have HB := aj.mk (Below.refl w.heap.size w)
  have H : ((iJ.f k a0).bind fun Ik => (if Ik = true then ((iP.f a0).bind fun t109 => (some t109)) else (some (⟨#[]⟩ : ByteArray)))) = some r := h
  clear h
  replace H := zbm H
  obtain ⟨Ik, KX, H⟩ := H
  replace H : (if Ik = true then ((iP.f a0).bind fun t109 => (some t109)) else (some (⟨#[]⟩ : ByteArray))) = some r := H
  have A2 := aj.mk KX
  clear KX
  by_cases c3 : Ik = true
  · subst c3
    have H1 : ((iP.f a0).bind fun t109 => (some t109)) = some r := by rw [if_pos rfl] at H; exact H
    clear H
    have H := H1
    clear H1
    replace H := zbm H
    obtain ⟨t109, Dr, H⟩ := H
    replace H : (some t109) = some r := H
    have A4 := aj.mk Dr
    clear Dr
    obtain rfl := Option.some.inj H
    go_enter Try.func92, Try.ntmps92
    go_wp2_with (first | ((with_reducible refine aQ (f := 91) rfl ?_); refine bP (some 4) rfl rfl Try.func91 (by kernel_rfl) rfl #[.string a0] rfl (by (try simp only [List.map_toArray, List.map_cons, List.map_nil]); first | done | rfl | (simp only [List.length_drop, List.length_take]; rfl) | (simp only [ByteArray.size_append, Int.natCast_add]; rfl) | (rw [B.dO] <;> first | rfl | omega | (simp only [decide_eq_false_iff_not, decide_eq_true_eq, Int.not_lt, Nat.not_lt, gt_iff_lt] at * <;> omega))) ?_; (with_reducible refine (iJ.calls k a0 true _ A2.out).mono ?_); rintro e w5 ⟨rfl, hb⟩; refine ⟨_, rfl, ?_⟩; have dX := aj.mk (bE (by repeat (first | (with_reducible first | exact HB.out | apply ak | apply ah | apply au) | exact HB.out)) hb); clear HB; have HB := dX; clear dX; (try clear hb); (try clear hb2); (try clear hk); (try clear hi)) | ((with_reducible refine aQ (f := 110) rfl ?_); refine bP (some 7) rfl rfl Try.func110 (by kernel_rfl) rfl #[.string a0] rfl (by (try simp only [List.map_toArray, List.map_cons, List.map_nil]); first | done | rfl | (simp only [List.length_drop, List.length_take]; rfl) | (simp only [ByteArray.size_append, Int.natCast_add]; rfl) | (rw [B.dO] <;> first | rfl | omega | (simp only [decide_eq_false_iff_not, decide_eq_true_eq, Int.not_lt, Nat.not_lt, gt_iff_lt] at * <;> omega))) ?_; (with_reducible refine (iP.calls a0 t109 _ A4.out).mono ?_); rintro e w6 ⟨rfl, hb⟩; refine ⟨_, rfl, ?_⟩; have dX := aj.mk (bE (by repeat (first | (with_reducible first | exact HB.out | apply ak | apply ah | apply au) | exact HB.out)) hb); clear HB; have HB := dX; clear dX; (try clear hb); (try clear hb2); (try clear hk); (try clear hi)))
    go_ret
    exact ⟨by first | rfl | (simp [aJ, aK] <;> rfl) | (simp [*, aJ, aK] <;> rfl), by repeat (first | (with_reducible first | exact HB.out | apply ak | apply ah | apply au) | exact HB.out)⟩
  · replace c3 := Bool.eq_false_iff.mpr c3
    subst c3
    have H1 : (some (⟨#[]⟩ : ByteArray)) = some r := by rw [if_neg (show ¬ (false = true) by decide)] at H; exact H
    clear H
    have H := H1
    clear H1
    obtain rfl := Option.some.inj H
    go_enter Try.func92, Try.ntmps92
    go_wp2_with (first | ((with_reducible refine aQ (f := 91) rfl ?_); refine bP (some 4) rfl rfl Try.func91 (by kernel_rfl) rfl #[.string a0] rfl (by (try simp only [List.map_toArray, List.map_cons, List.map_nil]); first | done | rfl | (simp only [List.length_drop, List.length_take]; rfl) | (simp only [ByteArray.size_append, Int.natCast_add]; rfl) | (rw [B.dO] <;> first | rfl | omega | (simp only [decide_eq_false_iff_not, decide_eq_true_eq, Int.not_lt, Nat.not_lt, gt_iff_lt] at * <;> omega))) ?_; (with_reducible refine (iJ.calls k a0 false _ A2.out).mono ?_); rintro e w7 ⟨rfl, hb⟩; refine ⟨_, rfl, ?_⟩; have dX := aj.mk (bE (by repeat (first | (with_reducible first | exact HB.out | apply ak | apply ah | apply au) | exact HB.out)) hb); clear HB; have HB := dX; clear dX; (try clear hb); (try clear hb2); (try clear hk); (try clear hi)))
    go_ret
    exact ⟨by first | rfl | (simp [aJ, aK] <;> rfl) | (simp [*, aJ, aK] <;> rfl), by repeat (first | (with_reducible first | exact HB.out | apply ak | apply ah | apply au) | exact HB.out)⟩
end Go.Proofs.Ytdkkgecdhapfhaa.ZQ
namespace Go.Proofs.Ytdkkgecdhapfhaa.ZQ
open Go.RowKit Go.Proofs.YtdkkgecdhapfhaaW.bD Go.Proofs.YtdkkgecdhapfhaaW.dV Go.Proofs.YtdkkgecdhapfhaaW.eD
attribute [local go_sem] ji jk j4 j5 iA iB jl jm
mutual
def aN.j0 : Nat → ByteArray → List ByteArray → Bool → Option (List ByteArray × Bool)
  | 0, _, _, _ => none
  | k + 1, x0, x4, NH => if NH = true then (some (([] : List ByteArray), false)) else (aN.l0 k x0 x4 0)
def aN.l0 : Nat → ByteArray → List ByteArray → Int → Option (List ByteArray × Bool)
  | 0, _, _, _ => none
  | k + 1, x0, x4, x5 => if x5 < (x0.size : Int) then (if 0 ≤ x5 then (if (wrap64 (bt x0 x5)) = 0 then (some (x4, (x5 == (wrap64 ((x0.size : Int) - 1))))) else (if (wrap64 (bt x0 x5)) > 63 then (some (([] : List ByteArray), false)) else (if (wrap64 (bt x0 x5)) ≥ (wrap64 ((x0.size : Int) - x5)) then (some (([] : List ByteArray), false)) else (if 0 ≤ (wrap64 (x5 + 1)) then (if (wrap64 (x5 + 1)) ≤ (wrap64 ((wrap64 (x5 + 1)) + (wrap64 (bt x0 x5)))) then (if (wrap64 ((wrap64 (x5 + 1)) + (wrap64 (bt x0 x5)))) ≤ (x0.size : Int) then (if x4.length < 8796093022208 then (aN.l0 k x0 (x4 ++ [x0.extract ((wrap64 (x5 + 1)) : Int).toNat ((wrap64 ((wrap64 (x5 + 1)) + (wrap64 (bt x0 x5)))) : Int).toNat]) (wrap64 ((wrap64 (x5 + 1)) + (wrap64 (bt x0 x5))))) else (none)) else (none)) else (none)) else (none))))) else (none)) else (some (([] : List ByteArray), false))
end
def aN.f (k : Nat) (a0 : ByteArray) : Option (List ByteArray × Bool) := if (a0.size : Int) < 1 then (aN.j0 k a0 ([] : List ByteArray) true) else (aN.j0 k a0 ([] : List ByteArray) (decide ((a0.size : Int) > 255)))
set_option maxHeartbeats 8000000 in
set_option maxRecDepth 100000 in
theorem aN.calls (k : Nat) (a0 : ByteArray) (r1 : List ByteArray) (r2 : Bool) (w : World) (h : aN.f k a0 = some (r1, r2)) :
    Calls Try.prog 115 #[.string a0] w fun e w' => ∃ Qu : Value, e = .returned (.tuple #[Qu, .bool r2]) ∧ Kd.R Kd.string 9 w' w.heap.size (fun _ => True) Qu r1 ∧ Below w.heap.size w w' := by
  have HB := aj.mk (Below.refl w.heap.size w)
  have H : (if (a0.size : Int) < 1 then (aN.j0 k a0 ([] : List ByteArray) true) else (aN.j0 k a0 ([] : List ByteArray) (decide ((a0.size : Int) > 255)))) = some (r1, r2) := h
  clear h
  have Tq := aj.mk H
  clear H
  go_enter Try.func115, Try.ntmps115
  go_upto_region 2 with (fail)
  go_cut [14] (fun v14 wc => ∃ (kq : Nat) (bQ : Bool), v14 = .bool bQ ∧ aj (aN.j0 kq a0 ([] : List ByteArray) bQ = some (r1, r2)) ∧ aj (kq ≤ k) ∧ aj (Kd.R Kd.string 9 wc w.heap.size (fun _ => True) (.slice none 0 0) ([] : List ByteArray)) ∧ aj (Below w.heap.size w wc))
  case first =>
    have H := Tq.out
    clear Tq
    by_cases c3 : (a0.size : Int) < 1
    · rw [if_pos c3] at H
      have qo : decide ((a0.size : Int) < 1) = true := decide_eq_true c3
      have A9 : decide (a0.size < 1) = true := decide_eq_true (by omega)
      clear c3
      (first | rw [qo] | rw [KY] | (simp only [gM, gZ]; rw [qo]) | skip)
      have H' := aj.mk H
      clear H
      go_wp2
      go_meet
      case rel => exact ⟨_, (true), (by first | rfl | (simp; done) | (simp [*]; done) | (simp [B.aV]; done) | (simp [B.aW]; done)), H', ⟨by first | omega | exact Nat.le_refl _⟩, ⟨by first | exact Kd.jB _ _ _ _ _ | exact Kd.kS _ _ _ _ _ | exact Kd.kT _ _ _ _ _ | exact Kd.kQ _ _ _ _ _ | exact Kd.kR _ _ _ _ _⟩, ⟨by repeat (first | (with_reducible first | exact HB.out | apply ak | apply ah | apply au) | exact HB.out)⟩⟩
    · rw [if_neg c3] at H
      have qo : decide ((a0.size : Int) < 1) = false := decide_eq_false c3
      have A9 : decide (a0.size < 1) = false := decide_eq_false (by omega)
      clear c3
      (first | rw [qo] | rw [KY] | (simp only [gM, gZ]; rw [qo]) | skip)
      have H' := aj.mk H
      clear H
      go_wp2
      go_meet
      case rel => exact ⟨_, (decide ((a0.size : Int) > 255)), (by first | rfl | (simp; done) | (simp [*]; done) | (simp [B.aV]; done) | (simp [B.aW]; done)), H', ⟨by first | omega | exact Nat.le_refl _⟩, ⟨by first | exact Kd.jB _ _ _ _ _ | exact Kd.kS _ _ _ _ _ | exact Kd.kT _ _ _ _ _ | exact Kd.kQ _ _ _ _ _ | exact Kd.kR _ _ _ _ _⟩, ⟨by repeat (first | (with_reducible first | exact HB.out | apply ak | apply ah | apply au) | exact HB.out)⟩⟩
  case rest =>
    clear Tq
    try clear c1
    try clear p2
    try clear c3
    try clear qo
    try clear A9
    try clear KY
    obtain ⟨kq, bQ, rfl, HA, HJ1, ql, HB⟩ := hcut
    cases kq with
    | zero => exact absurd HA.out (by simp [aN.j0])
    | succ kj1 =>
      have H := HA.out
      clear HA
      simp only [aN.j0] at H
      by_cases c4 : bQ = true
      · subst c4
        have H1 : (some (([] : List ByteArray), false)) = some (r1, r2) := by rw [if_pos rfl] at H; exact H
        clear H
        have H := H1
        clear H1
        simp only [Option.some.injEq, Prod.mk.injEq] at H
        obtain ⟨rfl, rfl⟩ := H
        go_wp2
        go_ret2
        exact ⟨_, by first | rfl | (simp [aJ, aK] <;> rfl) | (simp [*, aJ, aK] <;> rfl), by first | exact Kd.jB _ _ _ _ _ | exact Kd.kS _ _ _ _ _ | exact Kd.kT _ _ _ _ _ | exact Kd.kQ _ _ _ _ _ | exact Kd.kR _ _ _ _ _, by repeat (first | (with_reducible first | exact HB.out | apply ak | apply ah | apply au) | exact HB.out)⟩
      · replace c4 := Bool.eq_false_iff.mpr c4
        subst c4
        have H1 : (aN.l0 kj1 a0 ([] : List ByteArray) 0) = some (r1, r2) := by rw [if_neg (show ¬ (false = true) by decide)] at H; exact H
        clear H
        have H := H1
        clear H1
        have H' := aj.mk H
        clear H
        go_wp2
        go_loopg [4, 5] kj1 (fun kq v4 v5 w' => ∃ (Dt : List ByteArray) (eX : Int), v5 = .int .i64 eX ∧ aj (aN.l0 kq a0 Dt eX = some (r1, r2)) ∧ aj (kq ≤ kj1) ∧ aj (Kd.R Kd.string 9 w' w.heap.size (fun _ => True) v4 Dt) ∧ aj (Below w.heap.size w w'))
        case atStart => exact ⟨(([] : List ByteArray)), (0), (by first | rfl | (simp; done) | (simp [*]; done) | (simp [B.aV]; done) | (simp [B.aW]; done)), H', ⟨Nat.le_refl _⟩, ⟨by (with_reducible repeat (first | apply Kd.eU | apply Kd.fG | apply Kd.fQ)); exact ql.out⟩, ⟨by repeat (first | (with_reducible first | exact HB.out | apply ak | apply ah | apply au) | exact HB.out)⟩⟩
        case round =>
          clear H'
          try clear c1
          try clear p2
          try clear c3
          try clear qo
          try clear A9
          try clear KY
          try clear c4
          try clear p2
          obtain ⟨Dt, eX, rfl, HA, Qw, ql, HB⟩ := hrel
          cases gk with
          | zero => exact absurd HA.out (by simp [aN.l0])
          | succ k2 =>
            have H := HA.out
            clear HA
            simp only [aN.l0] at H
            by_cases c5 : eX < (a0.size : Int)
            · rw [if_pos c5] at H
              have oN : decide (eX < (a0.size : Int)) = true := decide_eq_true c5
              clear c5
              by_cases c6 : 0 ≤ eX
              · rw [if_pos c6] at H
                have yO : decide (0 ≤ eX) = true := decide_eq_true c6
                clear c6
                by_cases c8 : (wrap64 (bt a0 eX)) = 0
                · rw [if_pos c8] at H
                  have qV : ((wrap64 (bt a0 eX)) == 0) = true := beq_iff_eq.mpr c8
                  have qW : ((wrap64 (bt a0 eX)) != 0) = false := bne_eq_false_iff_eq.mpr c8
                  (try (have KZ : (((bt a0 eX)) == 0) = true := by have h_ : ((wrap64 (bt a0 eX)) == 0) = true := beq_iff_eq.mpr c8; rw [B.dO (by omega) (by omega)] at h_; exact h_))
                  (try (have XM : (((bt a0 eX)) != 0) = false := by have h_ : ((wrap64 (bt a0 eX)) != 0) = false := bne_eq_false_iff_eq.mpr c8; rw [B.dO (by omega) (by omega)] at h_; exact h_))
                  clear c8
                  simp only [Option.some.injEq, Prod.mk.injEq] at H
                  obtain ⟨rfl, rfl⟩ := H
                  have p7 : 0 ≤ (eX : Int) := of_decide_eq_true (by first | (with_reducible assumption) | assumption)
                  have q7 : eX < (a0.size : Int) := of_decide_eq_true (by first | (with_reducible assumption) | assumption)
                  have hx7 := ny a0 eX
                  replace p7 := eq_true p7
                  replace q7 := eq_true q7
                  go_wp2
                  go_ret2
                  exact ⟨_, by first | rfl | (simp [aJ, aK] <;> rfl) | (simp [*, aJ, aK] <;> rfl), by (with_reducible repeat (first | apply Kd.eU | apply Kd.fG | apply Kd.fQ)); exact ql.out, by repeat (first | (with_reducible first | exact HB.out | apply ak | apply ah | apply au) | exact HB.out)⟩
                · rw [if_neg c8] at H
                  have qV : ((wrap64 (bt a0 eX)) == 0) = false := beq_eq_false_iff_ne.mpr c8
                  have qW : ((wrap64 (bt a0 eX)) != 0) = true := bne_iff_ne.mpr c8
                  (try (have KZ : (((bt a0 eX)) == 0) = false := by have h_ : ((wrap64 (bt a0 eX)) == 0) = false := beq_eq_false_iff_ne.mpr c8; rw [B.dO (by omega) (by omega)] at h_; exact h_))
                  (try (have XM : (((bt a0 eX)) != 0) = true := by have h_ : ((wrap64 (bt a0 eX)) != 0) = true := bne_iff_ne.mpr c8; rw [B.dO (by omega) (by omega)] at h_; exact h_))
                  by_cases c9 : (wrap64 (bt a0 eX)) > 63
                  · rw [if_pos c9] at H
                    have sS : decide (63 < (wrap64 (bt a0 eX))) = true := decide_eq_true c9
                    (try (have Dq : decide (63 < ((bt a0 eX))) = true := by have h_ : decide (63 < (wrap64 (bt a0 eX))) = true := decide_eq_true c9; rw [B.dO (by omega) (by omega)] at h_; exact h_))
                    clear c9
                    simp only [Option.some.injEq, Prod.mk.injEq] at H
                    obtain ⟨rfl, rfl⟩ := H
                    have p7 : 0 ≤ (eX : Int) := of_decide_eq_true (by first | (with_reducible assumption) | assumption)
                    have q7 : eX < (a0.size : Int) := of_decide_eq_true (by first | (with_reducible assumption) | assumption)
                    have hx7 := ny a0 eX
                    replace p7 := eq_true p7
                    replace q7 := eq_true q7
                    go_wp2
                    go_ret2
                    exact ⟨_, by first | rfl | (simp [aJ, aK] <;> rfl) | (simp [*, aJ, aK] <;> rfl), by first | exact Kd.jB _ _ _ _ _ | exact Kd.kS _ _ _ _ _ | exact Kd.kT _ _ _ _ _ | exact Kd.kQ _ _ _ _ _ | exact Kd.kR _ _ _ _ _, by repeat (first | (with_reducible first | exact HB.out | apply ak | apply ah | apply au) | exact HB.out)⟩
                  · rw [if_neg c9] at H
                    have sS : decide (63 < (wrap64 (bt a0 eX))) = false := decide_eq_false c9
                    (try (have Dq : decide (63 < ((bt a0 eX))) = false := by have h_ : decide (63 < (wrap64 (bt a0 eX))) = false := decide_eq_false c9; rw [B.dO (by omega) (by omega)] at h_; exact h_))
                    clear c9
                    by_cases c10 : (wrap64 (bt a0 eX)) ≥ (wrap64 ((a0.size : Int) - eX))
                    · rw [if_pos c10] at H
                      have qG : decide ((wrap64 ((a0.size : Int) - eX)) ≤ (wrap64 (bt a0 eX))) = true := decide_eq_true c10
                      (try (have zD : decide ((((a0.size : Int) - eX)) ≤ ((bt a0 eX))) = true := by have h_ : decide ((wrap64 ((a0.size : Int) - eX)) ≤ (wrap64 (bt a0 eX))) = true := decide_eq_true c10; rw [B.dO (by omega) (by omega)] at h_; rw [B.dO (by omega) (by omega)] at h_; exact h_))
                      clear c10
                      simp only [Option.some.injEq, Prod.mk.injEq] at H
                      obtain ⟨rfl, rfl⟩ := H
                      have p7 : 0 ≤ (eX : Int) := of_decide_eq_true (by first | (with_reducible assumption) | assumption)
                      have q7 : eX < (a0.size : Int) := of_decide_eq_true (by first | (with_reducible assumption) | assumption)
                      have hx7 := ny a0 eX
                      replace p7 := eq_true p7
                      replace q7 := eq_true q7
                      go_wp2
                      go_ret2
                      exact ⟨_, by first | rfl | (simp [aJ, aK] <;> rfl) | (simp [*, aJ, aK] <;> rfl), by first | exact Kd.jB _ _ _ _ _ | exact Kd.kS _ _ _ _ _ | exact Kd.kT _ _ _ _ _ | exact Kd.kQ _ _ _ _ _ | exact Kd.kR _ _ _ _ _, by repeat (first | (with_reducible first | exact HB.out | apply ak | apply ah | apply au) | exact HB.out)⟩
                    · rw [if_neg c10] at H
                      have qG : decide ((wrap64 ((a0.size : Int) - eX)) ≤ (wrap64 (bt a0 eX))) = false := decide_eq_false c10
                      (try (have zD : decide ((((a0.size : Int) - eX)) ≤ ((bt a0 eX))) = false := by have h_ : decide ((wrap64 ((a0.size : Int) - eX)) ≤ (wrap64 (bt a0 eX))) = false := decide_eq_false c10; rw [B.dO (by omega) (by omega)] at h_; rw [B.dO (by omega) (by omega)] at h_; exact h_))
                      clear c10
                      obtain ⟨lI, Gf⟩ : ∃ j_ : Int, (wrap64 (eX + 1)) = j_ := ⟨_, rfl⟩
                      replace H : (if 0 ≤ (lI) then (if (lI) ≤ (wrap64 ((lI) + (wrap64 (bt a0 eX)))) then (if (wrap64 ((lI) + (wrap64 (bt a0 eX)))) ≤ (a0.size : Int) then (if Dt.length < 8796093022208 then (aN.l0 k2 a0 (Dt ++ [a0.extract ((lI) : Int).toNat ((wrap64 ((lI) + (wrap64 (bt a0 eX)))) : Int).toNat]) (wrap64 ((lI) + (wrap64 (bt a0 eX))))) else (none)) else (none)) else (none)) else (none)) = some (r1, r2) := by first | (rw [Gf] at H; exact H) | (simp only [Gf] at H ⊢; exact H)
                      have adx : (IntKind.i64.wrap (eX + 1)) = lI := (gM _).trans Gf
                      by_cases c12 : 0 ≤ (lI)
                      · rw [if_pos c12] at H
                        have sU := eq_true c12
                        have sV : decide (0 ≤ (lI)) = true := decide_eq_true c12
                        clear c12
                        by_cases c13 : (lI) ≤ (wrap64 ((lI) + (wrap64 (bt a0 eX))))
                        · rw [if_pos c13] at H
                          have aeT := eq_true c13
                          have aeU : decide ((lI) ≤ (wrap64 ((lI) + (wrap64 (bt a0 eX))))) = true := decide_eq_true c13
                          by_cases c14 : (wrap64 ((lI) + (wrap64 (bt a0 eX)))) ≤ (a0.size : Int)
                          · rw [if_pos c14] at H
                            have zF := eq_true c14
                            have Qx : decide ((wrap64 ((lI) + (wrap64 (bt a0 eX)))) ≤ (a0.size : Int)) = true := decide_eq_true c14
                            by_cases c15 : Dt.length < 8796093022208
                            · rw [if_pos c15] at H
                              have XO := aj.mk c15
                              clear c15
                              obtain ⟨XP, Du⟩ : ∃ y_ : List ByteArray, y_ = (Dt ++ [a0.extract ((lI) : Int).toNat ((wrap64 ((lI) + (wrap64 (bt a0 eX)))) : Int).toNat]) := ⟨_, rfl⟩
                              replace H : (aN.l0 k2 a0 XP (wrap64 ((lI) + (wrap64 (bt a0 eX))))) = some (r1, r2) := by first | (rw [Du]; with_reducible exact H) | (have ES := (Option.bind_some _ _).symm.trans H; rw [Du]; with_reducible exact ES) | (have ES := (Option.bind_some _ _).symm.trans H; with_reducible exact ES) | with_reducible exact H | (rw [Du]; exact H) | exact H
                              have XQ := aj.mk Du
                              clear Du
                              have H' := aj.mk H
                              clear H
                              have p7 : 0 ≤ (eX : Int) := of_decide_eq_true (by first | (with_reducible assumption) | assumption)
                              have q7 : eX < (a0.size : Int) := of_decide_eq_true (by first | (with_reducible assumption) | assumption)
                              have hx7 := ny a0 eX
                              replace p7 := eq_true p7
                              replace q7 := eq_true q7
                              go_wp2_with (first | ((with_reducible refine nN (b := .append) (xs := #[.tmp 41, .tmp 50]) rfl ?_); (try (refine jo (by rfl) ?_; dsimp only)); at_builtin; refine Kd.xq Kd.string (w0 := w) w.heap.size rfl (.tmp 41) (.tmp 50) 33 9 (.string ⟨#[]⟩) 16 rfl Try.underlying33 Gb rfl (by decide) (by omega) u4 Dt (a0.extract ((lI) : Int).toNat ((wrap64 ((lI) + (wrap64 (bt a0 eX)))) : Int).toNat) [.string (a0.extract ((lI) : Int).toNat ((wrap64 ((lI) + (wrap64 (bt a0 eX)))) : Int).toNat)] (fun _ => True) (fun _ => False) rfl rfl ?aP (fun _ hk => hk.elim) ?aF ?aO ?aB ?aS ?aL ?_; (case aP => exact rfl); (case aB => exact (by repeat (first | (with_reducible first | exact HB.out | apply ak | apply ah | apply au) | exact HB.out))); (case aF => exact (fun _ _ => trivial)); (case aO => exact (by (with_reducible repeat (first | apply Kd.eU | apply Kd.fG | apply Kd.fQ)); exact ql.out)); (case aS => exact (bL (by repeat (first | (with_reducible first | exact HB.out | apply ak | apply ah | apply au) | exact HB.out)))); (case aL => have := XO.out; omega); intro af3 w16 ho hb hg hat; rw [← XQ.out] at ho; have dX := aj.mk (hb); have gV := aj.mk (ho); clear HB; clear ql; have HB := dX; have XR := gV; clear dX gV; clear ho hb hg hat))
                              go_roundg k2
                              case measure => have := HJ1.out; have := Qw.out; omega
                              case rel => exact ⟨(XP), (wrap64 ((lI) + (wrap64 (bt a0 eX)))), (by first | rfl | (simp; done) | (simp only [← Gf] <;> (first | rfl | simp)) | (simp [*]; done)), H', ⟨by have := HJ1.out; have := Qw.out; omega⟩, ⟨by (with_reducible repeat (first | apply Kd.eU | apply Kd.fG | apply Kd.fQ)); exact XR.out⟩, ⟨by repeat (first | (with_reducible first | exact HB.out | apply ak | apply ah | apply au) | exact HB.out)⟩⟩
                            · rw [if_neg c15] at H
                              exact absurd H (by simp)
                          · rw [if_neg c14] at H
                            exact absurd H (by simp)
                        · rw [if_neg c13] at H
                          exact absurd H (by simp)
                      · rw [if_neg c12] at H
                        exact absurd H (by simp)
              · rw [if_neg c6] at H
                exact absurd H (by simp)
            · rw [if_neg c5] at H
              have oN : decide (eX < (a0.size : Int)) = false := decide_eq_false c5
              clear c5
              simp only [Option.some.injEq, Prod.mk.injEq] at H
              obtain ⟨rfl, rfl⟩ := H
              go_wp2
              go_ret2
              exact ⟨_, by first | rfl | (simp [aJ, aK] <;> rfl) | (simp [*, aJ, aK] <;> rfl), by first | exact Kd.jB _ _ _ _ _ | exact Kd.kS _ _ _ _ _ | exact Kd.kT _ _ _ _ _ | exact Kd.kQ _ _ _ _ _ | exact Kd.kR _ _ _ _ _, by repeat (first | (with_reducible first | exact HB.out | apply ak | apply ah | apply au) | exact HB.out)⟩
def dx.f (k : Nat) (a0 : ByteArray) : Option (Bool) := (aN.f k a0).bind fun K3 => (some K3.2)
set_option maxHeartbeats 8000000 in
set_option maxRecDepth 100000 in
theorem dx.calls (k : Nat) (a0 : ByteArray) (r : Bool) (w : World) (h : dx.f k a0 = some r) :
    Calls Try.prog 100 #[.string a0] w fun e w' => e = .returned (.bool r) ∧ Below w.heap.size w w' := by
  have HB := aj.mk (Below.refl w.heap.size w)
  have H : ((aN.f k a0).bind fun K3 => (some K3.2)) = some r := h
  clear h
  replace H := zbm H
  obtain ⟨⟨ady, XT⟩, KX, H⟩ := H
  replace H : (some XT) = some r := H
  have A2 := aj.mk KX
  clear KX
  obtain rfl := Option.some.inj H
  go_enter Try.func100, Try.ntmps100
  go_wp2_with (first | ((with_reducible refine aQ (f := 115) rfl ?_); refine bP (some 7) rfl rfl Try.func115 (by kernel_rfl) rfl #[.string a0] rfl (by (try simp only [List.map_toArray, List.map_cons, List.map_nil]); first | done | rfl | (simp only [List.length_drop, List.length_take]; rfl) | (simp only [ByteArray.size_append, Int.natCast_add]; rfl) | (rw [B.dO] <;> first | rfl | omega | (simp only [decide_eq_false_iff_not, decide_eq_true_eq, Int.not_lt, Nat.not_lt, gt_iff_lt] at * <;> omega))) ?_; (with_reducible refine (aN.calls k a0 ady XT _ A2.out).mono ?_); rintro e w3 ⟨af4, rfl, ho0, hb⟩; refine ⟨_, rfl, ?_⟩; have dX := aj.mk (Kd.sI ho0 (bL (by repeat (first | (with_reducible first | exact HB.out | apply ak | apply ah | apply au) | exact HB.out)))); have gV := aj.mk (bE (by repeat (first | (with_reducible first | exact HB.out | apply ak | apply ah | apply au) | exact HB.out)) hb); clear HB; have aeV := dX; have HB := gV; clear dX gV; (try clear hb); (try clear hb2); (try clear hk); (try clear hi); (try clear ho0)))
  go_ret
  exact ⟨by first | rfl | (simp [aJ, aK] <;> rfl) | (simp [*, aJ, aK] <;> rfl), by repeat (first | (with_reducible first | exact HB.out | apply ak | apply ah | apply au) | exact HB.out)⟩
def cu.f (a0 : ByteArray) : Option ByteArray := if a0.size ≤ 140737488355328 then some (B.nX a0) else none
set_option maxHeartbeats 8000000 in
set_option maxRecDepth 100000 in
theorem cu.calls (a0 : ByteArray) (r : ByteArray) (w : World) (h : cu.f a0 = some r) :
    Calls Try.prog 116 #[.string a0] w fun e w' => e = .returned (.string r) ∧ Below w.heap.size w w' := by
  unfold cu.f at h
  by_cases hs : a0.size ≤ 140737488355328
  · rw [if_pos hs] at h
    obtain rfl := Option.some.inj h
    clear h
    have kc := fun (W : World) => Lib.run_convert_string_bytes (P := Try.prog) W 9 119 5 a0 Try.underlying9 Try.underlying119 Try.underlying5
    have hb0 := aj.mk (B.xG (Below.refl w.heap.size w) (Nat.le_refl _) 5 a0)
    have hr0 := aj.mk (B.xE w 5 a0)
    go_enter Try.func116, Try.ntmps116
    go_wp2
    generalize Lib.bytesWorld w 5 a0 = w1 at hb0 hr0 ⊢
    generalize grownCap w a0.size 0 5 = C
    have hz := aj.mk (B.numsOf_length a0)
    have hg := aj.mk (Nat.le_refl w.heap.size)
    generalize hgg : w.heap.size = g at hb0 hr0 hg ⊢
    have hg' := aj.mk hgg
    clear hgg
    go_loopw [4] (fun v wr => ∃ k : Nat, k ≤ a0.size ∧ v = .int .i64 k ∧ aj (B.uU wr g (B.iO k (B.numsOf a0))) ∧ aj (Below g w wr)) (fun v _ => a0.size - (intOf v).toNat)
    case atStart => exact ⟨0, Nat.zero_le _, rfl, ⟨by rw [B.xD]; exact hr0.out⟩, hb0⟩
    case round =>
      obtain ⟨k, hk, rfl, hrow, hbel⟩ := hrel
      clear hr0 hb0 kc
      by_cases hlt : k < a0.size
      · have hkl : k < (B.numsOf a0).length := by rw [hz.out]; exact hlt
        have hc := (hrow.out k (by rw [B.gJ]; exact hkl))
        rw [B.Dj k _ hkl, B.numsOf_at] at hc
        obtain ⟨hc1, hc2⟩ := hc
        have hrange := B.zy a0 k
        have hset := aj.mk (B.rowAt_set hrow.out k (B.iI (bt a0 k)) (by rw [B.gJ]; exact hkl))
        have hset' := aj.mk (show B.uU (wr.setCell ⟨g, k, none⟩ (.int .u8 (B.iI (bt a0 k)))) g (B.iO (k + 1) (B.numsOf a0)) by
          have h1 := hset.out
          rw [← B.numsOf_at, B.uy k _ hkl] at h1
          rw [← B.numsOf_at]
          exact h1)
        have kV := aj.mk (hbel.out.setCell (p := ⟨g, k, none⟩) (Nat.le_refl _) (.int .u8 (B.iI (bt a0 k))))
        have hsame := aj.mk (show B.iI (bt a0 k) = bt a0 k → B.uU wr g (B.iO (k + 1) (B.numsOf a0)) by
          intro he j hj
          have h1 := hrow.out j (by rw [B.gJ] at hj ⊢; exact hj)
          rw [← B.uy k _ hkl, B.numsOf_at, he]
          by_cases e : j = k
          · subst e
            rw [List.getD_eq_getElem?_getD, List.getElem?_set_self (by rw [B.gJ]; exact hkl)]
            exact ⟨hc1, hc2⟩
          · rw [List.getD_eq_getElem?_getD, List.getElem?_set_ne (fun h => e h.symm), ← List.getD_eq_getElem?_getD]
            exact h1)
        clear hset hrow hkl
        generalize bt a0 k = c at *
        by_cases c1 : 65 ≤ c
        · by_cases c2 : c ≤ 90
          · have d1 : decide (65 ≤ c) = true := decide_eq_true c1
            have d2 : decide (c ≤ 90) = true := decide_eq_true c2
            have e1 : B.iI c = c + 32 := by unfold B.iI; rw [if_pos ⟨c1, c2⟩]
            have e2 : (c + 32) % 256 = c + 32 := by omega
            rw [e1] at hset' kV
            have e2' := aj.mk e2
            clear hsame hbel e1 e2 c1 c2
            go_wp2
            all_goals
              go_roundw
              case rel => exact ⟨k + 1, by omega, by go_num, ⟨fun j hj => by first | exact hset'.out j hj | (rw [e2'.out]; exact hset'.out j hj)⟩, ⟨by first | exact kV.out | (rw [e2'.out]; exact kV.out) | exact ⟨kV.out.os, kV.out.tape, kV.out.output, kV.out.size, kV.out.block⟩⟩⟩
              case measure => simp [intOf]; omega
          · have d1 : decide (65 ≤ c) = true := decide_eq_true c1
            have d2 : decide (c ≤ 90) = false := decide_eq_false c2
            have e1 : B.iI c = c := by unfold B.iI; rw [if_neg (by omega)]
            have hr2 := aj.mk (hsame.out e1)
            clear hsame hset' kV e1 c1 c2
            go_wp2
            go_roundw
            case rel => exact ⟨k + 1, by omega, by go_num, hr2, hbel⟩
            case measure => simp [intOf]; omega
        · have d1 : decide (65 ≤ c) = false := decide_eq_false c1
          have e1 : B.iI c = c := by unfold B.iI; rw [if_neg (by omega)]
          have hr2 := aj.mk (hsame.out e1)
          clear hsame hset' kV e1 c1
          go_wp2
          go_roundw
          case rel => exact ⟨k + 1, by omega, by go_num, hr2, hbel⟩
          case measure => simp [intOf]; omega
      · obtain rfl : k = a0.size := by omega
        have hl : (B.iO a0.size (B.numsOf a0)).length = a0.size := by rw [B.gJ]; exact hz.out
        have kd := fun (dst : TypeId) (hd : Try.prog.underlying dst = some .string) => run_convert_bytes_arg (P := Try.prog) wr 119 5 Try.underlying119 Try.underlying5 g 0 a0.size C (B.iO a0.size (B.numsOf a0)) hl (fun i hi => by rw [Nat.zero_add]; exact (hrow.out i (by rw [hl]; exact hi)).1) dst hd
        replace kd := kd 9 Try.underlying9
        have he := aj.mk (show strOfNums (B.iO a0.size (B.numsOf a0)) = B.nX a0 by
          have := B.zx (B.numsOf a0)
          rw [hz.out] at this
          rw [this]; rfl)
        generalize strOfNums (B.iO a0.size (B.numsOf a0)) = q at kd he
        clear hrow hl hlt
        have he' := he.out
        clear he
        subst he'
        go_wp2
        go_ret
        exact ⟨rfl, by rw [hg'.out]; exact hbel.out⟩
  · rw [if_neg hs] at h
    exact absurd h (by simp)
def fq.f (k : Nat) (a0 : ByteArray) : Option (ByteArray) := (dx.f k a0).bind fun t117 => (if t117 = true then ((cu.f a0).bind fun yP => (some yP)) else (some (⟨#[]⟩ : ByteArray)))
set_option maxHeartbeats 8000000 in
set_option maxRecDepth 100000 in
theorem fq.calls (k : Nat) (a0 : ByteArray) (r : ByteArray) (w : World) (h : fq.f k a0 = some r) :
    Calls Try.prog 101 #[.string a0] w fun e w' => e = .returned (.string r) ∧ Below w.heap.size w w' := by
  have HB := aj.mk (Below.refl w.heap.size w)
  have H : ((dx.f k a0).bind fun t117 => (if t117 = true then ((cu.f a0).bind fun yP => (some yP)) else (some (⟨#[]⟩ : ByteArray)))) = some r := h
  clear h
  replace H := zbm H
  obtain ⟨t117, KX, H⟩ := H
  replace H : (if t117 = true then ((cu.f a0).bind fun yP => (some yP)) else (some (⟨#[]⟩ : ByteArray))) = some r := H
  have A2 := aj.mk KX
  clear KX
  by_cases c3 : t117 = true
  · subst c3
    have H1 : ((cu.f a0).bind fun yP => (some yP)) = some r := by rw [if_pos rfl] at H; exact H
    clear H
    have H := H1
    clear H1
    replace H := zbm H
    obtain ⟨yP, Dr, H⟩ := H
    replace H : (some yP) = some r := H
    have A4 := aj.mk Dr
    clear Dr
    obtain rfl := Option.some.inj H
    go_enter Try.func101, Try.ntmps101
    go_wp2_with (first | ((with_reducible refine aQ (f := 100) rfl ?_); refine bP (some 4) rfl rfl Try.func100 (by kernel_rfl) rfl #[.string a0] rfl (by (try simp only [List.map_toArray, List.map_cons, List.map_nil]); first | done | rfl | (simp only [List.length_drop, List.length_take]; rfl) | (simp only [ByteArray.size_append, Int.natCast_add]; rfl) | (rw [B.dO] <;> first | rfl | omega | (simp only [decide_eq_false_iff_not, decide_eq_true_eq, Int.not_lt, Nat.not_lt, gt_iff_lt] at * <;> omega))) ?_; (with_reducible refine (dx.calls k a0 true _ A2.out).mono ?_); rintro e w5 ⟨rfl, hb⟩; refine ⟨_, rfl, ?_⟩; have dX := aj.mk (bE (by repeat (first | (with_reducible first | exact HB.out | apply ak | apply ah | apply au) | exact HB.out)) hb); clear HB; have HB := dX; clear dX; (try clear hb); (try clear hb2); (try clear hk); (try clear hi)) | ((with_reducible refine aQ (f := 116) rfl ?_); refine bP (some 7) rfl rfl Try.func116 (by kernel_rfl) rfl #[.string a0] rfl (by (try simp only [List.map_toArray, List.map_cons, List.map_nil]); first | done | rfl | (simp only [List.length_drop, List.length_take]; rfl) | (simp only [ByteArray.size_append, Int.natCast_add]; rfl) | (rw [B.dO] <;> first | rfl | omega | (simp only [decide_eq_false_iff_not, decide_eq_true_eq, Int.not_lt, Nat.not_lt, gt_iff_lt] at * <;> omega))) ?_; (with_reducible refine (cu.calls a0 yP _ A4.out).mono ?_); rintro e w6 ⟨rfl, hb⟩; refine ⟨_, rfl, ?_⟩; have dX := aj.mk (bE (by repeat (first | (with_reducible first | exact HB.out | apply ak | apply ah | apply au) | exact HB.out)) hb); clear HB; have HB := dX; clear dX; (try clear hb); (try clear hb2); (try clear hk); (try clear hi)))
    go_ret
    exact ⟨by first | rfl | (simp [aJ, aK] <;> rfl) | (simp [*, aJ, aK] <;> rfl), by repeat (first | (with_reducible first | exact HB.out | apply ak | apply ah | apply au) | exact HB.out)⟩
  · replace c3 := Bool.eq_false_iff.mpr c3
    subst c3
    have H1 : (some (⟨#[]⟩ : ByteArray)) = some r := by rw [if_neg (show ¬ (false = true) by decide)] at H; exact H
    clear H
    have H := H1
    clear H1
    obtain rfl := Option.some.inj H
    go_enter Try.func101, Try.ntmps101
    go_wp2_with (first | ((with_reducible refine aQ (f := 100) rfl ?_); refine bP (some 4) rfl rfl Try.func100 (by kernel_rfl) rfl #[.string a0] rfl (by (try simp only [List.map_toArray, List.map_cons, List.map_nil]); first | done | rfl | (simp only [List.length_drop, List.length_take]; rfl) | (simp only [ByteArray.size_append, Int.natCast_add]; rfl) | (rw [B.dO] <;> first | rfl | omega | (simp only [decide_eq_false_iff_not, decide_eq_true_eq, Int.not_lt, Nat.not_lt, gt_iff_lt] at * <;> omega))) ?_; (with_reducible refine (dx.calls k a0 false _ A2.out).mono ?_); rintro e w7 ⟨rfl, hb⟩; refine ⟨_, rfl, ?_⟩; have dX := aj.mk (bE (by repeat (first | (with_reducible first | exact HB.out | apply ak | apply ah | apply au) | exact HB.out)) hb); clear HB; have HB := dX; clear dX; (try clear hb); (try clear hb2); (try clear hk); (try clear hi)))
    go_ret
    exact ⟨by first | rfl | (simp [aJ, aK] <;> rfl) | (simp [*, aJ, aK] <;> rfl), by repeat (first | (with_reducible first | exact HB.out | apply ak | apply ah | apply au) | exact HB.out)⟩
end Go.Proofs.Ytdkkgecdhapfhaa.ZQ
namespace Go.Proofs.Ytdkkgecdhapfhaa.ZQ
open Go.RowKit Go.Proofs.YtdkkgecdhapfhaaW.bD Go.Proofs.YtdkkgecdhapfhaaW.dV Go.Proofs.YtdkkgecdhapfhaaW.eD Go.Proofs.Ytdkkgecdhapfhaa.B
theorem mG {n : ByteArray} : n.toList = ([0] : List UInt8) ↔ n = root := by
  have : root.toList = ([0] : List UInt8) := by rw [Lib.toList_data]; rfl
  rw [← this, toList_inj]
theorem K4 (d : Nat) : ∀ (k : Nat) (n : ByteArray) (acc : List ByteArray), n.size ≤ d → 1 ≤ n.size → d ≤ 255 → acc.length + d ≤ 1000 → 2 * d + 2 ≤ k →
    bN.l0 k n acc = some (match jK n.size n with | some l => (acc ++ l, true) | none => ([], false)) := by
  induction d with
  | zero => intro k n acc h1 h2; omega
  | succ d ih =>
    intro k n acc h1 h2 h3 h4 hk
    obtain ⟨k, rfl⟩ : ∃ m, k = m + 2 := ⟨k - 2, by omega⟩
    rw [bN.l0, if_pos (by omega), bN.j1, xJ h2]
    by_cases hr : n = root
    · have hb : (n.toList != ([0] : List UInt8)) = false := bne_eq_false_iff_eq.mpr (mG.mpr hr)
      have hb2 : (n.toList == ([0] : List UInt8)) = true := beq_iff_eq.mpr (mG.mpr hr)
      rw [hb, if_neg Bool.false_ne_true, if_pos hr, hb2]
      simp
    · have hb : (n.toList != ([0] : List UInt8)) = true := bne_iff_ne.mpr fun h => hr (mG.mp h)
      have hbr := gq n 0
      rw [hb, if_pos rfl, if_pos (by omega), if_neg hr, dO (n := bt n 0) (by omega) (by omega), dO (n := bt n 0 + 1) (by omega) (by omega), dO (n := 1 + bt n 0) (by omega) (by omega)]
      by_cases c1 : bt n 0 < 1
      · rw [if_pos c1, if_neg (by omega)]
      · rw [if_neg c1]
        by_cases c2 : bt n 0 > 63
        · rw [if_pos c2, if_neg (by omega)]
        · rw [if_neg c2]
          by_cases c3 : bt n 0 + 1 ≥ (n.size : Int)
          · rw [if_pos c3, if_neg (by omega)]
          · rw [if_neg c3, if_pos (by omega), if_pos (by omega), if_pos (by omega), if_pos (by omega), if_pos (by omega)]
            have e : (1 + bt n 0).toNat = 1 + (bt n 0).toNat := by omega
            rw [e, ih k _ _ (by rw [ByteArray.size_extract]; omega) (by rw [ByteArray.size_extract]; omega) (by omega) (by simp; omega) (by omega)]
            cases jK (n.extract (1 + (bt n 0).toNat) n.size).size (n.extract (1 + (bt n 0).toNat) n.size) with
            | none => rfl
            | some l => simp
def Ba (n : ByteArray) : List ByteArray × Bool := match uz n with | some l => (l, true) | none => ([], false)
theorem K5 (k : Nat) (hk : 600 ≤ k) (n : ByteArray) (hs : n.size ≤ 1000000000) : bN.f k n = some (Ba n) := by
  unfold bN.f Ba uz
  by_cases h : n.size ≤ 255
  · rw [if_neg (by omega), if_pos h]
    by_cases h0 : n.size = 0
    · obtain ⟨k, rfl⟩ : ∃ m, k = m + 2 := ⟨k - 2, by omega⟩
      have hb2 : (n.toList == ([0] : List UInt8)) = false := beq_eq_false_iff_ne.mpr fun h => by rw [mG] at h; rw [h, kL] at h0; omega
      rw [bN.l0, if_neg (by omega), bN.j1, if_neg Bool.false_ne_true, hb2, jK, if_pos h0]
    · rw [K4 255 k n [] h (by omega) (by omega) (by simp) (by omega), xI 255 n h]
      simp
  · rw [if_pos (by omega), if_neg h]
theorem ET (n : ByteArray) : (Ba n).2 = jC n := by
  unfold Ba jC
  cases uz n <;> rfl
theorem Dv (k : Nat) (hk : 600 ≤ k) (n : ByteArray) (hs : n.size ≤ 1000000000) : iJ.f k n = some (jC n) := by
  unfold iJ.f
  rw [K5 k hk n hs]
  simp only [Option.bind_some, ET]
theorem Tt (n : ByteArray) (hs : n.size ≤ 1000000000) : iP.f n = some (nX n) := by unfold iP.f; rw [if_pos (by omega)]
theorem K6 (n : ByteArray) (hs : n.size ≤ 1000000000) : cu.f n = some (nX n) := by unfold cu.f; rw [if_pos (by omega)]
theorem xM (a b : ByteArray) : (a.toList == b.toList) = decide (a = b) := by
  rw [Bool.eq_iff_iff]
  simp only [beq_iff_eq, decide_eq_true_eq]
  exact toList_inj
theorem K7 (n : ByteArray) : n.extract 0 n.size = n := ByteArray.extract_zero_size
theorem Il (d : Nat) : ∀ (k : Nat) (n : ByteArray) (i : Nat) (acc : List ByteArray), i < n.size → n.size - i ≤ d → n.size ≤ 255 → acc.length + d ≤ 1000 → d + 2 ≤ k →
    ∃ o, aN.l0 k n acc i = some o ∧ (match jK (n.extract i n.size).size (n.extract i n.size) with | some l => o = (acc ++ l, true) | none => o.2 = false) := by
  induction d with
  | zero => intro k n i acc h1 h2; omega
  | succ d ih =>
    intro k n i acc h1 h2 h3 h4 hk
    obtain ⟨k, rfl⟩ : ∃ m, k = m + 1 := ⟨k - 1, by omega⟩
    have hz : (n.extract i n.size).size = n.size - i := by rw [ByteArray.size_extract]; omega
    have hb : bt (n.extract i n.size) 0 = bt n i := by
      rw [lY (by omega) (by rw [hz]; omega)]
      congr 1
    have hbr := gq n i
    rw [aN.l0, if_pos (by omega), if_pos (by omega), xJ (by rw [hz]; omega), hb, dO (n := bt n i) (by omega) (by omega)]
    by_cases c0 : bt n i = 0
    · rw [if_pos c0]
      refine ⟨_, rfl, ?_⟩
      by_cases hr : n.extract i n.size = root
      · have h5 := congrArg ByteArray.size hr
        rw [hz, kL] at h5
        rw [if_pos hr, dO (by omega) (by omega)]
        have : (i : Int) = (n.size : Int) - 1 := by omega
        simp [this]
      · have h5 : n.size - i ≠ 1 := by
          intro h6
          refine hr (EN (by rw [hz, kL]; exact h6) fun j j0 j1 => ?_)
          rw [hz] at j1
          have : j = 0 := by omega
          subst this
          rw [hb, c0, F6]
        rw [if_neg hr, if_neg (by omega), dO (by omega) (by omega)]
        simp
        omega
    · have hr : n.extract i n.size ≠ root := by
        intro h5
        rw [h5, F6] at hb
        exact c0 hb.symm
      rw [if_neg c0, if_neg hr]
      by_cases c2 : bt n i > 63
      · rw [if_pos c2, if_neg (by omega)]
        exact ⟨_, rfl, rfl⟩
      · rw [if_neg c2, dO (n := (n.size : Int) - i) (by omega) (by omega)]
        by_cases c3 : bt n i ≥ (n.size : Int) - i
        · rw [if_pos c3, if_neg (by rw [hz]; omega)]
          exact ⟨_, rfl, rfl⟩
        · rw [if_neg c3, dO (n := (i : Int) + 1) (by omega) (by omega), dO (n := (i : Int) + 1 + bt n i) (by omega) (by omega), if_pos (by omega), if_pos (by omega), if_pos (by omega), if_pos (by omega)]
          have e : ((i : Int) + 1 + bt n i) = ((i + 1 + (bt n i).toNat : Nat) : Int) := by omega
          have e1 : ((i : Int) + 1).toNat = i + 1 := by omega
          rw [e, e1, Int.toNat_natCast]
          by_cases c4 : i + 1 + (bt n i).toNat < n.size
          · obtain ⟨o, ho, hm⟩ := ih k n (i + 1 + (bt n i).toNat) (acc ++ [n.extract (i + 1) (i + 1 + (bt n i).toNat)]) (by omega) (by omega) h3 (by simp; omega) (by omega)
            refine ⟨o, ho, ?_⟩
            rw [if_pos (by rw [hz]; omega)]
            have x1 : (n.extract i n.size).extract 1 (1 + (bt n i).toNat) = n.extract (i + 1) (i + 1 + (bt n i).toNat) := by
              rw [ByteArray.extract_extract]; congr 1; omega
            have x2 : (n.extract i n.size).extract (1 + (bt n i).toNat) (n.extract i n.size).size = n.extract (i + 1 + (bt n i).toNat) n.size := by
              rw [hz, ByteArray.extract_extract]; congr 1 <;> omega
            rw [x1, x2]
            cases hl : jK (n.extract (i + 1 + (bt n i).toNat) n.size).size (n.extract (i + 1 + (bt n i).toNat) n.size) with
            | none => rw [hl] at hm; simpa using hm
            | some l => rw [hl] at hm; simpa using hm
          · obtain ⟨k, rfl⟩ : ∃ m, k = m + 1 := ⟨k - 1, by omega⟩
            rw [if_neg (by rw [hz]; omega), aN.l0, if_neg (by omega)]
            exact ⟨_, rfl, rfl⟩
theorem Im (k : Nat) (hk : 600 ≤ k) (n : ByteArray) (hs : n.size ≤ 1000000000) :
    ∃ o, aN.f k n = some o ∧ (match uz n with | some l => o = (l, true) | none => o.2 = false) := by
  obtain ⟨k, rfl⟩ : ∃ m, k = m + 1 := ⟨k - 1, by omega⟩
  unfold aN.f uz
  by_cases h0 : n.size = 0
  · rw [if_pos (by omega), aN.j0, if_pos rfl, if_pos (by omega), jK, if_pos h0]
    exact ⟨_, rfl, rfl⟩
  · rw [if_neg (by omega)]
    by_cases h : n.size ≤ 255
    · have hd : decide ((n.size : Int) > 255) = false := decide_eq_false (by omega)
      rw [hd, aN.j0, if_neg Bool.false_ne_true, if_pos h, xI 255 n h]
      have := Il 255 k n 0 [] (by omega) (by omega) h (by simp) (by omega)
      rw [K7] at this
      simpa using this
    · have hd : decide ((n.size : Int) > 255) = true := decide_eq_true (by omega)
      rw [hd, aN.j0, if_pos rfl, if_neg h]
      exact ⟨_, rfl, rfl⟩
theorem sW (k : Nat) (hk : 600 ≤ k) (n : ByteArray) (hs : n.size ≤ 1000000000) : dx.f k n = some (jC n) := by
  obtain ⟨o, ho, hm⟩ := Im k hk n hs
  unfold dx.f jC
  rw [ho]
  simp only [Option.bind_some]
  cases hl : uz n with
  | none => rw [hl] at hm; simpa using hm
  | some l => rw [hl] at hm; simp at hm; rw [hm]; rfl
end Go.Proofs.Ytdkkgecdhapfhaa.ZQ
namespace Go.Proofs.Ytdkkgecdhapfhaa.ZQ
open Go.RowKit Go.Proofs.YtdkkgecdhapfhaaW.bD Go.Proofs.YtdkkgecdhapfhaaW.dV Go.Proofs.YtdkkgecdhapfhaaW.eD
attribute [local go_sem] ji jk j4 j5 iA iB jl jm
def eP.f (a0 : ByteArray) (a1 : Int) (a2 : Int) : Option (ByteArray × Bool) :=
  if (a0.size : Int) ≤ 9223372036854775807 then
    (if 0 ≤ a1 ∧ 0 ≤ a2 ∧ a1 + a2 ≤ (a0.size : Int) then some (a0.extract a1.toNat (a1 + a2).toNat, true) else some ((⟨#[]⟩ : ByteArray), false))
  else none
theorem eP.mid (s : ByteArray) (a b : Int) (h0 : 0 ≤ a) (h1 : 0 ≤ b) (h2 : a + b ≤ (s.size : Int)) :
    (s.extract a.toNat s.size).extract 0 b.toNat = s.extract a.toNat (a + b).toNat := by
  rw [ByteArray.extract_extract]
  congr 1
  omega
set_option maxHeartbeats 8000000 in
set_option maxRecDepth 100000 in
theorem eP.calls (a0 : ByteArray) (a1 : Int) (a2 : Int) (r1 : ByteArray) (r2 : Bool) (w : World) (h : eP.f a0 a1 a2 = some (r1, r2)) :
    Calls Try.prog 97 #[.string a0, .int .i64 a1, .int .i64 a2] w fun e w' => e = .returned (.tuple #[.string r1, .bool r2]) ∧ aY w w' := by
  unfold eP.f at h
  by_cases hs : (a0.size : Int) ≤ 9223372036854775807
  · rw [if_pos hs] at h
    by_cases hc : 0 ≤ a1 ∧ 0 ≤ a2 ∧ a1 + a2 ≤ (a0.size : Int)
    · rw [if_pos hc] at h
      simp only [Option.some.injEq, Prod.mk.injEq] at h
      obtain ⟨rfl, rfl⟩ := h
      obtain ⟨h0, h1, h2⟩ := hc
      have hw : wrap64 ((a0.size : Int) - a1) = (a0.size : Int) - a1 := by unfold wrap64; omega
      have hm := aj.mk (eP.mid a0 a1 a2 h0 h1 h2)
      have c1 : decide (a1 < 0) = false := decide_eq_false (by omega)
      have c2 : decide (a2 < 0) = false := decide_eq_false (by omega)
      have c3 : decide ((a0.size : Int) < a1) = false := decide_eq_false (by omega)
      have c4 : decide (wrap64 ((a0.size : Int) - a1) < a2) = false := decide_eq_false (by omega)
      have c5 := eq_true h0
      have c6 : (a1 ≤ (a0.size : Int)) = True := eq_true (by omega)
      have c7 := eq_true h1
      have c8 : (a2 ≤ ((a0.extract a1.toNat a0.size).size : Int)) = True := eq_true (by simp only [ByteArray.size_extract]; omega)
      have c9 : (a2 ≤ (a0.size : Int) - (a1.toNat : Int)) = True := eq_true (by omega)
      have c10 : (a2 ≤ ((a0.size - a1.toNat : Nat) : Int)) = True := eq_true (by omega)
      clear hs hw h0 h1 h2
      go_enter Try.func97, Try.ntmps97
      go_wp2
      go_ret2
      exact ⟨by rw [hm.out]; rfl, by repeat (first | exact aY.refl _ | apply aY.step)⟩
    · rw [if_neg hc] at h
      simp only [Option.some.injEq, Prod.mk.injEq] at h
      obtain ⟨rfl, rfl⟩ := h
      by_cases c1 : a1 < 0
      · have c1' : decide (a1 < 0) = true := decide_eq_true c1
        clear hs hc c1
        go_enter Try.func97, Try.ntmps97
        go_wp2
        go_ret2
        exact ⟨rfl, by repeat (first | exact aY.refl _ | apply aY.step)⟩
      · by_cases c2 : a2 < 0
        · have c1' : decide (a1 < 0) = false := decide_eq_false c1
          have c2' : decide (a2 < 0) = true := decide_eq_true c2
          clear hs hc c1 c2
          go_enter Try.func97, Try.ntmps97
          go_wp2
          go_ret2
          exact ⟨rfl, by repeat (first | exact aY.refl _ | apply aY.step)⟩
        · by_cases c3 : (a0.size : Int) < a1
          · have c1' : decide (a1 < 0) = false := decide_eq_false c1
            have c2' : decide (a2 < 0) = false := decide_eq_false c2
            have c3' : decide ((a0.size : Int) < a1) = true := decide_eq_true c3
            clear hs hc c1 c2 c3
            go_enter Try.func97, Try.ntmps97
            go_wp2
            go_ret2
            exact ⟨rfl, by repeat (first | exact aY.refl _ | apply aY.step)⟩
          · have hw : wrap64 ((a0.size : Int) - a1) = (a0.size : Int) - a1 := by unfold wrap64; omega
            have c1' : decide (a1 < 0) = false := decide_eq_false c1
            have c2' : decide (a2 < 0) = false := decide_eq_false c2
            have c3' : decide ((a0.size : Int) < a1) = false := decide_eq_false c3
            have c4' : decide (wrap64 ((a0.size : Int) - a1) < a2) = true := decide_eq_true (by omega)
            clear hs hc c1 c2 c3 hw
            go_enter Try.func97, Try.ntmps97
            go_wp2
            go_ret2
            exact ⟨rfl, by repeat (first | exact aY.refl _ | apply aY.step)⟩
  · rw [if_neg hs] at h
    exact absurd h (by simp)
def gu.f (a0 : Int) : Option (Bool) := if a0 ≥ 1 then (some (decide (a0 ≤ 4))) else (some false)
set_option maxHeartbeats 8000000 in
set_option maxRecDepth 100000 in
theorem gu.calls (a0 : Int) (r : Bool) (w : World) (h : gu.f a0 = some r) :
    Calls Try.prog 98 #[.int .i64 a0] w fun e w' => e = .returned (.bool r) ∧ aY w w' := by
  have H : (if a0 ≥ 1 then (some (decide (a0 ≤ 4))) else (some false)) = some r := h
  clear h
  by_cases c2 : a0 ≥ 1
  · rw [if_pos c2] at H
    have vD : decide (1 ≤ a0) = true := decide_eq_true c2
    clear c2
    obtain rfl := Option.some.inj H
    go_enter Try.func98, Try.ntmps98
    go_wp2
    go_ret
    exact ⟨by first | rfl | (simp; done) | (simp [*]; done), by repeat (first | exact aY.refl _ | apply aY.step)⟩
  · rw [if_neg c2] at H
    have vD : decide (1 ≤ a0) = false := decide_eq_false c2
    clear c2
    obtain rfl := Option.some.inj H
    go_enter Try.func98, Try.ntmps98
    go_wp2
    go_ret
    exact ⟨by first | rfl | (simp; done) | (simp [*]; done), by repeat (first | exact aY.refl _ | apply aY.step)⟩
mutual
def bq.j0 : Nat → Int → ByteArray → Bool → Option (Int × Bool)
  | 0, _, _, _ => none
  | k + 1, x2, x8, x25 => if x25 = true then (some (0, false)) else (bq.l0 k x8 0 x2 0)
def bq.l0 : Nat → ByteArray → Int → Int → Int → Option (Int × Bool)
  | 0, _, _, _, _ => none
  | k + 1, x8, x10, x26, x27 => if x27 < x26 then (if 0 ≤ x27 then (if x27 < (x8.size : Int) then (bq.l0 k x8 (Go.bits .or .i64 (wrap64 (x10 * 256)) (wrap64 (bt x8 x27))) x26 (wrap64 (x27 + 1))) else (none)) else (none)) else (some (x10, true))
end
def bq.f (k : Nat) (a0 : ByteArray) (a1 : Int) (a2 : Int) : Option (Int × Bool) := (eP.f a0 a1 a2).bind fun xO => (if xO.2 = true then ((gu.f a2).bind fun xP => (bq.j0 k a2 xO.1 (!xP))) else (bq.j0 k a2 xO.1 true))
theorem bq.xQ : ∀ k, (∀ y0 y1 y2, kN (bq.j0 k y0 y1 y2) (bq.j0 (k + 1) y0 y1 y2)) ∧ (∀ y0 y1 y2 y3, kN (bq.l0 k y0 y1 y2 y3) (bq.l0 (k + 1) y0 y1 y2 y3))
  | 0 => ⟨fun _ _ _ r h => by simp [bq.j0] at h, fun _ _ _ _ r h => by simp [bq.l0] at h⟩
  | k + 1 => by
    obtain ⟨Tv, ih1⟩ := bq.xQ k
    refine ⟨?_, ?_⟩
    · intro y0 y1 y2
      unfold bq.j0
      repeat' first
      | (with_reducible exact Tv _ _ _)
      | (with_reducible exact ih1 _ _ _ _)
      | (with_reducible exact kN.refl _)
      | (with_reducible exact kN.none _)
      | (with_reducible refine kN.ite ?_ ?_)
      | (with_reducible refine kN.bind ?_ (fun _ => ?_))
      | exact Tv _ _ _
      | exact ih1 _ _ _ _
      | exact kN.none _
      | refine kN.ite ?_ ?_
      | refine kN.bind ?_ (fun _ => ?_)
    · intro y0 y1 y2 y3
      unfold bq.l0
      repeat' first
      | (with_reducible exact Tv _ _ _)
      | (with_reducible exact ih1 _ _ _ _)
      | (with_reducible exact kN.refl _)
      | (with_reducible exact kN.none _)
      | (with_reducible refine kN.ite ?_ ?_)
      | (with_reducible refine kN.bind ?_ (fun _ => ?_))
      | exact Tv _ _ _
      | exact ih1 _ _ _ _
      | exact kN.none _
      | refine kN.ite ?_ ?_
      | refine kN.bind ?_ (fun _ => ?_)
theorem bq.mono : ∀ a0 a1 a2 k, kN (bq.f k a0 a1 a2) (bq.f (k + 1) a0 a1 a2) := by
  intro a0 a1 a2 k
  obtain ⟨Tv, ih1⟩ := bq.xQ k
  unfold bq.f
  repeat' first
      | (with_reducible exact Tv _ _ _)
      | (with_reducible exact ih1 _ _ _ _)
      | (with_reducible exact kN.refl _)
      | (with_reducible exact kN.none _)
      | (with_reducible refine kN.ite ?_ ?_)
      | (with_reducible refine kN.bind ?_ (fun _ => ?_))
      | exact Tv _ _ _
      | exact ih1 _ _ _ _
      | exact kN.none _
      | refine kN.ite ?_ ?_
      | refine kN.bind ?_ (fun _ => ?_)
set_option maxHeartbeats 8000000 in
set_option maxRecDepth 100000 in
theorem bq.calls (k : Nat) (a0 : ByteArray) (a1 : Int) (a2 : Int) (r1 : Int) (r2 : Bool) (w : World) (h : bq.f k a0 a1 a2 = some (r1, r2)) :
    Calls Try.prog 74 #[.string a0, .int .i64 a1, .int .i64 a2] w fun e w' => e = .returned (.tuple #[.int .i64 r1, .bool r2]) ∧ aY w w' := by
  have H : ((eP.f a0 a1 a2).bind fun xO => (if xO.2 = true then ((gu.f a2).bind fun xP => (bq.j0 k a2 xO.1 (!xP))) else (bq.j0 k a2 xO.1 true))) = some (r1, r2) := h
  clear h
  replace H := zbm H
  obtain ⟨⟨t119, Tw⟩, Dr, H⟩ := H
  replace H : (if Tw = true then ((gu.f a2).bind fun xP => (bq.j0 k a2 t119 (!xP))) else (bq.j0 k a2 t119 true)) = some (r1, r2) := H
  have A4 := aj.mk Dr
  clear Dr
  have Tx := aj.mk H
  clear H
  go_enter Try.func74, Try.ntmps74
  go_upto_region 2 with (first | ((with_reducible refine aQ (f := 97) rfl ?_); refine bP (some 16) rfl rfl Try.func97 (by kernel_rfl) rfl #[.string a0, .int .i64 a1, .int .i64 a2] rfl (by (try simp only [List.map_toArray, List.map_cons, List.map_nil]); first | done | rfl | (simp only [List.length_drop, List.length_take]; rfl) | (simp only [ByteArray.size_append, Int.natCast_add]; rfl) | (rw [B.dO] <;> first | rfl | omega | (simp only [decide_eq_false_iff_not, decide_eq_true_eq, Int.not_lt, Nat.not_lt, gt_iff_lt] at * <;> omega))) ?_; (with_reducible refine (eP.calls a0 a1 a2 t119 Tw _ A4.out).mono ?_); rintro e w' ⟨rfl, ⟨nd, rfl⟩⟩; refine ⟨_, rfl, ?_⟩))
  (try simp only [Act.put, List.setIfInBounds_toArray, List.set_cons_zero, List.set_cons_succ])
  go_cut [25] (fun v25 wc => ∃ (kq : Nat) (Gg : Bool), v25 = .bool Gg ∧ aj (bq.j0 kq a2 t119 Gg = some (r1, r2)) ∧ aj (kq ≤ k) ∧ aY w wc)
  case first =>
    have H := Tx.out
    clear Tx
    by_cases c6 : Tw = true
    · subst c6
      have H1 : ((gu.f a2).bind fun xP => (bq.j0 k a2 t119 (!xP))) = some (r1, r2) := by rw [if_pos rfl] at H; exact H
      clear H
      have H := H1
      clear H1
      replace H := zbm H
      obtain ⟨xP, XU, H⟩ := H
      replace H : (bq.j0 k a2 t119 (!xP)) = some (r1, r2) := H
      have A7 := aj.mk XU
      clear XU
      have H' := aj.mk H
      clear H
      go_wp2_with (first | (go_at_call 98; (with_reducible refine (gu.calls a2 xP _ A7.out).mono ?_); rintro e w' ⟨rfl, ⟨nd, rfl⟩⟩))
      go_meet
      case rel => exact ⟨_, (!xP), (by first | rfl | (simp; done) | (simp [*]; done) | (simp [B.aV]; done) | (simp [B.aW]; done)), H', ⟨by first | omega | exact Nat.le_refl _⟩, by repeat (first | exact aY.refl _ | apply aY.step)⟩
    · replace c6 := Bool.eq_false_iff.mpr c6
      subst c6
      have H1 : (bq.j0 k a2 t119 true) = some (r1, r2) := by rw [if_neg (show ¬ (false = true) by decide)] at H; exact H
      clear H
      have H := H1
      clear H1
      have H' := aj.mk H
      clear H
      go_wp2
      go_meet
      case rel => exact ⟨_, (true), (by first | rfl | (simp; done) | (simp [*]; done) | (simp [B.aV]; done) | (simp [B.aW]; done)), H', ⟨by first | omega | exact Nat.le_refl _⟩, by repeat (first | exact aY.refl _ | apply aY.step)⟩
  case rest =>
    clear Tx
    try clear p2
    try clear c6
    try clear c7
    obtain ⟨kq, Gg, rfl, HA, XV, ⟨mc4, rfl⟩⟩ := hcut
    cases kq with
    | zero => exact absurd HA.out (by simp [bq.j0])
    | succ Tz =>
      have H := HA.out
      clear HA
      simp only [bq.j0] at H
      by_cases c8 : Gg = true
      · subst c8
        have H1 : (some (0, false)) = some (r1, r2) := by rw [if_pos rfl] at H; exact H
        clear H
        have H := H1
        clear H1
        simp only [Option.some.injEq, Prod.mk.injEq] at H
        obtain ⟨rfl, rfl⟩ := H
        go_wp2
        go_ret2
        exact ⟨by first | rfl | (simp; done) | (simp [*]; done), by repeat (first | exact aY.refl _ | apply aY.step)⟩
      · replace c8 := Bool.eq_false_iff.mpr c8
        subst c8
        have H1 : (bq.l0 Tz t119 0 a2 0) = some (r1, r2) := by rw [if_neg (show ¬ (false = true) by decide)] at H; exact H
        clear H
        have H := H1
        clear H1
        have H' := aj.mk H
        clear H
        go_wp2
        go_loopg [10, 27] Tz (fun kq v10 v27 w' => ∃ (sZ : Int) (l6 : Int), v10 = .int .i64 sZ ∧ v27 = .int .i64 l6 ∧ aj (bq.l0 kq t119 sZ a2 l6 = some (r1, r2)) ∧ aj (kq ≤ Tz) ∧ aY w w')
        case atStart => exact ⟨(0), (0), (by first | rfl | (simp; done) | (simp [*]; done) | (simp [B.aV]; done) | (simp [B.aW]; done)), (by first | rfl | (simp; done) | (simp [*]; done) | (simp [B.aV]; done) | (simp [B.aW]; done)), H', ⟨Nat.le_refl _⟩, by repeat (first | exact aY.refl _ | apply aY.step)⟩
        case round =>
          clear H'
          try clear p2
          try clear c4
          try clear c6
          try clear c7
          try clear c8
          try clear p2
          obtain ⟨sZ, l6, rfl, rfl, HA, Qw, ⟨m2, rfl⟩⟩ := hrel
          cases gk with
          | zero => exact absurd HA.out (by simp [bq.l0])
          | succ k2 =>
            have H := HA.out
            clear HA
            simp only [bq.l0] at H
            by_cases c9 : l6 < a2
            · rw [if_pos c9] at H
              have sS : decide (l6 < a2) = true := decide_eq_true c9
              clear c9
              by_cases c10 : 0 ≤ l6
              · rw [if_pos c10] at H
                have qG : decide (0 ≤ l6) = true := decide_eq_true c10
                clear c10
                by_cases c11 : l6 < (t119.size : Int)
                · rw [if_pos c11] at H
                  have KU : decide (l6 < (t119.size : Int)) = true := decide_eq_true c11
                  clear c11
                  have H' := aj.mk H
                  clear H
                  have XW : 0 ≤ (l6 : Int) := of_decide_eq_true (by first | (with_reducible assumption) | assumption)
                  have XY : l6 < (t119.size : Int) := of_decide_eq_true (by first | (with_reducible assumption) | assumption)
                  have adz := ny t119 l6
                  replace XW := eq_true XW
                  replace XY := eq_true XY
                  go_wp2
                  go_roundg k2
                  case measure => have := XV.out; have := Qw.out; omega
                  case rel => exact ⟨(Go.bits .or .i64 (wrap64 (sZ * 256)) (wrap64 (bt t119 l6))), (wrap64 (l6 + 1)), (by first | rfl | (simp; done) | (simp [*]; done) | (simp [B.aV]; done) | (simp [B.aW]; done)), (by first | rfl | (simp; done) | (simp [*]; done) | (simp [B.aV]; done) | (simp [B.aW]; done)), H', ⟨by have := XV.out; have := Qw.out; omega⟩, by repeat (first | exact aY.refl _ | apply aY.step)⟩
                · rw [if_neg c11] at H
                  exact absurd H (by simp)
              · rw [if_neg c10] at H
                exact absurd H (by simp)
            · rw [if_neg c9] at H
              have sS : decide (l6 < a2) = false := decide_eq_false c9
              clear c9
              simp only [Option.some.injEq, Prod.mk.injEq] at H
              obtain ⟨rfl, rfl⟩ := H
              go_wp2
              go_ret2
              exact ⟨by first | rfl | (simp; done) | (simp [*]; done), by repeat (first | exact aY.refl _ | apply aY.step)⟩
end Go.Proofs.Ytdkkgecdhapfhaa.ZQ
namespace Go.Proofs.Ytdkkgecdhapfhaa.ZQ
open Go.RowKit Go.Proofs.YtdkkgecdhapfhaaW.bD Go.Proofs.YtdkkgecdhapfhaaW.dV Go.Proofs.YtdkkgecdhapfhaaW.eD Go.Proofs.Ytdkkgecdhapfhaa.B
def XZ : Nat → Int → List Int
  | 0, _ => []
  | s + 1, n => n / 256 ^ s % 256 :: XZ s n
def K8 (n size : Int) : Prop := 1 ≤ size ∧ size ≤ 4 ∧ 0 ≤ n ∧ n < 256 ^ size.toNat
instance (n size : Int) : Decidable (K8 n size) := by unfold K8; infer_instance
def adA (n size : Int) : ByteArray := if K8 n size then strOfNums (XZ size.toNat n) else ⟨#[]⟩
def gP (s : ByteArray) (i n : Int) : Prop := 0 ≤ i ∧ 0 ≤ n ∧ i + n ≤ (s.size : Int)
instance (s : ByteArray) (i n : Int) : Decidable (gP s i n) := by unfold gP; infer_instance
def ig : Nat → ByteArray → Int → Int
  | 0, _, _ => 0
  | k + 1, s, i => ig k s i * 256 + bt s (i + k)
def j6 (s : ByteArray) (i n : Int) : Prop := 0 ≤ i ∧ 1 ≤ n ∧ n ≤ 4 ∧ i + n ≤ (s.size : Int)
instance (s : ByteArray) (i n : Int) : Decidable (j6 s i n) := by unfold j6; infer_instance
theorem tq (s : ByteArray) (i n : Int) (hs : s.size ≤ 9223372036854775807) :
    eP.f s i n = some (if gP s i n then (s.extract i.toNat (i + n).toNat, true) else (⟨#[]⟩, false)) := by
  unfold eP.f gP
  rw [if_pos (by omega)]
  split <;> rename_i h <;> simp [h]
theorem kP (x b : Int) (hx0 : 0 ≤ x) (hx : x < 16777216) (hb0 : 0 ≤ b) (hb : b ≤ 255) : Go.bits .or .i64 (wrap64 (x * 256)) (wrap64 b) = x * 256 + b := by
  rw [dO (by omega) (by omega), dO (by omega) (by omega)]
  refine Go.bits_join .i64 62 (by decide) ?_ 8 (x * 256) b (by omega) (by omega) (by omega) hb0 (by omega) (by omega)
  intro n h0 h1
  rw [IntKind.wrap_i64]
  omega
theorem get_eq (k : Nat) (hk : 9 ≤ k) (s : ByteArray) (i n : Int) (hs : s.size ≤ 9223372036854775807) :
    bq.f k s i n = some (if j6 s i n then (ig n.toNat s i, true) else (0, false)) := by
  refine uw (fun k => bq.mono s i n k) hk ?_
  unfold bq.f
  rw [tq s i n hs]
  by_cases ht : gP s i n
  · rw [if_pos ht]
    simp only [Option.bind_some, if_true]
    obtain ⟨h0, h1, h2⟩ := ht
    by_cases hz : 1 ≤ n ∧ n ≤ 4
    · have hf : gu.f n = some true := by unfold gu.f; rw [if_pos (by omega)]; simp; omega
      rw [if_pos (show j6 s i n from ⟨h0, hz.1, hz.2, h2⟩), hf]
      have hz' := size_ext h0 h1 h2
      have hb : ∀ j, 0 ≤ j → j < n → bt (s.extract i.toNat (i + n).toNat) j = bt s (i + j) := fun j a b => KJ h0 a b h2
      have e0 := hb 0
      have e1 := hb 1
      have e2 := hb 2
      have e3 := hb 3
      have r0 := gq s (i + 0)
      have r1 := gq s (i + 1)
      have r2 := gq s (i + 2)
      have r3 := gq s (i + 3)
      generalize s.extract i.toNat (i + n).toNat = t at *
      clear hb
      obtain ⟨hz1, hz4⟩ := hz
      have hn : n = 1 ∨ n = 2 ∨ n = 3 ∨ n = 4 := by omega
      have y0 : wrap64 (0 + 1) = 1 := dO (by omega) (by omega)
      have y1 : wrap64 (1 + 1) = 2 := dO (by omega) (by omega)
      have y2 : wrap64 (2 + 1) = 3 := dO (by omega) (by omega)
      have y3 : wrap64 (3 + 1) = 4 := dO (by omega) (by omega)
      rcases hn with rfl | rfl | rfl | rfl
      · have o0 := kP 0 (bt s (i + 0)) (by omega) (by omega) r0.1 r0.2
        simp only [bq.j0, bq.l0, Option.bind_some, Bool.not_true, Bool.false_eq_true, if_false, hz', e0 (by omega) (by omega), o0, y0]
        simp [ig]
      · have o0 := kP 0 (bt s (i + 0)) (by omega) (by omega) r0.1 r0.2
        have o1 := kP (0 * 256 + bt s (i + 0)) (bt s (i + 1)) (by omega) (by omega) r1.1 r1.2
        simp only [bq.j0, bq.l0, Option.bind_some, Bool.not_true, Bool.false_eq_true, if_false, hz', e0 (by omega) (by omega), e1 (by omega) (by omega), o0, o1, y0, y1]
        simp [ig]
      · have o0 := kP 0 (bt s (i + 0)) (by omega) (by omega) r0.1 r0.2
        have o1 := kP (0 * 256 + bt s (i + 0)) (bt s (i + 1)) (by omega) (by omega) r1.1 r1.2
        have o2 := kP ((0 * 256 + bt s (i + 0)) * 256 + bt s (i + 1)) (bt s (i + 2)) (by omega) (by omega) r2.1 r2.2
        simp only [bq.j0, bq.l0, Option.bind_some, Bool.not_true, Bool.false_eq_true, if_false, hz', e0 (by omega) (by omega), e1 (by omega) (by omega), e2 (by omega) (by omega), o0, o1, o2, y0, y1, y2]
        simp [ig]
      · have o0 := kP 0 (bt s (i + 0)) (by omega) (by omega) r0.1 r0.2
        have o1 := kP (0 * 256 + bt s (i + 0)) (bt s (i + 1)) (by omega) (by omega) r1.1 r1.2
        have o2 := kP ((0 * 256 + bt s (i + 0)) * 256 + bt s (i + 1)) (bt s (i + 2)) (by omega) (by omega) r2.1 r2.2
        have o3 := kP (((0 * 256 + bt s (i + 0)) * 256 + bt s (i + 1)) * 256 + bt s (i + 2)) (bt s (i + 3)) (by omega) (by omega) r3.1 r3.2
        simp only [bq.j0, bq.l0, Option.bind_some, Bool.not_true, Bool.false_eq_true, if_false, hz', e0 (by omega) (by omega), e1 (by omega) (by omega), e2 (by omega) (by omega), e3 (by omega) (by omega), o0, o1, o2, o3, y0, y1, y2, y3]
        simp [ig]
    · have hf : gu.f n = some false := by
        unfold gu.f
        by_cases h2 : 1 ≤ n
        · rw [if_pos (by omega)]; simp; omega
        · rw [if_neg (by omega)]
      rw [if_neg (show ¬ j6 s i n from fun h => hz ⟨h.2.1, h.2.2.1⟩), hf]
      simp [bq.j0]
  · rw [if_neg ht, if_neg (show ¬ j6 s i n from fun h => ht ⟨h.1, by have := h.2.1; omega, h.2.2.2⟩)]
    simp [bq.j0]
theorem Dw (s : ByteArray) (i : Int) : ig 1 s i = bt s i := by simp [ig]
theorem EU (k : Nat) (s t : ByteArray) (i j : Int) (h : ∀ m : Nat, m < k → bt s (i + m) = bt t (j + m)) : ig k s i = ig k t j := by
  induction k with
  | zero => rfl
  | succ k ih => simp only [ig]; rw [ih fun m hm => h m (by omega), h k (by omega)]
theorem qX (k : Nat) (s : ByteArray) (i : Int) : 0 ≤ ig k s i ∧ ig k s i < 256 ^ k := by
  induction k with
  | zero => simp [ig]
  | succ k ih =>
    have := gq s (i + k)
    simp only [ig]
    rw [Int.pow_succ]
    omega
end Go.Proofs.Ytdkkgecdhapfhaa.ZQ
namespace Go.Proofs.Ytdkkgecdhapfhaa.ZQ
open Go.RowKit Go.Proofs.YtdkkgecdhapfhaaW.bD Go.Proofs.YtdkkgecdhapfhaaW.dV Go.Proofs.YtdkkgecdhapfhaaW.eD
attribute [local go_sem] ji jk j4 j5 iA iB jl jm
def bC.f (a0 : ByteArray) (a1 : Int) (a2 : Int) : Option (ByteArray × Bool) := if a1 < 0 then (some ((⟨#[]⟩ : ByteArray), false)) else (if a2 < 0 then (some ((⟨#[]⟩ : ByteArray), false)) else (if a1 > (a0.size : Int) then (some ((⟨#[]⟩ : ByteArray), false)) else (if a2 > (wrap64 ((a0.size : Int) - a1)) then (some ((⟨#[]⟩ : ByteArray), false)) else (if 0 ≤ a1 then (if a1 ≤ (wrap64 (a1 + a2)) then (if (wrap64 (a1 + a2)) ≤ (a0.size : Int) then (some (a0.extract (a1 : Int).toNat ((wrap64 (a1 + a2)) : Int).toNat, true)) else (none)) else (none)) else (none)))))
set_option maxHeartbeats 8000000 in
set_option maxRecDepth 100000 in
theorem bC.calls (a0 : ByteArray) (a1 : Int) (a2 : Int) (r1 : ByteArray) (r2 : Bool) (w : World) (h : bC.f a0 a1 a2 = some (r1, r2)) :
    Calls Try.prog 99 #[.string a0, .int .i64 a1, .int .i64 a2] w fun e w' => e = .returned (.tuple #[.string r1, .bool r2]) ∧ aY w w' := by
  have H : (if a1 < 0 then (some ((⟨#[]⟩ : ByteArray), false)) else (if a2 < 0 then (some ((⟨#[]⟩ : ByteArray), false)) else (if a1 > (a0.size : Int) then (some ((⟨#[]⟩ : ByteArray), false)) else (if a2 > (wrap64 ((a0.size : Int) - a1)) then (some ((⟨#[]⟩ : ByteArray), false)) else (if 0 ≤ a1 then (if a1 ≤ (wrap64 (a1 + a2)) then (if (wrap64 (a1 + a2)) ≤ (a0.size : Int) then (some (a0.extract (a1 : Int).toNat ((wrap64 (a1 + a2)) : Int).toNat, true)) else (none)) else (none)) else (none)))))) = some (r1, r2) := h
  clear h
  by_cases c4 : a1 < 0
  · rw [if_pos c4] at H
    have qm : decide (a1 < 0) = true := decide_eq_true c4
    clear c4
    simp only [Option.some.injEq, Prod.mk.injEq] at H
    obtain ⟨rfl, rfl⟩ := H
    go_enter Try.func99, Try.ntmps99
    go_wp2
    go_ret2
    exact ⟨by first | rfl | (simp; done) | (simp [*]; done), by repeat (first | exact aY.refl _ | apply aY.step)⟩
  · rw [if_neg c4] at H
    have qm : decide (a1 < 0) = false := decide_eq_false c4
    clear c4
    by_cases c5 : a2 < 0
    · rw [if_pos c5] at H
      have oN : decide (a2 < 0) = true := decide_eq_true c5
      clear c5
      simp only [Option.some.injEq, Prod.mk.injEq] at H
      obtain ⟨rfl, rfl⟩ := H
      go_enter Try.func99, Try.ntmps99
      go_wp2
      go_ret2
      exact ⟨by first | rfl | (simp; done) | (simp [*]; done), by repeat (first | exact aY.refl _ | apply aY.step)⟩
    · rw [if_neg c5] at H
      have oN : decide (a2 < 0) = false := decide_eq_false c5
      clear c5
      by_cases c6 : a1 > (a0.size : Int)
      · rw [if_pos c6] at H
        have yO : decide ((a0.size : Int) < a1) = true := decide_eq_true c6
        clear c6
        simp only [Option.some.injEq, Prod.mk.injEq] at H
        obtain ⟨rfl, rfl⟩ := H
        go_enter Try.func99, Try.ntmps99
        go_wp2
        go_ret2
        exact ⟨by first | rfl | (simp; done) | (simp [*]; done), by repeat (first | exact aY.refl _ | apply aY.step)⟩
      · rw [if_neg c6] at H
        have yO : decide ((a0.size : Int) < a1) = false := decide_eq_false c6
        clear c6
        by_cases c7 : a2 > (wrap64 ((a0.size : Int) - a1))
        · rw [if_pos c7] at H
          have tu : decide ((wrap64 ((a0.size : Int) - a1)) < a2) = true := decide_eq_true c7
          (try (have Io : decide ((((a0.size : Int) - a1)) < a2) = true := by have h_ : decide ((wrap64 ((a0.size : Int) - a1)) < a2) = true := decide_eq_true c7; rw [B.dO (by omega) (by omega)] at h_; exact h_))
          clear c7
          simp only [Option.some.injEq, Prod.mk.injEq] at H
          obtain ⟨rfl, rfl⟩ := H
          go_enter Try.func99, Try.ntmps99
          go_wp2
          go_ret2
          exact ⟨by first | rfl | (simp; done) | (simp [*]; done), by repeat (first | exact aY.refl _ | apply aY.step)⟩
        · rw [if_neg c7] at H
          have tu : decide ((wrap64 ((a0.size : Int) - a1)) < a2) = false := decide_eq_false c7
          (try (have Io : decide ((((a0.size : Int) - a1)) < a2) = false := by have h_ : decide ((wrap64 ((a0.size : Int) - a1)) < a2) = false := decide_eq_false c7; rw [B.dO (by omega) (by omega)] at h_; exact h_))
          clear c7
          by_cases c8 : 0 ≤ a1
          · rw [if_pos c8] at H
            have qV := eq_true c8
            have qW : decide (0 ≤ a1) = true := decide_eq_true c8
            clear c8
            by_cases c9 : a1 ≤ (wrap64 (a1 + a2))
            · rw [if_pos c9] at H
              have sS := eq_true c9
              have Dq : decide (a1 ≤ (wrap64 (a1 + a2))) = true := decide_eq_true c9
              by_cases c10 : (wrap64 (a1 + a2)) ≤ (a0.size : Int)
              · rw [if_pos c10] at H
                have qG := eq_true c10
                have zD : decide ((wrap64 (a1 + a2)) ≤ (a0.size : Int)) = true := decide_eq_true c10
                simp only [Option.some.injEq, Prod.mk.injEq] at H
                obtain ⟨rfl, rfl⟩ := H
                go_enter Try.func99, Try.ntmps99
                go_wp2
                go_ret2
                exact ⟨by first | rfl | (simp; done) | (simp [*]; done), by repeat (first | exact aY.refl _ | apply aY.step)⟩
              · rw [if_neg c10] at H
                exact absurd H (by simp)
            · rw [if_neg c9] at H
              exact absurd H (by simp)
          · rw [if_neg c8] at H
            exact absurd H (by simp)
mutual
def av.j0 : Nat → Int → ByteArray → Bool → Option (Int × Bool)
  | 0, _, _, _ => none
  | k + 1, x2, x8, x28 => if x28 = true then (some (0, false)) else (av.l0 k x2 x8 0 0)
def av.l0 : Nat → Int → ByteArray → Int → Int → Option (Int × Bool)
  | 0, _, _, _, _ => none
  | k + 1, x2, x8, x10, X0 => if X0 < x2 then (if 0 ≤ X0 then (if X0 < (x8.size : Int) then (av.l0 k x2 x8 (wrap64 ((wrap64 (256 * x10)) + (wrap64 (bt x8 X0)))) (wrap64 (X0 + 1))) else (none)) else (none)) else (some (x10, true))
end
def av.f (k : Nat) (a0 : ByteArray) (a1 : Int) (a2 : Int) : Option (Int × Bool) := (bC.f a0 a1 a2).bind fun tC => (if tC.2 = true then (if a2 < 1 then (av.j0 k a2 tC.1 true) else (av.j0 k a2 tC.1 (decide (a2 > 4)))) else (av.j0 k a2 tC.1 true))
set_option maxHeartbeats 8000000 in
set_option maxRecDepth 100000 in
theorem av.calls (k : Nat) (a0 : ByteArray) (a1 : Int) (a2 : Int) (r1 : Int) (r2 : Bool) (w : World) (h : av.f k a0 a1 a2 = some (r1, r2)) :
    Calls Try.prog 75 #[.string a0, .int .i64 a1, .int .i64 a2] w fun e w' => e = .returned (.tuple #[.int .i64 r1, .bool r2]) ∧ aY w w' := by
  have H : ((bC.f a0 a1 a2).bind fun tC => (if tC.2 = true then (if a2 < 1 then (av.j0 k a2 tC.1 true) else (av.j0 k a2 tC.1 (decide (a2 > 4)))) else (av.j0 k a2 tC.1 true))) = some (r1, r2) := h
  clear h
  replace H := zbm H
  obtain ⟨⟨qY, TA⟩, Dr, H⟩ := H
  replace H : (if TA = true then (if a2 < 1 then (av.j0 k a2 qY true) else (av.j0 k a2 qY (decide (a2 > 4)))) else (av.j0 k a2 qY true)) = some (r1, r2) := H
  have A4 := aj.mk Dr
  clear Dr
  have Tx := aj.mk H
  clear H
  go_enter Try.func75, Try.ntmps75
  go_upto_region 2 with (first | ((with_reducible refine aQ (f := 99) rfl ?_); refine bP (some 16) rfl rfl Try.func99 (by kernel_rfl) rfl #[.string a0, .int .i64 a1, .int .i64 a2] rfl (by (try simp only [List.map_toArray, List.map_cons, List.map_nil]); first | done | rfl | (simp only [List.length_drop, List.length_take]; rfl) | (simp only [ByteArray.size_append, Int.natCast_add]; rfl) | (rw [B.dO] <;> first | rfl | omega | (simp only [decide_eq_false_iff_not, decide_eq_true_eq, Int.not_lt, Nat.not_lt, gt_iff_lt] at * <;> omega))) ?_; (with_reducible refine (bC.calls a0 a1 a2 qY TA _ A4.out).mono ?_); rintro e w' ⟨rfl, ⟨nd, rfl⟩⟩; refine ⟨_, rfl, ?_⟩))
  (try simp only [Act.put, List.setIfInBounds_toArray, List.set_cons_zero, List.set_cons_succ])
  go_cut [28] (fun v28 wc => ∃ (kq : Nat) (Gh : Bool), v28 = .bool Gh ∧ aj (av.j0 kq a2 qY Gh = some (r1, r2)) ∧ aj (kq ≤ k) ∧ aY w wc)
  case first =>
    have H := Tx.out
    clear Tx
    by_cases c6 : TA = true
    · subst c6
      have H1 : (if a2 < 1 then (av.j0 k a2 qY true) else (av.j0 k a2 qY (decide (a2 > 4)))) = some (r1, r2) := by rw [if_pos rfl] at H; exact H
      clear H
      have H := H1
      clear H1
      by_cases c7 : a2 < 1
      · rw [if_pos c7] at H
        have tu : decide (a2 < 1) = true := decide_eq_true c7
        clear c7
        (first | rw [tu] | rw [NI] | (simp only [gM, gZ]; rw [tu]) | skip)
        have H' := aj.mk H
        clear H
        go_wp2
        go_meet
        case rel => exact ⟨_, (true), (by first | rfl | (simp; done) | (simp [*]; done) | (simp [B.aV]; done) | (simp [B.aW]; done)), H', ⟨by first | omega | exact Nat.le_refl _⟩, by repeat (first | exact aY.refl _ | apply aY.step)⟩
      · rw [if_neg c7] at H
        have tu : decide (a2 < 1) = false := decide_eq_false c7
        clear c7
        (first | rw [tu] | rw [NI] | (simp only [gM, gZ]; rw [tu]) | skip)
        have H' := aj.mk H
        clear H
        go_wp2
        go_meet
        case rel => exact ⟨_, (decide (a2 > 4)), (by first | rfl | (simp; done) | (simp [*]; done) | (simp [B.aV]; done) | (simp [B.aW]; done)), H', ⟨by first | omega | exact Nat.le_refl _⟩, by repeat (first | exact aY.refl _ | apply aY.step)⟩
    · replace c6 := Bool.eq_false_iff.mpr c6
      subst c6
      have H1 : (av.j0 k a2 qY true) = some (r1, r2) := by rw [if_neg (show ¬ (false = true) by decide)] at H; exact H
      clear H
      have H := H1
      clear H1
      have H' := aj.mk H
      clear H
      go_wp2
      go_meet
      case rel => exact ⟨_, (true), (by first | rfl | (simp; done) | (simp [*]; done) | (simp [B.aV]; done) | (simp [B.aW]; done)), H', ⟨by first | omega | exact Nat.le_refl _⟩, by repeat (first | exact aY.refl _ | apply aY.step)⟩
  case rest =>
    clear Tx
    try clear p2
    try clear c6
    try clear c7
    try clear tu
    try clear NI
    obtain ⟨kq, Gh, rfl, HA, XV, ⟨mc4, rfl⟩⟩ := hcut
    cases kq with
    | zero => exact absurd HA.out (by simp [av.j0])
    | succ Tz =>
      have H := HA.out
      clear HA
      simp only [av.j0] at H
      by_cases c8 : Gh = true
      · subst c8
        have H1 : (some (0, false)) = some (r1, r2) := by rw [if_pos rfl] at H; exact H
        clear H
        have H := H1
        clear H1
        simp only [Option.some.injEq, Prod.mk.injEq] at H
        obtain ⟨rfl, rfl⟩ := H
        go_wp2
        go_ret2
        exact ⟨by first | rfl | (simp; done) | (simp [*]; done), by repeat (first | exact aY.refl _ | apply aY.step)⟩
      · replace c8 := Bool.eq_false_iff.mpr c8
        subst c8
        have H1 : (av.l0 Tz a2 qY 0 0) = some (r1, r2) := by rw [if_neg (show ¬ (false = true) by decide)] at H; exact H
        clear H
        have H := H1
        clear H1
        have H' := aj.mk H
        clear H
        go_wp2
        go_loopg [10, 11] Tz (fun kq v10 v11 w' => ∃ (sZ : Int) (l7 : Int), v10 = .int .i64 sZ ∧ v11 = .int .i64 l7 ∧ aj (av.l0 kq a2 qY sZ l7 = some (r1, r2)) ∧ aj (kq ≤ Tz) ∧ aY w w')
        case atStart => exact ⟨(0), (0), (by first | rfl | (simp; done) | (simp [*]; done) | (simp [B.aV]; done) | (simp [B.aW]; done)), (by first | rfl | (simp; done) | (simp [*]; done) | (simp [B.aV]; done) | (simp [B.aW]; done)), H', ⟨Nat.le_refl _⟩, by repeat (first | exact aY.refl _ | apply aY.step)⟩
        case round =>
          clear H'
          try clear p2
          try clear c4
          try clear c6
          try clear c7
          try clear tu
          try clear NI
          try clear c8
          try clear p2
          obtain ⟨sZ, l7, rfl, rfl, HA, Qw, ⟨m2, rfl⟩⟩ := hrel
          cases gk with
          | zero => exact absurd HA.out (by simp [av.l0])
          | succ k2 =>
            have H := HA.out
            clear HA
            simp only [av.l0] at H
            by_cases c9 : l7 < a2
            · rw [if_pos c9] at H
              have sS : decide (l7 < a2) = true := decide_eq_true c9
              clear c9
              by_cases c10 : 0 ≤ l7
              · rw [if_pos c10] at H
                have qG : decide (0 ≤ l7) = true := decide_eq_true c10
                clear c10
                by_cases c11 : l7 < (qY.size : Int)
                · rw [if_pos c11] at H
                  have KU : decide (l7 < (qY.size : Int)) = true := decide_eq_true c11
                  clear c11
                  have H' := aj.mk H
                  clear H
                  have XW : 0 ≤ (l7 : Int) := of_decide_eq_true (by first | (with_reducible assumption) | assumption)
                  have XY : l7 < (qY.size : Int) := of_decide_eq_true (by first | (with_reducible assumption) | assumption)
                  have adz := ny qY l7
                  replace XW := eq_true XW
                  replace XY := eq_true XY
                  go_wp2
                  go_roundg k2
                  case measure => have := XV.out; have := Qw.out; omega
                  case rel => exact ⟨(wrap64 ((wrap64 (256 * sZ)) + (wrap64 (bt qY l7)))), (wrap64 (l7 + 1)), (by first | rfl | (simp; done) | (simp [*]; done) | (simp [B.aV]; done) | (simp [B.aW]; done)), (by first | rfl | (simp; done) | (simp [*]; done) | (simp [B.aV]; done) | (simp [B.aW]; done)), H', ⟨by have := XV.out; have := Qw.out; omega⟩, by repeat (first | exact aY.refl _ | apply aY.step)⟩
                · rw [if_neg c11] at H
                  exact absurd H (by simp)
              · rw [if_neg c10] at H
                exact absurd H (by simp)
            · rw [if_neg c9] at H
              have sS : decide (l7 < a2) = false := decide_eq_false c9
              clear c9
              simp only [Option.some.injEq, Prod.mk.injEq] at H
              obtain ⟨rfl, rfl⟩ := H
              go_wp2
              go_ret2
              exact ⟨by first | rfl | (simp; done) | (simp [*]; done), by repeat (first | exact aY.refl _ | apply aY.step)⟩
end Go.Proofs.Ytdkkgecdhapfhaa.ZQ
namespace Go.Proofs.Ytdkkgecdhapfhaa.ZQ
open Go.RowKit Go.Proofs.YtdkkgecdhapfhaaW.bD Go.Proofs.YtdkkgecdhapfhaaW.dV Go.Proofs.YtdkkgecdhapfhaaW.eD Go.Proofs.Ytdkkgecdhapfhaa.B
theorem oO (s : ByteArray) (i n : Int) (hs : s.size ≤ 1000000) :
    bC.f s i n = some (if gP s i n then (s.extract i.toNat (i + n).toNat, true) else (⟨#[]⟩, false)) := by
  have u : gP s i n = (0 ≤ i ∧ 0 ≤ n ∧ i + n ≤ (s.size : Int)) := rfl
  unfold bC.f
  by_cases h0 : i < 0
  · rw [if_pos h0, if_neg (by rw [u]; omega)]
  · by_cases h1 : n < 0
    · rw [if_neg h0, if_pos h1, if_neg (by rw [u]; omega)]
    · by_cases h2 : i > (s.size : Int)
      · rw [if_neg h0, if_neg h1, if_pos h2, if_neg (by rw [u]; omega)]
      · rw [if_neg h0, if_neg h1, if_neg h2]
        have e1 : wrap64 ((s.size : Int) - i) = s.size - i := dO (by omega) (by omega)
        rw [e1]
        by_cases h3 : n > (s.size : Int) - i
        · rw [if_pos h3, if_neg (by rw [u]; omega)]
        · have e2 : wrap64 (i + n) = i + n := dO (by omega) (by omega)
          rw [if_neg h3, e2, if_pos (by omega), if_pos (by omega), if_pos (by omega), if_pos (by rw [u]; omega)]
theorem EW (n : Nat) (hn : n ≤ 4) (t : ByteArray) (ht : t.size = n) (d : Nat) : ∀ k j, n - j = d → j ≤ n → d < k →
    av.l0 k n t (ig j t 0) j = some (ig n t 0, true) := by
  induction d with
  | zero =>
    intro k j hd hj hk
    obtain rfl : j = n := by omega
    obtain ⟨k, rfl⟩ : ∃ m, k = m + 1 := ⟨k - 1, by omega⟩
    rw [av.l0, if_neg (by omega)]
  | succ d ih =>
    intro k j hd hj hk
    obtain ⟨k, rfl⟩ : ∃ m, k = m + 1 := ⟨k - 1, by omega⟩
    have hr := qX j t 0
    have hp : (256 : Int) ^ j ≤ 16777216 := by
      have : j = 0 ∨ j = 1 ∨ j = 2 ∨ j = 3 := by omega
      rcases this with rfl | rfl | rfl | rfl <;> simp
    have hb := gq t j
    rw [av.l0, if_pos (by omega), if_pos (by omega), if_pos (by omega), dO (n := bt t j) (by omega) (by omega), dO (n := 256 * ig j t 0) (by omega) (by omega), dO (n := 256 * ig j t 0 + bt t j) (by omega) (by omega), dO (n := (j : Int) + 1) (by omega) (by omega)]
    have e : 256 * ig j t 0 + bt t j = ig (j + 1) t 0 := by
      simp only [ig]
      rw [show (0 : Int) + (j : Int) = j from by omega]
      omega
    rw [e, show ((j : Int) + 1) = ((j + 1 : Nat) : Int) from by omega]
    exact ih k (j + 1) (by omega) (by omega) (by omega)
theorem xR (k : Nat) (hk : 9 ≤ k) (s : ByteArray) (i n : Int) (hs : s.size ≤ 1000000) :
    av.f k s i n = some (if j6 s i n then (ig n.toNat s i, true) else (0, false)) := by
  obtain ⟨k, rfl⟩ : ∃ m, k = m + 1 := ⟨k - 1, by omega⟩
  unfold av.f
  rw [oO s i n hs]
  simp only [Option.bind_some]
  by_cases ht : gP s i n
  · simp only [if_pos ht, if_true]
    obtain ⟨h0, h1, h2⟩ := ht
    by_cases c1 : n < 1
    · rw [if_pos c1, av.j0, if_pos rfl, if_neg (fun h => by have := h.2.1; omega)]
    · rw [if_neg c1]
      by_cases c2 : n > 4
      · rw [decide_eq_true c2, av.j0, if_pos rfl, if_neg (fun h => by have := h.2.2.1; omega)]
      · rw [decide_eq_false c2, av.j0, if_neg Bool.false_ne_true, if_pos ⟨h0, by omega, by omega, h2⟩]
        have hz := size_ext h0 h1 h2
        have e : ((n.toNat : Nat) : Int) = n := by omega
        have := EW n.toNat (by omega) (s.extract i.toNat (i + n).toNat) (by omega) n.toNat k 0 (by omega) (by omega) (by omega)
        rw [e] at this
        rw [show (0 : Int) = ((0 : Nat) : Int) from rfl]
        refine Eq.trans this ?_
        congr 2
        refine EU _ _ _ _ _ fun m hm => ?_
        rw [show (0 : Int) + (m : Int) = m from by omega, KJ h0 (by omega) (by omega) h2]
  · simp only [if_neg ht, Bool.false_eq_true, if_false]
    rw [av.j0, if_pos rfl, if_neg (fun h => ht ⟨h.1, by have := h.2.1; omega, h.2.2.2⟩)]
end Go.Proofs.Ytdkkgecdhapfhaa.ZQ
namespace Go.Proofs.Ytdkkgecdhapfhaa.B
open Go.RowKit Go.Proofs.YtdkkgecdhapfhaaW.bD
structure uE (T e : TypeId) (B b o : Nat) (cs : Array Value) (p v : Value) (bs : List Value) (w : World) : Prop where
  base : B ≤ b
  blk : w.heap[b]? = some (.cells cs T (0, 0))
  p_ : cs[o]? = some p
  v_ : cs[o + 1]? = some v
  self : p = .pointer none ∨ p = .pointer (some ⟨b, o, none⟩)
  own : w.ownsRow B e 1 v bs.length bs
  ne : v.ownBlock ≠ some b
theorem uE.lt {T e : TypeId} {B b o : Nat} {cs : Array Value} {p v : Value} {bs : List Value} {w : World} (h : uE T e B b o cs p v bs w) : b < w.heap.size := by
  rcases Nat.lt_or_ge b w.heap.size with h' | h'
  · exact h'
  · have := h.blk; rw [Array.getElem?_eq_none h'] at this; cases this
theorem heap_set {w : World} {b o : Nat} {cs : Array Value} {T : TypeId} {fr : Nat × Nat} (h : w.heap[b]? = some (.cells cs T fr)) (x : Value) : (w.setCell ⟨b, o, none⟩ x).heap[b]? = some (.cells (cs.setIfInBounds o x) T fr) := by
  simp [World.setCell, Array.getElem?_modify, h]
theorem Bb {w : World} {B b o : Nat} {e : TypeId} {n k : Nat} {v x : Value} {xs : List Value} (h : w.ownsRow B e n v k xs) (hne : v.ownBlock ≠ some b) : (w.setCell ⟨b, o, none⟩ x).ownsRow B e n v k xs :=
  h.kept (row := some b) ⟨rfl, rfl, rfl, by simp [World.setCell], fun k _ hk => Below.heap_setCell _ _ _ _ (fun e => hk (by simp [e]))⟩ (Or.inr hne)
theorem uE.used {T e : TypeId} {B b o : Nat} {cs : Array Value} {p v : Value} {bs : List Value} {w : World} (h : uE T e B b o cs p v bs w) :
    uE T e B b o (cs.setIfInBounds o (.pointer (some ⟨b, o, none⟩))) (.pointer (some ⟨b, o, none⟩)) v bs (w.setCell ⟨b, o, none⟩ (.pointer (some ⟨b, o, none⟩))) := by
  have ho : o < cs.size := by
    rcases Nat.lt_or_ge o cs.size with h' | h'
    · exact h'
    · have := h.p_; rw [Array.getElem?_eq_none h'] at this; cases this
  exact ⟨h.base, heap_set h.blk _, by simp [ho], by simpa [Array.getElem?_setIfInBounds] using h.v_, .inr rfl, Bb h.own h.ne, h.ne⟩
theorem uE.Ip {T e : TypeId} {B b o : Nat} {cs : Array Value} {v : Value} {bs : List Value} {w : World} (h : uE T e B b o cs (.pointer (some ⟨b, o, none⟩)) v bs w) :
    cs.setIfInBounds o (.pointer (some ⟨b, o, none⟩)) = cs := by
  apply Array.ext_getElem?
  intro i
  rw [Array.getElem?_setIfInBounds]
  by_cases e : o = i
  · subst e
    have := h.p_
    rw [if_pos rfl]
    split
    · exact this.symm
    · rename_i hn; rw [Array.getElem?_eq_none (by omega)] at this; cases this
  · rw [if_neg e]
theorem uE.put {T e : TypeId} {B b o : Nat} {cs : Array Value} {p v v' : Value} {bs bs' : List Value} {w w' : World} (h : uE T e B b o cs p v bs w) (hb : w'.heap[b]? = some (.cells cs T (0, 0))) (hown : w'.ownsRow B e 1 v' bs'.length bs') (hTe : T ≠ e) :
    uE T e B b o (cs.setIfInBounds (o + 1) v') p v' bs' (w'.setCell ⟨b, o + 1, none⟩ v') := by
  have hne := Lib.ownBlock_ne hown hb hTe
  have ho : o + 1 < cs.size := by
    rcases Nat.lt_or_ge (o + 1) cs.size with h' | h'
    · exact h'
    · have := h.v_; rw [Array.getElem?_eq_none h'] at this; cases this
  exact ⟨h.base, heap_set hb _, by simpa [Array.getElem?_setIfInBounds] using h.p_, by simp [ho], h.self, Bb hown hne, hne⟩
theorem uE.set {T e : TypeId} {B b o : Nat} {cs : Array Value} {p v : Value} {bs : List Value} {w : World} (h : uE T e B b o cs p v bs w) (i : Nat) (x : Value) (h1 : i ≠ o) (h2 : i ≠ o + 1) :
    uE T e B b o (cs.setIfInBounds i x) p v bs (w.setCell ⟨b, i, none⟩ x) :=
  ⟨h.base, heap_set h.blk _, by rw [Array.getElem?_setIfInBounds, if_neg h1]; exact h.p_, by rw [Array.getElem?_setIfInBounds, if_neg h2]; exact h.v_, h.self, Bb h.own h.ne, h.ne⟩
theorem uE.drewN {T e : TypeId} {B b o : Nat} {cs : Array Value} {p v : Value} {bs : List Value} {w : World} (h : uE T e B b o cs p v bs w) (n : Nat) : uE T e B b o cs p v bs (w.drewN n) := ⟨h.base, h.blk, h.p_, h.v_, h.self, h.own, h.ne⟩
theorem uE.below {T e : TypeId} {B b o : Nat} {cs : Array Value} {p v : Value} {bs : List Value} {w w' : World} (h : uE T e B b o cs p v bs w) (hb : Below w.heap.size w w') : uE T e B b o cs p v bs w' :=
  ⟨h.base, (hb.block b h.lt).trans h.blk, h.p_, h.v_, h.self, sF h.own hb, h.ne⟩
theorem vF (t s : ByteArray) : Lib.strCells t ++ Lib.strCells s = Lib.strCells (t ++ s) := by
  simp [Lib.strCells]
theorem xS (t : ByteArray) : Lib.strCells t = Lib.byteCells t.data.toList := rfl
end Go.Proofs.Ytdkkgecdhapfhaa.B
namespace Go.Proofs.Ytdkkgecdhapfhaa.ZQ
open Go.Shelf Go.RowKit
set_option maxRecDepth 100000
def uW : Go.Shelf.Ren := ⟨fun | 156 => 123 | 165 => 126 | 166 => 127 | 169 => 128 | 240 => 132 | 241 => 133 | 276 => 135 | 277 => 136 | n => n, fun | 0 => 0 | 3 => 3 | 4 => 4 | 5 => 5 | 9 => 9 | 20 => 20 | 31 => 33 | 37 => 119 | 70 => 164 | 72 => 166 | 75 => 169 | 76 => 170 | 80 => 151 | 127 => 178 | 164 => 179 | n => n, fun n => n⟩
theorem Gi : Lays.n156 Try.prog uW where
  mixed := by kernel_rfl
  f156 := by kernel_rfl
  f165 := by kernel_rfl
  f166 := by kernel_rfl
  f169 := by kernel_rfl
  f240 := by kernel_rfl
  f241 := by kernel_rfl
  f276 := by kernel_rfl
  f277 := by kernel_rfl
  t0 := Try.underlying0
  a0 := Try.isAgg0
  z0 := Try.sizeOf0
  v0 := Try.zeroValue0
  t3 := Try.underlying3
  a3 := Try.isAgg3
  z3 := Try.sizeOf3
  v3 := Try.zeroValue3
  t4 := Try.underlying4
  a4 := Try.isAgg4
  z4 := Try.sizeOf4
  v4 := Try.zeroValue4
  t9 := Try.underlying9
  a9 := Try.isAgg9
  z9 := Try.sizeOf9
  v9 := Try.zeroValue9
  t20 := Try.underlying20
  a20 := Try.isAgg20
  z20 := Try.sizeOf20
  v20 := Try.zeroValue20
  t31 := Try.underlying33
  a31 := Try.isAgg33
  z31 := Try.sizeOf33
  v31 := Try.zeroValue33
  t37 := Try.underlying119
  a37 := Try.isAgg119
  z37 := Try.sizeOf119
  v37 := Try.zeroValue119
  t70 := Try.underlying164
  a70 := Try.isAgg164
  z70 := Try.sizeOf164
  v70 := Try.zeroValue164
  t72 := Try.underlying166
  a72 := Try.isAgg166
  z72 := Try.sizeOf166
  v72 := Try.zeroValue166
  t75 := Try.underlying169
  a75 := Try.isAgg169
  z75 := Try.sizeOf169
  v75 := Try.zeroValue169
  t76 := Try.underlying170
  a76 := Try.isAgg170
  z76 := Try.sizeOf170
  v76 := Try.zeroValue170
  t127 := Try.underlying178
  a127 := Try.isAgg178
  z127 := Try.sizeOf178
  v127 := Try.zeroValue178
  t164 := Try.underlying179
  a164 := Try.isAgg179
  z164 := Try.sizeOf179
  v164 := Try.zeroValue179
theorem uX : Builder.Extra Try.prog uW where
  sizeBuilder := by kernel_rfl
  liesBuilder := by kernel_rfl
  t5 := Try.underlying5
  a5 := Try.isAgg5
  z5 := Try.sizeOf5
  v5 := Try.zeroValue5
  infoByte := by kernel_rfl
  cellsByte := by kernel_rfl
  sizeByte := by kernel_rfl
  neB5 := by decide
end Go.Proofs.Ytdkkgecdhapfhaa.ZQ
namespace Go.Proofs.Ytdkkgecdhapfhaa.ZQ
open Go.RowKit Go.Proofs.YtdkkgecdhapfhaaW.bD Go.Proofs.YtdkkgecdhapfhaaW.dV Go.Proofs.YtdkkgecdhapfhaaW.eD
attribute [local go_sem] ji jk j4 j5 iA iB jl jm
theorem cB.info : (Try.prog.info? 166).map (·.size) = some 2 := by kernel_rfl
set_option maxHeartbeats 1000000 in
set_option maxRecDepth 100000 in
theorem cB.used (b o : Nat) (w : World) (h0 : w.cell? ⟨b, o, none⟩ = some (.pointer (some ⟨b, o, none⟩))) :
    Calls Try.prog 132 #[.pointer (some ⟨b, o, none⟩)] w fun e w' => e = .returned (.tuple #[]) ∧ w' = w := by
  obtain ⟨j, hj, _⟩ := Option.map_eq_some_iff.1 cB.info
  go_enter Try.func132, Try.ntmps132
  go_wp2
  rw [Lib.run_neq_ptr_same w _ Try.underlying164 hj]
  go_wp2
  go_end0
  exact ⟨rfl, rfl⟩
set_option maxHeartbeats 1000000 in
set_option maxRecDepth 100000 in
theorem cB.fresh (b o : Nat) (T : TypeId) (n : Nat) (w : World) (h0 : w.cell? ⟨b, o, none⟩ = some (.pointer none)) (hsh : w.shape? b = some (T, n)) (hn : o < n)
    (hlies : liesAt Try.prog Try.prog.depth T (n / Try.prog.cellsOf T) o 166 1 = true) (hfz : w.frozen? ⟨b, o, none⟩ = false) :
    Calls Try.prog 132 #[.pointer (some ⟨b, o, none⟩)] w fun e w' => e = .returned (.tuple #[]) ∧ w' = w.setCell ⟨b, o, none⟩ (.pointer (some ⟨b, o, none⟩)) := by
  obtain ⟨j, hj, hjs⟩ := Option.map_eq_some_iff.1 cB.info
  have adB : j.size ≠ 0 := by rw [hjs]; decide
  clear hjs
  have hn' := aj.mk hn
  clear hn
  go_enter Try.func132, Try.ntmps132
  go_wp2
  rw [Lib.run_to_unsafe w ⟨b, o, none⟩ Try.underlying164 Try.underlying179 hj adB hsh hn'.out]
  simp only [Result.andThen]
  rw [Oper.upon_value]
  go_wp2
  rw [run_callFunc_extern Try.func135 (by kernel_rfl) (by kernel_rfl) (by kernel_rfl) (e := Extern.AbiNoEscape.same) (by kernel_rfl)]
  rw [Lib.run_noEscape]
  simp only [Result.andThen]
  rw [Oper.upon_value]
  go_wp2
  rw [Lib.run_from_unsafe w ⟨b, o, none⟩ Try.underlying179 Try.underlying164 hj hsh hlies]
  simp only [Result.andThen]
  rw [Oper.upon_value]
  go_wp2
  go_end0
  exact ⟨rfl, rfl⟩
theorem cB.any (T : TypeId) (B0 b o : Nat) (cs : Array Value) (p v : Value) (bs : List Value) (w : World) (h : B.uE T 5 B0 b o cs p v bs w)
    (hlies : liesAt Try.prog Try.prog.depth T (cs.size / Try.prog.cellsOf T) o 166 1 = true) :
    Calls Try.prog 132 #[.pointer (some ⟨b, o, none⟩)] w fun e w' => e = .returned (.tuple #[]) ∧
      B.uE T 5 B0 b o (cs.setIfInBounds o (.pointer (some ⟨b, o, none⟩))) (.pointer (some ⟨b, o, none⟩)) v bs w' ∧ Below B0 w w' := by
  have ho : o < cs.size := by
    rcases Nat.lt_or_ge o cs.size with h' | h'
    · exact h'
    · have := h.p_; rw [Array.getElem?_eq_none h'] at this; cases this
  have hsh : w.shape? b = some (T, cs.size) := by simp [World.shape?, h.blk]
  have hc : w.cell? ⟨b, o, none⟩ = some p := by rw [Lib.cell_of_heap h.blk]; exact h.p_
  rcases h.self with rfl | rfl
  · refine (cB.fresh b o T cs.size w hc hsh ho hlies (Lib.frozen_of_heap h.blk o)).mono ?_
    rintro e w' ⟨rfl, rfl⟩
    exact ⟨rfl, h.used, (Below.refl B0 w).setCell (p := ⟨b, o, none⟩) h.base _⟩
  · refine (cB.used b o w hc).mono ?_
    rintro e w' ⟨rfl, rfl⟩
    exact ⟨rfl, by rw [h.Ip]; exact h, Below.refl B0 _⟩
theorem gK.infoByte : (Try.prog.info? 5).map (fun i => (i.zero, i.size, i.bytes)) = some (some (.int .u8 0), 1, 1) := by kernel_rfl
set_option maxHeartbeats 2000000 in
set_option maxRecDepth 100000 in
theorem gK.any (T : TypeId) (B0 b o : Nat) (cs : Array Value) (p v : Value) (t : ByteArray) (s : ByteArray) (w : World) (h : B.uE T 5 B0 b o cs p v (Lib.strCells t) w)
    (hlies : liesAt Try.prog Try.prog.depth T (cs.size / Try.prog.cellsOf T) o 166 1 = true) (hT : T ≠ 5) (hlen : t.size + s.size ≤ 140737488355328) (hBw : B0 ≤ w.heap.size) :
    Calls Try.prog 127 #[.pointer (some ⟨b, o, none⟩), .string s] w fun e w' => e = .returned (.tuple #[.int .i64 s.size, .nilIface]) ∧
      (∃ v', B.uE T 5 B0 b o ((cs.setIfInBounds o (.pointer (some ⟨b, o, none⟩))).setIfInBounds (o + 1) v') (.pointer (some ⟨b, o, none⟩)) v' (Lib.strCells (t ++ s)) w') ∧ Below B0 w w' := by
  obtain ⟨i0, hi, hz0, hz1, hz2⟩ := info_parts gK.infoByte
  have hL := Lib.strCells_length t
  have TB := aj.mk hlies
  clear hlies
  have hC := aj.mk h
  clear h
  have hT' := aj.mk hT
  clear hT
  have hlen' := aj.mk hlen
  clear hlen
  go_enter Try.func127, Try.ntmps127
  go_wp2_with (go_at_call 132; refine (cB.any T B0 b o cs p v _ _ hC.out TB.out).mono ?_)
  rintro e w1 ⟨rfl, h1, hb1⟩
  have c1 : w1.cell? ⟨b, o + 1, none⟩ = some v := by rw [Lib.cell_of_heap h1.blk]; exact h1.v_
  have hown := h1.own
  go_wp2_with (at_builtin; refine Lib.wpList_append_own_string _ rfl _ _ 119 9 rfl B0 5 i0 Try.underlying119 Try.underlying9 hi hz0 hz1 hz2 _ _ _ rfl hown s rfl ?c3 ?c4 ?c5 ?_)
  case c3 => rw [hL]; unfold maxLen; have := hlen'.out; omega
  case c4 => rw [hL]; have := hlen'.out; omega
  case c5 => have := hb1.size; omega
  intro v' w2 hown' hgrow _
  have hlt := h1.lt
  have hb2 : w2.heap[b]? = some (.cells (cs.setIfInBounds o (.pointer (some ⟨b, o, none⟩))) T (0, 0)) := by
    rw [hgrow.block b hlt (fun e => h1.ne e.symm)]
    exact h1.blk
  have d1 : w2.cell? ⟨b, o + 1, none⟩ = some v := by rw [Lib.cell_of_heap hb2]; exact h1.v_
  have f1 : w2.frozen? ⟨b, o + 1, none⟩ = false := Lib.frozen_of_heap hb2 (o + 1)
  obtain ⟨ao, n', cap, rfl⟩ : ∃ ao n' cap, v' = .slice ao n' cap := by
    rcases hown'.2 with ⟨hv, _⟩ | ⟨g, cap, cur, hv, _⟩
    · exact ⟨_, _, _, hv⟩
    · exact ⟨_, _, _, hv⟩
  have hown2 : w2.ownsRow B0 5 1 (.slice ao n' cap) (Lib.strCells (t ++ s)).length (Lib.strCells (t ++ s)) := by
    rw [← B.vF]
    simpa [Lib.strCells_length] using hown'
  have hput := aj.mk (h1.put hb2 hown2 hT'.out)
  have hbel := aj.mk ((hb1.grown hgrow (by have := hb1.size; omega) (fun k hk => (hown.lt k hk).1)).setCell (p := ⟨b, o + 1, none⟩) h1.base (.slice ao n' cap))
  clear hb2 hown2 hown' hgrow h1 hown hL hb1 c1
  go_wp2
  go_ret2
  exact ⟨rfl, ⟨_, hput.out⟩, hbel.out⟩
set_option maxHeartbeats 2000000 in
set_option maxRecDepth 100000 in
theorem aZ.told (T : TypeId) (B0 b o : Nat) (cs : Array Value) (p v : Value) (l : List UInt8) (w : World) (h : B.uE T 5 B0 b o cs p v (Lib.byteCells l) w) (h0 : l ≠ []) :
    Calls Try.prog 128 #[.pointer (some ⟨b, o, none⟩)] w fun e w' => e = .returned (.string ⟨l.toArray⟩) ∧ ∃ g, B0 ≤ g ∧ g ≠ b ∧ w' = w.drew.freeze ⟨g, 0, none⟩ l.length := by
  have hl0 : l.length ≠ 0 := by simpa using h0
  have hown := h.own
  rw [Lib.byteCells_length] at hown
  obtain ⟨g, cap, cur, rfl, hbg, hg, hnc, hcm, hcs, htake⟩ : ∃ g cap cur, v = .slice (some ⟨g, 0, none⟩) l.length cap ∧ B0 ≤ g ∧ w.heap[g]? = some (.cells cur 5 (0, 0)) ∧ l.length ≤ cap ∧ cap ≤ maxLen ∧ cur.size = cap * 1 ∧ cur.toList.take (l.length * 1) = Lib.byteCells l := by
    rcases hown.2 with ⟨_, hz⟩ | ⟨g, cap, cur, hv, r⟩
    · exact absurd hz hl0
    · exact ⟨g, cap, cur, hv, r⟩
  have hgb : g ≠ b := fun e => h.ne (by rw [e]; rfl)
  have c1 : w.drew.cell? ⟨b, o + 1, none⟩ = some (.slice (some ⟨g, 0, none⟩) l.length cap) := by
    have : w.drew.heap[b]? = some (.cells cs T (0, 0)) := h.blk
    rw [Lib.cell_of_heap this]; exact h.v_
  have hSD : (Builtin.unsafeSliceData_ #[119] 178 #[.slice (some ⟨g, 0, none⟩) l.length cap]).run Try.prog w.drew = .ok (.pointer (some ⟨g, 0, none⟩)) w.drew :=
    Lib.run_unsafeSliceData_row _ _ _ _ _ _ (by omega)
  have hUS : (Builtin.unsafeString_ #[178, 3] 9 #[.pointer (some ⟨g, 0, none⟩), .int .i64 l.length]).run Try.prog w.drew = .ok (.string ⟨l.toArray⟩) (w.drew.freeze ⟨g, 0, none⟩ l.length) := by
    refine Lib.run_unsafeString_row w.drew 178 3 9 5 Try.underlying178 (by kernel_rfl) g cur.size (by have hg' : w.drew.heap[g]? = some (.cells cur 5 (0, 0)) := hg; simp [World.shape?, hg']) l h0 (by omega) (by unfold maxLen at hcm; omega) ?_
    intro j x hx
    have := hown.cells (g := g) rfl j (.int .u8 x.toNat) (by simp [Lib.byteCells, hx])
    exact this
  have adC := aj.mk hbg
  have hgb' := aj.mk hgb
  clear hbg hgb h hown hg hnc hcm hcs htake hl0 h0
  go_enter Try.func128, Try.ntmps128
  go_wp2
  go_region
  all_goals (go_wp2; go_ret; exact ⟨rfl, _, adC.out, hgb'.out, rfl⟩)
def aZ.Kept (b : Nat) (w w' : World) : Prop := ∀ a : Addr, a.block = b → w'.cell? a = w.cell? a ∧ w'.frozen? a = w.frozen? a
theorem aZ.Kept.of_block {b : Nat} {w w' : World} (h : w'.heap[b]? = w.heap[b]?) : aZ.Kept b w w' := by
  rintro a rfl
  exact ⟨World.cell?_of_block h, World.frozen?_of_block h⟩
theorem aZ.Bc (W : World) (q : Option Addr) : (Builtin.unsafeString_ #[178, 3] 9 #[.pointer q, .int .i64 0]).run Try.prog W = .ok (.string .empty) W :=
  Lib.run_unsafeString_none W _ _ _ q
set_option maxHeartbeats 2000000 in
set_option maxRecDepth 100000 in
theorem aZ.of_nil (B0 b o : Nat) (w : World) (c1 : w.drew.cell? ⟨b, o + 1, none⟩ = some (.slice none 0 0)) :
    Calls Try.prog 128 #[.pointer (some ⟨b, o, none⟩)] w fun e w' => e = .returned (.string ⟨#[]⟩) ∧ aZ.Kept b w w' ∧ Below B0 w w' := by
  have hUS := aZ.Bc
  have hSD : (Builtin.unsafeSliceData_ #[119] 178 #[.slice none 0 0]).run Try.prog w.drew = .ok (.pointer none) w.drew := rfl
  go_enter Try.func128, Try.ntmps128
  go_wp2
  go_region
  all_goals (go_wp2; go_ret; exact ⟨rfl, aZ.Kept.of_block rfl, Below.drew (Below.refl B0 w)⟩)
set_option maxHeartbeats 2000000 in
set_option maxRecDepth 100000 in
theorem aZ.Iq (B0 b o g : Nat) (cur : Array Value) (w : World) (hBw : B0 ≤ w.heap.size) (hlt : b < w.heap.size) (c0 : w.cell? ⟨b, o + 1, none⟩ = some (.slice (some ⟨g, 0, none⟩) 0 0)) (hg : w.heap[g]? = some (.cells cur 5 (0, 0))) :
    Calls Try.prog 128 #[.pointer (some ⟨b, o, none⟩)] w fun e w' => e = .returned (.string ⟨#[]⟩) ∧ aZ.Kept b w w' ∧ Below B0 w w' := by
  have hUS := aZ.Bc
  have hSD : (Builtin.unsafeSliceData_ #[119] 178 #[.slice (some ⟨g, 0, none⟩) 0 0]).run Try.prog w.drew = .ok (.pointer (some ⟨w.drew.heap.size, 0, none⟩)) (w.drew.alloc (.view ⟨g, 0, none⟩ 5)) :=
    Lib.run_unsafeSliceData_zero w.drew _ _ 5 Try.underlying178 ⟨g, 0, none⟩ 0 (5, cur.size) (by have hg' : w.drew.heap[g]? = some (.cells cur 5 (0, 0)) := hg; simp [World.shape?, hg'])
  have hold : (w.drew.alloc (.view ⟨g, 0, none⟩ 5)).heap[b]? = w.heap[b]? := (Lib.alloc_old w.drew _ b hlt)
  have c2 : (w.drew.alloc (.view ⟨g, 0, none⟩ 5)).cell? ⟨b, o + 1, none⟩ = some (.slice (some ⟨g, 0, none⟩) 0 0) := by
    rw [World.cell?_of_block (w := w) (a := ⟨b, o + 1, none⟩) hold]; exact c0
  have c3 : (w.alloc (.view ⟨g, 0, none⟩ 5)).drew.cell? ⟨b, o + 1, none⟩ = some (.slice (some ⟨g, 0, none⟩) 0 0) := c2
  have hold' := aj.mk hold
  have hBw' := aj.mk hBw
  clear hold hBw hlt
  go_enter Try.func128, Try.ntmps128
  go_wp2
  go_region
  all_goals (go_wp2; go_ret; exact ⟨rfl, aZ.Kept.of_block hold'.out, (Below.drew (Below.refl B0 w)).alloc hBw'.out _⟩)
set_option maxHeartbeats 2000000 in
set_option maxRecDepth 100000 in
theorem aZ.NJ (B0 b o g cap : Nat) (w : World) (hc0 : cap ≠ 0) (c1 : w.drew.cell? ⟨b, o + 1, none⟩ = some (.slice (some ⟨g, 0, none⟩) 0 cap)) :
    Calls Try.prog 128 #[.pointer (some ⟨b, o, none⟩)] w fun e w' => e = .returned (.string ⟨#[]⟩) ∧ aZ.Kept b w w' ∧ Below B0 w w' := by
  have hUS := aZ.Bc
  have hSD : (Builtin.unsafeSliceData_ #[119] 178 #[.slice (some ⟨g, 0, none⟩) 0 cap]).run Try.prog w.drew = .ok (.pointer (some ⟨g, 0, none⟩)) w.drew :=
    Lib.run_unsafeSliceData_row _ _ _ _ _ _ hc0
  clear hc0
  go_enter Try.func128, Try.ntmps128
  go_wp2
  go_region
  all_goals (go_wp2; go_ret; exact ⟨rfl, aZ.Kept.of_block rfl, Below.drew (Below.refl B0 w)⟩)
theorem aZ.any (T : TypeId) (B0 b o : Nat) (cs : Array Value) (p v : Value) (t : ByteArray) (w : World) (h : B.uE T 5 B0 b o cs p v (Lib.strCells t) w) (hBw : B0 ≤ w.heap.size) :
    Calls Try.prog 128 #[.pointer (some ⟨b, o, none⟩)] w fun e w' => e = .returned (.string t) ∧ aZ.Kept b w w' ∧ Below B0 w w' := by
  have c1 : ∀ W : World, W.heap = w.heap → W.cell? ⟨b, o + 1, none⟩ = some v := by
    intro W hW
    have : W.heap[b]? = some (.cells cs T (0, 0)) := by rw [hW]; exact h.blk
    rw [Lib.cell_of_heap this]; exact h.v_
  by_cases h0 : t.data.toList = []
  · have ht : t = ⟨#[]⟩ := ByteArray.ext (Array.toList_inj.mp h0)
    subst ht
    rcases h.own.2 with ⟨rfl, _⟩ | ⟨g, cap, cur, rfl, hbg, hg, _, _, _, _⟩
    · exact aZ.of_nil B0 b o w (c1 _ rfl)
    · by_cases hc : cap = 0
      · subst hc
        exact aZ.Iq B0 b o g cur w hBw h.lt (c1 _ rfl) hg
      · exact aZ.NJ B0 b o g cap w hc (c1 _ rfl)
  · refine (aZ.told T B0 b o cs p v t.data.toList w (by rw [← B.xS]; exact h) h0).mono ?_
    rintro e w' ⟨rfl, g, h1, h2, rfl⟩
    refine ⟨rfl, aZ.Kept.of_block ?_, Lib.below_freeze (Below.drew (Below.refl B0 w)) (p := ⟨g, 0, none⟩) h1 _⟩
    unfold World.freeze
    split
    · rfl
    · simp [Array.getElem?_modify, h2]
      rfl
def strings_Join.cat : List ByteArray → ByteArray
  | [] => ⟨#[]⟩
  | x :: l => x ++ strings_Join.cat l
theorem strings_Join.xU : ∀ l : List ByteArray, (⟨(Lib.join (l.map (·.data.toList)) (⟨#[]⟩ : ByteArray).data.toList).toArray⟩ : ByteArray) = strings_Join.cat l
  | [] => rfl
  | [x] => by
    rw [List.map_cons, List.map_nil, Lib.join_one]
    refine ByteArray.ext ?_
    simp [strings_Join.cat, ByteArray.data_append]
  | x :: y :: l => by
    have h := strings_Join.xU (y :: l)
    refine ByteArray.ext ?_
    rw [strings_Join.cat, ByteArray.data_append, ← h]
    simp [Lib.join, List.intercalate]
theorem strings_Join.calls (v : Value) (l : List ByteArray) (base : Nat) (ok : Nat → Prop) (w : World) (hr : Kd.R Kd.string 9 w base ok v l) (hl : l.length ≤ 1000000) (hz : (strings_Join.cat l).size ≤ 140737488355328) :
    Calls Try.prog 123 #[v, .string ⟨#[]⟩] w fun e w' => e = .returned (.string (strings_Join.cat l)) ∧ Below w.heap.size w w' := by
  have ho := Kd.sM hr
  rcases ho.2 with ⟨rfl, h0⟩ | ⟨g, cap, cur, rfl, hg, hh, hc, _, _, ht⟩
  · obtain rfl := List.length_eq_zero_iff.mp h0
    exact (Any.strings_Join_none Gi uX none 0 ⟨#[]⟩ w).mono fun e w' ⟨he, hw⟩ => ⟨he, hw ▸ Below.refl _ _⟩
  · have hlt : g < w.heap.size := (Array.getElem?_eq_some_iff.1 hh).1
    have hcells : ∀ (j : Nat) x, l[j]? = some x → w.cell? ⟨g, 0 + j, none⟩ = some (.string x) := by
      intro j x hx
      have hj : j < l.length := (List.getElem?_eq_some_iff.1 hx).1
      have h := (Kd.KF ByteArray.empty hr (j : Int) (by omega) (by omega)).1
      rw [Nat.zero_add]
      rw [Int.toNat_natCast] at h
      rw [h]
      unfold oH
      rw [Int.toNat_natCast, List.getD_eq_getElem?_getD, hx]
      rfl
    have hlen : (Lib.join (l.map (·.data.toList)) (⟨#[]⟩ : ByteArray).data.toList).length ≤ 140737488355328 := by
      have h := congrArg ByteArray.size (strings_Join.xU l)
      rw [← h] at hz
      simpa [ByteArray.size] using hz
    refine (Any.strings_Join Gi uX g 0 cap l ⟨#[]⟩ w hcells hlt (by omega) hc hlen).mono fun e w' ⟨he, hw⟩ => ⟨?_, hw⟩
    rw [he, strings_Join.xU]
set_option maxHeartbeats 1000000 in
set_option maxRecDepth 100000 in
theorem qp.any (T : TypeId) (B0 b o : Nat) (cs : Array Value) (p v : Value) (bs : List Value) (w : World) (h : B.uE T 5 B0 b o cs p v bs w) :
    Calls Try.prog 134 #[.pointer (some ⟨b, o, none⟩)] w fun e w' => e = .returned (.int .i64 bs.length) ∧ w = w' := by
  obtain ⟨ao, cap, rfl⟩ : ∃ ao cap, v = .slice ao bs.length cap := by
    rcases h.own.2 with ⟨hv, h0⟩ | ⟨g, cap, cur, hv, _⟩
    · exact ⟨none, 0, by rw [hv, h0]⟩
    · exact ⟨_, _, hv⟩
  have c1 : w.cell? ⟨b, o + 1, none⟩ = some (.slice ao bs.length cap) := by rw [Lib.cell_of_heap h.blk]; exact h.v_
  clear h
  go_enter Try.func134, Try.ntmps134
  go_wp2
  go_ret
  exact ⟨rfl, rfl⟩
end Go.Proofs.Ytdkkgecdhapfhaa.ZQ

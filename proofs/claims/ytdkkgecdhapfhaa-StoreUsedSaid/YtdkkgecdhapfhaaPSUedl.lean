/- A part of the proof of StoreUsed: cut, joined and given short names by a program of this session (wip/tools/pack.py); Lean checks it. No condition. -/
import Derived.Test.YtdkkgecdhapfhaaPSUedj
import Derived.Test.YtdkkgecdhapfhaaPSUedk
import Derived.Deep.RegionHeld3
import Derived.Test.YtdkkgecdhapfhaaPSUedd
set_option linter.unusedSectionVars false
set_option linter.unusedSimpArgs false
set_option linter.unusedVariables false
namespace Go.Proofs.Ytdkkgecdhapfhaa.ZQ
open Go.RowKit Go.Proofs.YtdkkgecdhapfhaaW.bD Go.Proofs.YtdkkgecdhapfhaaW.dV Go.Proofs.YtdkkgecdhapfhaaW.eD
attribute [local go_sem] ji jk j4 j5 iA iB jl jm
theorem iD.keep {a b : ByteArray} {v : Value} {l : List ByteArray} {base g : Nat} {ok : Nat → Prop} {w w1 w2 : World}
    (h : (w1.cell? ⟨g, 0, none⟩ = some (.string a) ∧ w1.cell? ⟨g, 1, none⟩ = some (.string b) ∧ w1.cell? ⟨g, 2, none⟩ = some v) ∧ aj (Below g w w1 ∧ g < w1.heap.size ∧ Kd.R Kd.string 9 w1 base ok v l)) (hb : Below w1.heap.size w1 w2) :
    (w2.cell? ⟨g, 0, none⟩ = some (.string a) ∧ w2.cell? ⟨g, 1, none⟩ = some (.string b) ∧ w2.cell? ⟨g, 2, none⟩ = some v) ∧ aj (Below g w w2 ∧ g < w2.heap.size ∧ Kd.R Kd.string 9 w2 base ok v l) := by
  obtain ⟨⟨c0, c1, c2⟩, ⟨h1, h2, h3⟩⟩ := h
  have hs := hb.size
  exact ⟨⟨(hb.cell h2).trans c0, (hb.cell h2).trans c1, (hb.cell h2).trans c2⟩, ⟨h1.trans (hb.mono (by omega)), by omega, Kd.j3 h3 hb⟩⟩
set_option maxHeartbeats 4000000 in
set_option maxRecDepth 100000 in
theorem iD.calls (a b : ByteArray) (v : Value) (l : List ByteArray) (base : Nat) (ok : Nat → Prop) (w : World) (hr : Kd.R Kd.string 9 w base ok v l) (hl : l.length ≤ 1000000) (hz : a.size + (strings_Join.cat l).size + b.size ≤ 140737488355328) :
    Calls Try.prog 113 #[.agg #[.string a, .string b, v]] w fun e w' => e = .returned (.string (a ++ strings_Join.cat l ++ b)) ∧ Below w.heap.size w w' := by
  have HB := aj.mk (ak (Below.refl w.heap.size w) (.cells #[.string a, .string b, v] 148 (0, 0)))
  have HR := aj.mk (Kd.eU hr (.cells #[.string a, .string b, v] 148 (0, 0)))
  have HC : (w.alloc (.cells #[.string a, .string b, v] 148 (0, 0))).cell? ⟨w.heap.size, 0, none⟩ = some (.string a) ∧ (w.alloc (.cells #[.string a, .string b, v] 148 (0, 0))).cell? ⟨w.heap.size, 1, none⟩ = some (.string b) ∧ (w.alloc (.cells #[.string a, .string b, v] 148 (0, 0))).cell? ⟨w.heap.size, 2, none⟩ = some v := by
    refine ⟨?_, ?_, ?_⟩ <;> (rw [Lib.cell_of_heap (heap_alloc_new w _)]; rfl)
  have HC0 := aj.mk HC
  clear HC
  have HC := HC0
  clear HC0
  have hs : w.heap.size < (w.alloc (.cells #[.string a, .string b, v] 148 (0, 0))).heap.size := by show _ < (w.heap.push _).size; rw [Array.size_push]; omega
  have HS := aj.mk hs
  have HZ := aj.mk hz
  have HL := aj.mk hl
  clear hs hz hr hl
  go_enter Try.func113, Try.ntmps113
  go_wp2
  generalize w.alloc (.cells #[.string a, .string b, v] 148 (0, 0)) = w1 at *
  generalize hgg : w.heap.size = g at *
  have hgg := aj.mk hgg
  have hf1 : a.size + (strings_Join.cat l).size ≤ 9223372036854775807 := by have := HZ.out; omega
  have hf2 : a.size + (strings_Join.cat l).size + b.size ≤ 9223372036854775807 := by have := HZ.out; omega
  have c0 := HC.out.1
  have c1 := HC.out.2.1
  have c2 := HC.out.2.2
  go_region_held (fun w' => (w'.cell? ⟨g, 0, none⟩ = some (.string a) ∧ w'.cell? ⟨g, 1, none⟩ = some (.string b) ∧ w'.cell? ⟨g, 2, none⟩ = some v) ∧ aj (Below g w w' ∧ g < w'.heap.size ∧ Kd.R Kd.string 9 w' base ok v l)) ((first | assumption | exact iD.keep ⟨⟨c0, c1, c2⟩, ⟨HB.out, HS.out, HR.out⟩⟩ (jg (Below.refl _ _)) | exact iD.keep (by assumption) (by assumption))) ((first | (go_at_call 123; refine (strings_Join.calls v l base ok _ (Kd.fQ HR.out) HL.out (by have := HZ.out; omega)).mono ?_; rintro e w' ⟨rfl, hb'⟩)))
  all_goals
    rename_i hx
    go_wp2
    go_ret
    exact ⟨rfl, hgg.out ▸ hx.2.out.1⟩
def bX.agg (a b c : Int) : Value := .agg #[.int .i64 a, .int .i64 b, .int .i64 c]
def bX.tab : List (Int × Value) := [(1, bX.agg 4 0 0), (28, bX.agg 16 0 0), (2, bX.agg 0 1 0), (5, bX.agg 0 1 0), (12, bX.agg 0 1 0), (6, bX.agg 0 2 20), (15, bX.agg 2 1 0), (33, bX.agg 6 1 0)]
set_option maxHeartbeats 8000000 in
set_option maxRecDepth 100000 in
theorem bX.calls (w : World) : Calls Try.prog 120 #[] w fun e w' => ∃ g, e = .returned (.map (some g)) ∧ Mi.In w.heap.size w w' g bX.tab := by
  have hmm := @run_makeMap Try.prog
  have hi := aj.mk (Mi.In.made (w := w))
  generalize hg : w.heap.size = g at hi
  have hg' := aj.mk hg
  go_enter Try.func120, Try.ntmps120
  go_wp2_with (first | (refine Mi.Dy 159 _ _ _ rfl ?_; refine Mi.Yo _ rfl _ _ _ 159 rfl 3 157 Try.underlying159 Try.underlying3 _ _ rfl (aj.out (by assumption)) _ _ rfl rfl rfl ?_; clear hi; intro w1 hi))
  go_ret
  exact ⟨g, rfl, hi.out⟩
def bV.l0 : Nat → ByteArray → Int → Int → Int → Int → Int → Int → Int → ByteArray → ByteArray → List ByteArray → Option (ByteArray × ByteArray × List ByteArray × Bool)
  | 0, _, _, _, _, _, _, _, _, _, _, _ => none
  | k + 1, x0, x1, x2, x37, x38, NP, NQ, Gl, Gn, NR, Bd => if x38 < x37 then ((bF.f k x0 x1).bind fun Gp => (if Gp.2.2 = 0 then (if Gp.2.1 > x2 then (some ((⟨#[]⟩ : ByteArray), (⟨#[]⟩ : ByteArray), ([] : List ByteArray), false)) else (if Bd.length < 8796093022208 then (bV.l0 k x0 Gp.2.1 x2 x37 (wrap64 (x38 + 1)) NP NQ Gl Gn NR (Bd ++ [Gp.1])) else (none))) else (some ((⟨#[]⟩ : ByteArray), (⟨#[]⟩ : ByteArray), ([] : List ByteArray), false)))) else (if 0 ≤ x1 then (if x1 ≤ x2 then (if x2 ≤ (x0.size : Int) then (some (Gn, x0.extract (x1 : Int).toNat (x2 : Int).toNat, Bd, (((x0.extract (x1 : Int).toNat (x2 : Int).toNat).size : Int) == Gl))) else (none)) else (none)) else (none))
def bV.f (k : Nat) (a0 : ByteArray) (a1 : Int) (a2 : Int) (eF : Int) (iK : Int) (jO : Int) : Option (ByteArray × ByteArray × List ByteArray × Bool) := if (eF ≤ (wrap64 (a2 - a1))) then (if 0 ≤ a1 then (if a1 ≤ (wrap64 (a1 + eF)) then (if (wrap64 (a1 + eF)) ≤ (a0.size : Int) then (bV.l0 k a0 (wrap64 (a1 + eF)) a2 iK 0 eF iK jO (a0.extract (a1 : Int).toNat ((wrap64 (a1 + eF)) : Int).toNat) (⟨#[]⟩ : ByteArray) ([] : List ByteArray)) else (none)) else (none)) else (none)) else (some ((⟨#[]⟩ : ByteArray), (⟨#[]⟩ : ByteArray), ([] : List ByteArray), false))
def bV.T15 : Bool × List (List Nat × List Nat) := (true, [([], []), ([], []), ([1], [1]), ([2], [2]), ([], []), ([4], [4]), ([3, 5], [3, 5]), ([0, 0], [0]), ([6, 7, 0, 1, 2, 3, 4, 5, 6, 7], [6])])
def bV.B15 : List Nat := [0, 0, 2, 6, 0, 16, 62, 1, 255]
theorem bV.Yp : mg .any (opsOf Try.f121 15) = bV.T15 := by kernel_rfl
theorem bV.TG : pV bV.T15.2 bV.B15 = true := by kernel_rfl
set_option maxHeartbeats 8000000 in
set_option maxRecDepth 100000 in
theorem bV.calls (k : Nat) (a0 : ByteArray) (a1 : Int) (a2 : Int) (eF : Int) (iK : Int) (jO : Int) (r1 : ByteArray) (r2 : ByteArray) (r3 : List ByteArray) (r4 : Bool) (w : World) (h : bV.f k a0 a1 a2 eF iK jO = some (r1, r2, r3, r4)) :
    Calls Try.prog 121 #[.string a0, .int .i64 a1, .int .i64 a2, .agg #[.int .i64 eF, .int .i64 iK, .int .i64 jO]] w fun e w' => ∃ Yq : Value, e = .returned (.tuple #[.agg #[.string r1, .string r2, Yq], .bool r4]) ∧ Kd.R Kd.string 9 w' w.heap.size (fun _ => True) Yq r3 ∧ Below w.heap.size w w' := by
  have aeX := Try.underlying157
  have aeY := Try.underlying148
  have HB := aj.mk (Below.refl w.heap.size w)
  have H : (if (eF ≤ (wrap64 (a2 - a1))) then (if 0 ≤ a1 then (if a1 ≤ (wrap64 (a1 + eF)) then (if (wrap64 (a1 + eF)) ≤ (a0.size : Int) then (bV.l0 k a0 (wrap64 (a1 + eF)) a2 iK 0 eF iK jO (a0.extract (a1 : Int).toNat ((wrap64 (a1 + eF)) : Int).toNat) (⟨#[]⟩ : ByteArray) ([] : List ByteArray)) else (none)) else (none)) else (none)) else (some ((⟨#[]⟩ : ByteArray), (⟨#[]⟩ : ByteArray), ([] : List ByteArray), false))) = some (r1, r2, r3, r4) := h
  clear h
  by_cases c5 : (eF ≤ (wrap64 (a2 - a1)))
  · rw [if_pos c5] at H
    have oN : decide (eF ≤ (wrap64 (a2 - a1))) = true := decide_eq_true c5
    (try (have uF : decide (eF ≤ ((a2 - a1))) = true := by have h_ : decide (eF ≤ (wrap64 (a2 - a1))) = true := decide_eq_true c5; rw [B.dO (by omega) (by omega)] at h_; exact h_))
    clear c5
    by_cases c6 : 0 ≤ a1
    · rw [if_pos c6] at H
      have yO := eq_true c6
      have KT : decide (0 ≤ a1) = true := decide_eq_true c6
      clear c6
      by_cases c7 : a1 ≤ (wrap64 (a1 + eF))
      · rw [if_pos c7] at H
        have tu := eq_true c7
        have Io : decide (a1 ≤ (wrap64 (a1 + eF))) = true := decide_eq_true c7
        by_cases c8 : (wrap64 (a1 + eF)) ≤ (a0.size : Int)
        · rw [if_pos c8] at H
          have qV := eq_true c8
          have qW : decide ((wrap64 (a1 + eF)) ≤ (a0.size : Int)) = true := decide_eq_true c8
          have H' := aj.mk H
          clear H
          go_enter Try.func121, Try.ntmps121
          go_wp2_with (first | ((with_reducible refine gF (N := 7) rfl ?_); refine fP ?hg (N := 7) ?hd (cs := #[.int .i64 eF, .int .i64 iK, .int .i64 jO]) (t := 157) ?hr ?_; (case hd => rfl); (case hg => rfl); (case hr => first | (go_simp; done) | (go_simp; rfl)); intro fJ hg w9 gQ hb; have dX := aj.mk (bE (by repeat (first | (with_reducible first | exact HB.out | apply ak | apply ah | apply au) | exact HB.out)) hb); have gV := aj.mk (gQ); have iZ := aj.mk ((by rw [hg]; exact (bL (by repeat (first | (with_reducible first | exact HB.out | apply ak | apply ah | apply au) | exact HB.out))) : w.heap.size ≤ fJ)); have jG := aj.mk ((by rw [hg]; exact (bL (by repeat (first | (with_reducible first | exact HB.out | apply ak | apply ah | apply au) | exact HB.out))) : w.heap.size ≤ fJ)); clear HB; have HB := dX; have dI := gV; have Yr := iZ; have iQ := jG; clear dX gV iZ jG; clear hb gQ hg) | ((with_reducible refine gF (N := 8) rfl ?_); refine fP ?hg (N := 8) ?hd (cs := #[.string (⟨#[]⟩ : ByteArray), .string (⟨#[]⟩ : ByteArray), .slice none 0 0]) (t := 148) ?hr ?_; (case hd => rfl); (case hg => rfl); (case hr => first | (go_simp; done) | (go_simp; rfl)); intro dz hg w10 gQ hb; have dX := aj.mk (dM (g := fJ) (o := .cells #[.int .i64 eF, .int .i64 iK, .int .i64 jO] 157 (0, 0)) (by (with_reducible repeat (first | refine aG ?_ _ | refine aI ?_ | refine aA ?_ _)); exact dI.out) hb); have gV := aj.mk (bE (by repeat (first | (with_reducible first | exact HB.out | apply ak | apply ah | apply au | refine aR ?_ iQ.out) | exact HB.out)) hb); have iZ := aj.mk (gQ); have jG := aj.mk ((by rw [hg]; exact (bL (by repeat (first | (with_reducible first | exact HB.out | apply ak | apply ah | apply au | refine aR ?_ iQ.out) | exact HB.out))) : w.heap.size ≤ dz)); have qw := aj.mk ((by rw [hg]; exact (bL (by repeat (first | (with_reducible first | exact HB.out | apply ak | apply ah | apply au | refine aR ?_ iQ.out) | exact HB.out))) : w.heap.size ≤ dz)); have Ld := aj.mk ((by rw [hg]; exact Nat.ne_of_lt (jE (g := fJ) (o := .cells #[.int .i64 eF, .int .i64 iK, .int .i64 jO] 157 (0, 0)) (by (with_reducible repeat (first | refine aG ?_ _ | refine aI ?_ | refine aA ?_ _)); exact dI.out)) : fJ ≠ dz)); have Le := aj.mk ((by rw [hg]; exact Nat.ne_of_gt (jE (g := fJ) (o := .cells #[.int .i64 eF, .int .i64 iK, .int .i64 jO] 157 (0, 0)) (by (with_reducible repeat (first | refine aG ?_ _ | refine aI ?_ | refine aA ?_ _)); exact dI.out)) : dz ≠ fJ)); clear dI; clear HB; have dI := dX; have HB := gV; have dw := iZ; have Yt := jG; have kC := qw; have fD := Ld; have jS := Le; clear dX gV iZ jG qw Ld Le; clear hb gQ hg) | ((with_reducible refine gF (N := 10) rfl ?_); refine fP ?hg (N := 10) ?hd (cs := #[.string (⟨#[]⟩ : ByteArray), .string (⟨#[]⟩ : ByteArray), .slice none 0 0]) (t := 148) ?hr ?_; (case hd => rfl); (case hg => rfl); (case hr => first | (go_simp; done) | (go_simp; rfl)); intro fB hg TH gQ hb; have dX := aj.mk (dM (g := fJ) (o := .cells #[.int .i64 eF, .int .i64 iK, .int .i64 jO] 157 (0, 0)) (by (with_reducible repeat (first | refine aG ?_ _ | refine aI ?_ | refine aA ?_ _)); exact dI.out) hb); have gV := aj.mk (dM (g := dz) (o := .cells #[.string (⟨#[]⟩ : ByteArray), .string (⟨#[]⟩ : ByteArray), .slice none 0 0] 148 (0, 0)) (by (with_reducible repeat (first | refine aG ?_ _ | refine aI ?_ | refine aA ?_ _)); exact dw.out) hb); have iZ := aj.mk (bE (by repeat (first | (with_reducible first | exact HB.out | apply ak | apply ah | apply au | refine aR ?_ iQ.out | refine aR ?_ kC.out) | exact HB.out)) hb); have jG := aj.mk (gQ); have qw := aj.mk ((by rw [hg]; exact (bL (by repeat (first | (with_reducible first | exact HB.out | apply ak | apply ah | apply au | refine aR ?_ iQ.out | refine aR ?_ kC.out) | exact HB.out))) : w.heap.size ≤ fB)); have Ld := aj.mk ((by rw [hg]; exact (bL (by repeat (first | (with_reducible first | exact HB.out | apply ak | apply ah | apply au | refine aR ?_ iQ.out | refine aR ?_ kC.out) | exact HB.out))) : w.heap.size ≤ fB)); have Le := aj.mk ((by rw [hg]; exact Nat.ne_of_lt (jE (g := fJ) (o := .cells #[.int .i64 eF, .int .i64 iK, .int .i64 jO] 157 (0, 0)) (by (with_reducible repeat (first | refine aG ?_ _ | refine aI ?_ | refine aA ?_ _)); exact dI.out)) : fJ ≠ fB)); have Yu := aj.mk ((by rw [hg]; exact Nat.ne_of_gt (jE (g := fJ) (o := .cells #[.int .i64 eF, .int .i64 iK, .int .i64 jO] 157 (0, 0)) (by (with_reducible repeat (first | refine aG ?_ _ | refine aI ?_ | refine aA ?_ _)); exact dI.out)) : fB ≠ fJ)); have Yv := aj.mk ((by rw [hg]; exact Nat.ne_of_lt (jE (g := dz) (o := .cells #[.string (⟨#[]⟩ : ByteArray), .string (⟨#[]⟩ : ByteArray), .slice none 0 0] 148 (0, 0)) (by (with_reducible repeat (first | refine aG ?_ _ | refine aI ?_ | refine aA ?_ _)); exact dw.out)) : dz ≠ fB)); have Yw := aj.mk ((by rw [hg]; exact Nat.ne_of_gt (jE (g := dz) (o := .cells #[.string (⟨#[]⟩ : ByteArray), .string (⟨#[]⟩ : ByteArray), .slice none 0 0] 148 (0, 0)) (by (with_reducible repeat (first | refine aG ?_ _ | refine aI ?_ | refine aA ?_ _)); exact dw.out)) : fB ≠ dz)); clear dI; clear dw; clear HB; have dI := dX; have dw := gV; have HB := iZ; have dS := jG; have Yx := qw; have nA := Ld; have jT := Le; have nC := Yu; have gN := Yv; have eY := Yw; clear dX gV iZ jG qw Ld Le Yu Yv Yw; clear hb gQ hg; have aeZ := fD.out; have ae0 := jS.out; have ae1 := jT.out; have ae2 := nC.out; have NS : TH.cell? ⟨fJ, 0, none⟩ = some (.int .i64 eF) := (aM dI.out 0).trans rfl; have NT : TH.cell? ⟨fJ, 1, none⟩ = some (.int .i64 iK) := (aM dI.out 1).trans rfl; have NU : TH.cell? ⟨fJ, 2, none⟩ = some (.int .i64 jO) := (aM dI.out 2).trans rfl; have NV := ay dI.out 0; have NW := ay dI.out 1; have NY := ay dI.out 2; have ae3 := eY.out; have ae4 := gN.out; have NZ : TH.cell? ⟨fB, 0, none⟩ = some (.string (⟨#[]⟩ : ByteArray)) := (aM dS.out 0).trans rfl; have N7 : TH.cell? ⟨fB, 1, none⟩ = some (.string (⟨#[]⟩ : ByteArray)) := (aM dS.out 1).trans rfl; have N8 : TH.cell? ⟨fB, 2, none⟩ = some (.slice none 0 0) := (aM dS.out 2).trans rfl; have N9 := ay dS.out 0; have Oa := ay dS.out 1; have Oc := ay dS.out 2))
          go_loopg [1, 38] k (fun kq v1 v38 w' => ∃ (dQ : Int) (tF : Int) (gB : ByteArray) (fE : ByteArray) (gW : List ByteArray) (iL : Value), v1 = .int .i64 dQ ∧ v38 = .int .i64 tF ∧ aj (bV.l0 kq a0 dQ a2 iK tF eF iK jO (a0.extract (a1 : Int).toNat ((wrap64 (a1 + eF)) : Int).toNat) (⟨#[]⟩ : ByteArray) gW = some (r1, r2, r3, r4)) ∧ aj (kq ≤ k) ∧ aj (Kd.R Kd.string 9 w' w.heap.size (fun _ => True) iL gW) ∧ aj (w'.heap[fJ]? = some (.cells #[.int .i64 eF, .int .i64 iK, .int .i64 jO] 157 (0, 0))) ∧ aj (w'.heap[dz]? = some (.cells #[.string gB, .string fE, (.slice none 0 0)] 148 (0, 0))) ∧ aj (w'.heap[fB]? = some (.cells #[.string (a0.extract (a1 : Int).toNat ((wrap64 (a1 + eF)) : Int).toNat), .string (⟨#[]⟩ : ByteArray), iL] 148 (0, 0))) ∧ aj (Below w.heap.size w w'))
          case atStart => exact ⟨(wrap64 (a1 + eF)), (0), ((⟨#[]⟩ : ByteArray)), ((⟨#[]⟩ : ByteArray)), (([] : List ByteArray)), (.slice none 0 0), (by first | rfl | (simp; done) | (simp [*]; done) | (simp [B.aV]; done) | (simp [B.aW]; done)), (by first | rfl | (simp; done) | (simp [*]; done) | (simp [B.aV]; done) | (simp [B.aW]; done)), H', ⟨Nat.le_refl _⟩, ⟨by first | exact Kd.jB _ _ _ _ _ | exact Kd.kS _ _ _ _ _ | exact Kd.kT _ _ _ _ _ | exact Kd.kQ _ _ _ _ _ | exact Kd.kR _ _ _ _ _⟩, ⟨by (with_reducible repeat (first | refine aG ?_ _ | refine aI ?_ | refine aA ?_ _)); refine nM ?_ jT.out _; (with_reducible repeat (first | refine aG ?_ _ | refine aI ?_ | refine aA ?_ _)); exact dI.out⟩, ⟨by (with_reducible repeat (first | refine aG ?_ _ | refine aI ?_ | refine aA ?_ _)); refine nM ?_ gN.out _; (with_reducible repeat (first | refine aG ?_ _ | refine aI ?_ | refine aA ?_ _)); exact dw.out⟩, ⟨by (with_reducible repeat (first | refine aG ?_ _ | refine aI ?_ | refine aA ?_ _)); refine bU (cs := #[.string (⟨#[]⟩ : ByteArray), .string (⟨#[]⟩ : ByteArray), .slice none 0 0]) ?_ 0 _ rfl; (with_reducible repeat (first | refine aG ?_ _ | refine aI ?_ | refine aA ?_ _)); exact dS.out⟩, ⟨by repeat (first | (with_reducible first | exact HB.out | apply ak | apply ah | apply au | refine aR ?_ iQ.out | refine aR ?_ kC.out | refine aR ?_ nA.out) | exact HB.out)⟩⟩
          case round =>
            clear H'
            try clear c1
            try clear p2
            try clear c5
            try clear oN
            try clear uF
            try clear c6
            try clear yO
            try clear KT
            try clear p6
            try clear c7
            try clear tu
            try clear Io
            try clear c8
            try clear qV
            try clear qW
            try clear c12
            try clear c13
            try clear c15
            try clear NS
            try clear NT
            try clear NU
            try clear NZ
            try clear N7
            try clear N8
            try clear NV
            try clear NW
            try clear NY
            try clear N9
            try clear Oa
            try clear Oc
            obtain ⟨dQ, tF, gB, fE, gW, iL, rfl, rfl, HA, sQ, dN, dI, dw, dS, HB⟩ := hrel
            cases gk with
            | zero => exact absurd HA.out (by simp [bV.l0])
            | succ k1 =>
              have H := HA.out
              clear HA
              simp only [bV.l0] at H
              by_cases c17 : tF < iK
              · rw [if_pos c17] at H
                have QC : decide (tF < iK) = true := decide_eq_true c17
                clear c17
                replace H := zbm H
                obtain ⟨⟨EZ, yQ, t127⟩, La, H⟩ := H
                replace H : (if t127 = 0 then (if yQ > a2 then (some ((⟨#[]⟩ : ByteArray), (⟨#[]⟩ : ByteArray), ([] : List ByteArray), false)) else (if gW.length < 8796093022208 then (bV.l0 k1 a0 yQ a2 iK (wrap64 (tF + 1)) eF iK jO (a0.extract (a1 : Int).toNat ((wrap64 (a1 + eF)) : Int).toNat) (⟨#[]⟩ : ByteArray) (gW ++ [EZ])) else (none))) else (some ((⟨#[]⟩ : ByteArray), (⟨#[]⟩ : ByteArray), ([] : List ByteArray), false))) = some (r1, r2, r3, r4) := H
                have TD := aj.mk La
                clear La
                by_cases c19 : t127 = 0
                · rw [if_pos c19] at H
                  have Yy : (t127 == 0) = true := beq_iff_eq.mpr c19
                  have Yz : (t127 != 0) = false := bne_eq_false_iff_eq.mpr c19
                  clear c19
                  by_cases c20 : yQ > a2
                  · rw [if_pos c20] at H
                    have Lb : decide (a2 < yQ) = true := decide_eq_true c20
                    clear c20
                    simp only [Option.some.injEq, Prod.mk.injEq] at H
                    obtain ⟨rfl, rfl, rfl, rfl⟩ := H
                    go_wp2_with (first | ((with_reducible refine aQ (f := 125) rfl ?_); refine bP (some 43) rfl rfl Try.func125 (by kernel_rfl) rfl #[.string a0, .int .i64 dQ] rfl (by (try simp only [List.map_toArray, List.map_cons, List.map_nil]); first | done | rfl | (simp only [List.length_drop, List.length_take]; rfl) | (simp only [ByteArray.size_append, Int.natCast_add]; rfl) | (rw [B.dO] <;> first | rfl | omega | (simp only [decide_eq_false_iff_not, decide_eq_true_eq, Int.not_lt, Nat.not_lt, gt_iff_lt] at * <;> omega))) ?_; (with_reducible refine (bF.calls k1 a0 dQ EZ yQ t127 _ TD.out).mono ?_); rintro e w21 ⟨rfl, hb⟩; refine ⟨_, rfl, ?_⟩; have dX := aj.mk (Kd.j3 (by (with_reducible repeat (first | apply Kd.eU | apply Kd.fG | apply Kd.fQ)); exact dN.out) hb); have gV := aj.mk (dM (g := fJ) (o := .cells #[.int .i64 eF, .int .i64 iK, .int .i64 jO] 157 (0, 0)) (by (with_reducible repeat (first | refine aG ?_ _ | refine aI ?_ | refine aA ?_ _)); exact dI.out) hb); have iZ := aj.mk (dM (g := dz) (o := .cells #[.string gB, .string fE, .slice none 0 0] 148 (0, 0)) (by (with_reducible repeat (first | refine aG ?_ _ | refine aI ?_ | refine aA ?_ _)); exact dw.out) hb); have jG := aj.mk (dM (g := fB) (o := .cells #[.string (a0.extract (a1 : Int).toNat ((wrap64 (a1 + eF)) : Int).toNat), .string (⟨#[]⟩ : ByteArray), iL] 148 (0, 0)) (by (with_reducible repeat (first | refine aG ?_ _ | refine aI ?_ | refine aA ?_ _)); exact dS.out) hb); have qw := aj.mk (bE (by repeat (first | (with_reducible first | exact HB.out | apply ak | apply ah | apply au | refine aR ?_ iQ.out | refine aR ?_ kC.out | refine aR ?_ nA.out) | exact HB.out)) hb); clear dN; clear dI; clear dw; clear dS; clear HB; have dN := dX; have dI := gV; have dw := iZ; have dS := jG; have HB := qw; clear dX gV iZ jG qw; (try clear hb); (try clear hb2); (try clear hk); (try clear hi); have ae5 := jS.out; have ae6 := fD.out; have ae7 := gN.out; have ae8 := eY.out; have aaL : w21.cell? ⟨dz, 0, none⟩ = some (.string gB) := (aM dw.out 0).trans rfl; have aaM : w21.cell? ⟨dz, 1, none⟩ = some (.string fE) := (aM dw.out 1).trans rfl; have aaN : w21.cell? ⟨dz, 2, none⟩ = some (.slice none 0 0) := (aM dw.out 2).trans rfl; have aaO := ay dw.out 0; have aaP := ay dw.out 1; have aaQ := ay dw.out 2))
                    refine bodyPost_ret (jN rfl _ _ dz 148 #[.string (⟨#[]⟩ : ByteArray), .string (⟨#[]⟩ : ByteArray), .slice none 0 0] (0, 0) _ rfl (by (with_reducible repeat (first | refine aG ?_ _ | refine aI ?_ | refine aA ?_ _)); refine bU (cs := #[.string (⟨#[]⟩ : ByteArray), .string (⟨#[]⟩ : ByteArray), .slice none 0 0]) ?_ 2 _ rfl; (with_reducible repeat (first | refine aG ?_ _ | refine aI ?_ | refine aA ?_ _)); refine bU (cs := #[.string (⟨#[]⟩ : ByteArray), .string fE, .slice none 0 0]) ?_ 1 _ rfl; (with_reducible repeat (first | refine aG ?_ _ | refine aI ?_ | refine aA ?_ _)); refine bU (cs := #[.string gB, .string fE, .slice none 0 0]) ?_ 0 _ rfl; (with_reducible repeat (first | refine aG ?_ _ | refine aI ?_ | refine aA ?_ _)); exact dw.out) Try.underlying148 rfl (by kernel_rfl)) rfl ?_
                    exact ⟨_, by first | rfl | (simp [aJ, aK] <;> rfl) | (simp [*, aJ, aK] <;> rfl), by first | exact Kd.jB _ _ _ _ _ | exact Kd.kS _ _ _ _ _ | exact Kd.kT _ _ _ _ _ | exact Kd.kQ _ _ _ _ _ | exact Kd.kR _ _ _ _ _, by repeat (first | (with_reducible first | exact HB.out | apply ak | apply ah | apply au | refine aR ?_ iQ.out | refine aR ?_ kC.out | refine aR ?_ nA.out) | exact HB.out)⟩
                  · rw [if_neg c20] at H
                    have Lb : decide (a2 < yQ) = false := decide_eq_false c20
                    clear c20
                    by_cases LP : gW.length < 8796093022208
                    · rw [if_pos LP] at H
                      have YA := aj.mk LP
                      clear LP
                      obtain ⟨Od, hy128⟩ : ∃ y_ : List ByteArray, y_ = (gW ++ [EZ]) := ⟨_, rfl⟩
                      replace H : (bV.l0 k1 a0 yQ a2 iK (wrap64 (tF + 1)) eF iK jO (a0.extract (a1 : Int).toNat ((wrap64 (a1 + eF)) : Int).toNat) (⟨#[]⟩ : ByteArray) Od) = some (r1, r2, r3, r4) := by first | (rw [hy128]; with_reducible exact H) | (have ES := (Option.bind_some _ _).symm.trans H; rw [hy128]; with_reducible exact ES) | (have ES := (Option.bind_some _ _).symm.trans H; with_reducible exact ES) | with_reducible exact H | (rw [hy128]; exact H) | exact H
                      have YB := aj.mk hy128
                      clear hy128
                      have H' := aj.mk H
                      clear H
                      go_wp2_with (first | ((with_reducible refine aQ (f := 125) rfl ?_); refine bP (some 43) rfl rfl Try.func125 (by kernel_rfl) rfl #[.string a0, .int .i64 dQ] rfl (by (try simp only [List.map_toArray, List.map_cons, List.map_nil]); first | done | rfl | (simp only [List.length_drop, List.length_take]; rfl) | (simp only [ByteArray.size_append, Int.natCast_add]; rfl) | (rw [B.dO] <;> first | rfl | omega | (simp only [decide_eq_false_iff_not, decide_eq_true_eq, Int.not_lt, Nat.not_lt, gt_iff_lt] at * <;> omega))) ?_; (with_reducible refine (bF.calls k1 a0 dQ EZ yQ t127 _ TD.out).mono ?_); rintro e w26 ⟨rfl, hb⟩; refine ⟨_, rfl, ?_⟩; have dX := aj.mk (Kd.j3 (by (with_reducible repeat (first | apply Kd.eU | apply Kd.fG | apply Kd.fQ)); exact dN.out) hb); have gV := aj.mk (dM (g := fJ) (o := .cells #[.int .i64 eF, .int .i64 iK, .int .i64 jO] 157 (0, 0)) (by (with_reducible repeat (first | refine aG ?_ _ | refine aI ?_ | refine aA ?_ _)); exact dI.out) hb); have iZ := aj.mk (dM (g := dz) (o := .cells #[.string gB, .string fE, .slice none 0 0] 148 (0, 0)) (by (with_reducible repeat (first | refine aG ?_ _ | refine aI ?_ | refine aA ?_ _)); exact dw.out) hb); have jG := aj.mk (dM (g := fB) (o := .cells #[.string (a0.extract (a1 : Int).toNat ((wrap64 (a1 + eF)) : Int).toNat), .string (⟨#[]⟩ : ByteArray), iL] 148 (0, 0)) (by (with_reducible repeat (first | refine aG ?_ _ | refine aI ?_ | refine aA ?_ _)); exact dS.out) hb); have qw := aj.mk (bE (by repeat (first | (with_reducible first | exact HB.out | apply ak | apply ah | apply au | refine aR ?_ iQ.out | refine aR ?_ kC.out | refine aR ?_ nA.out) | exact HB.out)) hb); clear dN; clear dI; clear dw; clear dS; clear HB; have dN := dX; have dI := gV; have dw := iZ; have dS := jG; have HB := qw; clear dX gV iZ jG qw; (try clear hb); (try clear hb2); (try clear hk); (try clear hi); have ae9 := nC.out; have afa := jT.out; have afb := eY.out; have afc := gN.out; have aaR : w26.cell? ⟨fB, 0, none⟩ = some (.string (a0.extract (a1 : Int).toNat ((wrap64 (a1 + eF)) : Int).toNat)) := (aM dS.out 0).trans rfl; have aaS : w26.cell? ⟨fB, 1, none⟩ = some (.string (⟨#[]⟩ : ByteArray)) := (aM dS.out 1).trans rfl; have aaT : w26.cell? ⟨fB, 2, none⟩ = some (iL) := (aM dS.out 2).trans rfl; have aaU := ay dS.out 0; have aaV := ay dS.out 1; have aaW := ay dS.out 2) | ((with_reducible refine nN (b := .append) (xs := #[.tmp 56, .tmp 58]) rfl ?_); at_builtin; refine Kd.xq Kd.string (w0 := w) w.heap.size rfl (.tmp 56) (.tmp 58) 33 9 (.string ⟨#[]⟩) 16 rfl Try.underlying33 Gb rfl (by decide) (by omega) iL gW EZ [.string EZ] (fun _ => True) (fun _ => False) rfl rfl ?aP (fun _ hk => hk.elim) ?aF ?aO ?aB ?aS ?aL ?_; (case aP => exact rfl); (case aB => exact (by repeat (first | (with_reducible first | exact HB.out | apply ak | apply ah | apply au | refine aR ?_ iQ.out | refine aR ?_ kC.out | refine aR ?_ nA.out) | exact HB.out))); (case aF => exact (fun _ _ => trivial)); (case aO => exact (by (with_reducible repeat (first | apply Kd.eU | apply Kd.fG | apply Kd.fQ)); exact dN.out)); (case aS => exact (bL (by repeat (first | (with_reducible first | exact HB.out | apply ak | apply ah | apply au | refine aR ?_ iQ.out | refine aR ?_ kC.out | refine aR ?_ nA.out) | exact HB.out)))); (case aL => have := YA.out; omega); intro af5 w30 ho hb hg hat; rw [← YB.out] at ho; have dX := aj.mk (pJ (g := fJ) (o := .cells #[.int .i64 eF, .int .i64 iK, .int .i64 jO] 157 (0, 0)) (by (with_reducible repeat (first | refine aG ?_ _ | refine aI ?_ | refine aA ?_ _)); exact dI.out) hg (Kd.Nv dN.out dI.out (by decide))); have gV := aj.mk (pJ (g := dz) (o := .cells #[.string gB, .string fE, .slice none 0 0] 148 (0, 0)) (by (with_reducible repeat (first | refine aG ?_ _ | refine aI ?_ | refine aA ?_ _)); exact dw.out) hg (Kd.Nv dN.out dw.out (by decide))); have iZ := aj.mk (pJ (g := fB) (o := .cells #[.string (a0.extract (a1 : Int).toNat ((wrap64 (a1 + eF)) : Int).toNat), .string (⟨#[]⟩ : ByteArray), iL] 148 (0, 0)) (by (with_reducible repeat (first | refine aG ?_ _ | refine aI ?_ | refine aA ?_ _)); exact dS.out) hg (Kd.Nv dN.out dS.out (by decide))); have jG := aj.mk (hb); have qw := aj.mk (ho); clear dI; clear dw; clear dS; clear HB; clear dN; have dI := dX; have dw := gV; have dS := iZ; have HB := jG; have QD := qw; clear dX gV iZ jG qw; clear ho hb hg hat; obtain ⟨YC, YD, adF⟩ := Kd.vP QD.out; subst adF; have Gq : w30.cell? ⟨fB, 0, none⟩ = some (.string (a0.extract (a1 : Int).toNat ((wrap64 (a1 + eF)) : Int).toNat)) := (aM dS.out 0).trans rfl; have Gr : w30.cell? ⟨fB, 1, none⟩ = some (.string (⟨#[]⟩ : ByteArray)) := (aM dS.out 1).trans rfl; have Gs : w30.cell? ⟨fB, 2, none⟩ = some (iL) := (aM dS.out 2).trans rfl; have Gt := ay dS.out 0; have Gu := ay dS.out 1; have Gv := ay dS.out 2))
                      go_roundg k1
                      case measure => have := sQ.out; omega
                      case rel => exact ⟨(yQ), (wrap64 (tF + 1)), (gB), (fE), (Od), (.slice YC Od.length YD), (by first | rfl | (simp; done) | (simp [*]; done) | (simp [B.aV]; done) | (simp [B.aW]; done)), (by first | rfl | (simp; done) | (simp [*]; done) | (simp [B.aV]; done) | (simp [B.aW]; done)), H', ⟨by have := sQ.out; omega⟩, ⟨by (with_reducible repeat (first | apply Kd.eU | apply Kd.fG | apply Kd.fQ)); exact Kd.oJ (Kd.sJ (p := ⟨fB, 2, none⟩) (Kd.sK QD.out dS.out (by decide)) (fun _ hk => hk.2) (.slice YC Od.length YD)) (fun _ hk => trivial)⟩, ⟨by (with_reducible repeat (first | refine aG ?_ _ | refine aI ?_ | refine aA ?_ _)); refine nM ?_ jT.out _; (with_reducible repeat (first | refine aG ?_ _ | refine aI ?_ | refine aA ?_ _)); exact dI.out⟩, ⟨by (with_reducible repeat (first | refine aG ?_ _ | refine aI ?_ | refine aA ?_ _)); refine nM ?_ gN.out _; (with_reducible repeat (first | refine aG ?_ _ | refine aI ?_ | refine aA ?_ _)); exact dw.out⟩, ⟨by (with_reducible repeat (first | refine aG ?_ _ | refine aI ?_ | refine aA ?_ _)); refine bU (cs := #[.string (a0.extract (a1 : Int).toNat ((wrap64 (a1 + eF)) : Int).toNat), .string (⟨#[]⟩ : ByteArray), iL]) ?_ 2 _ rfl; (with_reducible repeat (first | refine aG ?_ _ | refine aI ?_ | refine aA ?_ _)); exact dS.out⟩, ⟨by repeat (first | (with_reducible first | exact HB.out | apply ak | apply ah | apply au | refine aR ?_ iQ.out | refine aR ?_ kC.out | refine aR ?_ nA.out) | exact HB.out)⟩⟩
                    · rw [if_neg LP] at H
                      exact absurd H (by simp)
                · rw [if_neg c19] at H
                  have Yy : (t127 == 0) = false := beq_eq_false_iff_ne.mpr c19
                  have Yz : (t127 != 0) = true := bne_iff_ne.mpr c19
                  simp only [Option.some.injEq, Prod.mk.injEq] at H
                  obtain ⟨rfl, rfl, rfl, rfl⟩ := H
                  go_wp2_with (first | ((with_reducible refine aQ (f := 125) rfl ?_); refine bP (some 43) rfl rfl Try.func125 (by kernel_rfl) rfl #[.string a0, .int .i64 dQ] rfl (by (try simp only [List.map_toArray, List.map_cons, List.map_nil]); first | done | rfl | (simp only [List.length_drop, List.length_take]; rfl) | (simp only [ByteArray.size_append, Int.natCast_add]; rfl) | (rw [B.dO] <;> first | rfl | omega | (simp only [decide_eq_false_iff_not, decide_eq_true_eq, Int.not_lt, Nat.not_lt, gt_iff_lt] at * <;> omega))) ?_; (with_reducible refine (bF.calls k1 a0 dQ EZ yQ t127 _ TD.out).mono ?_); rintro e w33 ⟨rfl, hb⟩; refine ⟨_, rfl, ?_⟩; have dX := aj.mk (Kd.j3 (by (with_reducible repeat (first | apply Kd.eU | apply Kd.fG | apply Kd.fQ)); exact dN.out) hb); have gV := aj.mk (dM (g := fJ) (o := .cells #[.int .i64 eF, .int .i64 iK, .int .i64 jO] 157 (0, 0)) (by (with_reducible repeat (first | refine aG ?_ _ | refine aI ?_ | refine aA ?_ _)); exact dI.out) hb); have iZ := aj.mk (dM (g := dz) (o := .cells #[.string gB, .string fE, .slice none 0 0] 148 (0, 0)) (by (with_reducible repeat (first | refine aG ?_ _ | refine aI ?_ | refine aA ?_ _)); exact dw.out) hb); have jG := aj.mk (dM (g := fB) (o := .cells #[.string (a0.extract (a1 : Int).toNat ((wrap64 (a1 + eF)) : Int).toNat), .string (⟨#[]⟩ : ByteArray), iL] 148 (0, 0)) (by (with_reducible repeat (first | refine aG ?_ _ | refine aI ?_ | refine aA ?_ _)); exact dS.out) hb); have qw := aj.mk (bE (by repeat (first | (with_reducible first | exact HB.out | apply ak | apply ah | apply au | refine aR ?_ iQ.out | refine aR ?_ kC.out | refine aR ?_ nA.out) | exact HB.out)) hb); clear dN; clear dI; clear dw; clear dS; clear HB; have dN := dX; have dI := gV; have dw := iZ; have dS := jG; have HB := qw; clear dX gV iZ jG qw; (try clear hb); (try clear hb2); (try clear hk); (try clear hi); have afd := jS.out; have afe := fD.out; have aff := gN.out; have afg := eY.out; have aaX : w33.cell? ⟨dz, 0, none⟩ = some (.string gB) := (aM dw.out 0).trans rfl; have aaY : w33.cell? ⟨dz, 1, none⟩ = some (.string fE) := (aM dw.out 1).trans rfl; have aaZ : w33.cell? ⟨dz, 2, none⟩ = some (.slice none 0 0) := (aM dw.out 2).trans rfl; have aa0 := ay dw.out 0; have aa1 := ay dw.out 1; have aa2 := ay dw.out 2))
                  refine bodyPost_ret (jN rfl _ _ dz 148 #[.string (⟨#[]⟩ : ByteArray), .string (⟨#[]⟩ : ByteArray), .slice none 0 0] (0, 0) _ rfl (by (with_reducible repeat (first | refine aG ?_ _ | refine aI ?_ | refine aA ?_ _)); refine bU (cs := #[.string (⟨#[]⟩ : ByteArray), .string (⟨#[]⟩ : ByteArray), .slice none 0 0]) ?_ 2 _ rfl; (with_reducible repeat (first | refine aG ?_ _ | refine aI ?_ | refine aA ?_ _)); refine bU (cs := #[.string (⟨#[]⟩ : ByteArray), .string fE, .slice none 0 0]) ?_ 1 _ rfl; (with_reducible repeat (first | refine aG ?_ _ | refine aI ?_ | refine aA ?_ _)); refine bU (cs := #[.string gB, .string fE, .slice none 0 0]) ?_ 0 _ rfl; (with_reducible repeat (first | refine aG ?_ _ | refine aI ?_ | refine aA ?_ _)); exact dw.out) Try.underlying148 rfl (by kernel_rfl)) rfl ?_
                  exact ⟨_, by first | rfl | (simp [aJ, aK] <;> rfl) | (simp [*, aJ, aK] <;> rfl), by first | exact Kd.jB _ _ _ _ _ | exact Kd.kS _ _ _ _ _ | exact Kd.kT _ _ _ _ _ | exact Kd.kQ _ _ _ _ _ | exact Kd.kR _ _ _ _ _, by repeat (first | (with_reducible first | exact HB.out | apply ak | apply ah | apply au | refine aR ?_ iQ.out | refine aR ?_ kC.out | refine aR ?_ nA.out) | exact HB.out)⟩
              · rw [if_neg c17] at H
                have QC : decide (tF < iK) = false := decide_eq_false c17
                clear c17
                by_cases c37 : 0 ≤ dQ
                · rw [if_pos c37] at H
                  have afh := eq_true c37
                  have afi : decide (0 ≤ dQ) = true := decide_eq_true c37
                  clear c37
                  by_cases I8 : dQ ≤ a2
                  · rw [if_pos I8] at H
                    have QE := eq_true I8
                    have afj : decide (dQ ≤ a2) = true := decide_eq_true I8
                    clear I8
                    by_cases YE : a2 ≤ (a0.size : Int)
                    · rw [if_pos YE] at H
                      have afk := eq_true YE
                      have afl : decide (a2 ≤ (a0.size : Int)) = true := decide_eq_true YE
                      clear YE
                      simp only [Option.some.injEq, Prod.mk.injEq] at H
                      obtain ⟨rfl, rfl, rfl, rfl⟩ := H
                      have afm := nC.out
                      have afn := jT.out
                      have afo := eY.out
                      have afp := gN.out
                      have Oe : wr.cell? ⟨fB, 0, none⟩ = some (.string (a0.extract (a1 : Int).toNat ((wrap64 (a1 + eF)) : Int).toNat)) := (aM dS.out 0).trans rfl
                      have Og : wr.cell? ⟨fB, 1, none⟩ = some (.string (⟨#[]⟩ : ByteArray)) := (aM dS.out 1).trans rfl
                      have Oh : wr.cell? ⟨fB, 2, none⟩ = some (iL) := (aM dS.out 2).trans rfl
                      have Oi := ay dS.out 0
                      have Oj := ay dS.out 1
                      have Ol := ay dS.out 2
                      try go_wp2
                      have dX : aj (Kd.R Kd.string 9 (wr.setCell ⟨fB, 1, none⟩ (.string (a0.extract (dQ : Int).toNat (a2 : Int).toNat))) w.heap.size (fun _ => True) iL gW) := ⟨by (with_reducible repeat (first | apply Kd.eU | apply Kd.fG | apply Kd.fQ)); exact Kd.oJ (Kd.sJ (p := ⟨fB, 1, none⟩) (Kd.sK dN.out dS.out (by decide)) (fun _ hk => hk.2) (.string (a0.extract (dQ : Int).toNat (a2 : Int).toNat))) (fun _ hk => trivial)⟩
                      have gV : aj ((wr.setCell ⟨fB, 1, none⟩ (.string (a0.extract (dQ : Int).toNat (a2 : Int).toNat))).heap[fJ]? = some (.cells #[.int .i64 eF, .int .i64 iK, .int .i64 jO] 157 (0, 0))) := ⟨by (with_reducible repeat (first | refine aG ?_ _ | refine aI ?_ | refine aA ?_ _)); refine nM ?_ jT.out _; (with_reducible repeat (first | refine aG ?_ _ | refine aI ?_ | refine aA ?_ _)); exact dI.out⟩
                      have iZ : aj ((wr.setCell ⟨fB, 1, none⟩ (.string (a0.extract (dQ : Int).toNat (a2 : Int).toNat))).heap[dz]? = some (.cells #[.string gB, .string fE, .slice none 0 0] 148 (0, 0))) := ⟨by (with_reducible repeat (first | refine aG ?_ _ | refine aI ?_ | refine aA ?_ _)); refine nM ?_ gN.out _; (with_reducible repeat (first | refine aG ?_ _ | refine aI ?_ | refine aA ?_ _)); exact dw.out⟩
                      have jG : aj ((wr.setCell ⟨fB, 1, none⟩ (.string (a0.extract (dQ : Int).toNat (a2 : Int).toNat))).heap[fB]? = some (.cells #[.string (a0.extract (a1 : Int).toNat ((wrap64 (a1 + eF)) : Int).toNat), .string (a0.extract (dQ : Int).toNat (a2 : Int).toNat), iL] 148 (0, 0))) := ⟨by (with_reducible repeat (first | refine aG ?_ _ | refine aI ?_ | refine aA ?_ _)); refine bU (cs := #[.string (a0.extract (a1 : Int).toNat ((wrap64 (a1 + eF)) : Int).toNat), .string (⟨#[]⟩ : ByteArray), iL]) ?_ 1 _ rfl; (with_reducible repeat (first | refine aG ?_ _ | refine aI ?_ | refine aA ?_ _)); exact dS.out⟩
                      have qw : aj (Below w.heap.size w (wr.setCell ⟨fB, 1, none⟩ (.string (a0.extract (dQ : Int).toNat (a2 : Int).toNat)))) := ⟨by repeat (first | (with_reducible first | exact HB.out | apply ak | apply ah | apply au | refine aR ?_ iQ.out | refine aR ?_ kC.out | refine aR ?_ nA.out) | exact HB.out)⟩
                      (try clear dN)
                      (try clear dI)
                      (try clear dw)
                      (try clear dS)
                      (try clear HB)
                      generalize (wr.setCell ⟨fB, 1, none⟩ (.string (a0.extract (dQ : Int).toNat (a2 : Int).toNat))) = w43 at dX gV iZ jG qw ⊢
                      have dN := dX
                      have dI := gV
                      have dw := iZ
                      have dS := jG
                      have HB := qw
                      clear dX gV iZ jG qw
                      have dX := aj.mk (Kd.fQ dN.out)
                      have gV := aj.mk (aI dI.out)
                      have iZ := aj.mk (aI dw.out)
                      have jG := aj.mk (aI dS.out)
                      have qw := aj.mk (au HB.out)
                      clear dN
                      clear dI
                      clear dw
                      clear dS
                      clear HB
                      have dN := dX
                      have dI := gV
                      have dw := iZ
                      have dS := jG
                      have HB := qw
                      clear dX gV iZ jG qw
                      obtain ⟨TI, TJ, YF⟩ := Kd.vP dN.out
                      (first | subst YF | (injection YF with f1_ f2_ f3_; have f4_ := f1_.symm; have f5_ := f3_.symm; clear f1_ f2_ f3_; subst f4_; subst f5_))
                      refine KH (n := 9) (S := fun w' => w'.cell? ⟨fB, 0, none⟩ = some (.string (a0.extract (a1 : Int).toNat ((wrap64 (a1 + eF)) : Int).toNat)) ∧ w'.cell? ⟨fB, 1, none⟩ = some (.string (a0.extract (dQ : Int).toNat (a2 : Int).toNat)) ∧ w'.cell? ⟨fB, 2, none⟩ = some (.slice TI gW.length TJ) ∧ w'.cell? ⟨fJ, 0, none⟩ = some (.int .i64 eF) ∧ w'.cell? ⟨fJ, 1, none⟩ = some (.int .i64 iK) ∧ w'.cell? ⟨fJ, 2, none⟩ = some (.int .i64 jO)) (ds := []) #[false, false, false, false, false, false, false, false, false] (by kernel_rfl) rfl rfl ⟨(aM dS.out 0).trans rfl, (aM dS.out 1).trans rfl, (aM dS.out 2).trans rfl, (aM dI.out 0).trans rfl, (aM dI.out 1).trans rfl, (aM dI.out 2).trans rfl⟩ (fun hHeld => ?_); refine zC bV.Yp bV.TG (fun vE HW_ => ?_)
                      generalize w43.drew = w44 at dN dI dw dS HB hHeld ⊢
                      refine lu (i := 1) (N := some 69) (v := ?_) (a' := ?_) #[false, true, false, false, false, false, false, false, false] rfl rfl (jF vE.out (by kernel_rfl)) (fun _ _ _ h => h) (Or.inl ⟨by rfl, ?_⟩) ?_ ?_
                      rotate_left
                      · intro w'
                        go_simp
                        with_reducible rfl
                      rotate_left
                      · simp only [Act.put, List.setIfInBounds_toArray, List.set_cons_zero, List.set_cons_succ, gM, gZ]
                        rfl
                      refine lu (i := 4) (N := some 72) (v := ?_) (a' := ?_) #[false, true, false, false, true, false, false, false, false] rfl rfl (jF vE.out (by kernel_rfl)) (fun _ _ _ h => h) (Or.inl ⟨by rfl, ?_⟩) ?_ ?_
                      rotate_left
                      · intro w'
                        go_simp
                        with_reducible rfl
                      rotate_left
                      · simp only [Act.put, List.setIfInBounds_toArray, List.set_cons_zero, List.set_cons_succ, gM, gZ]
                        rfl
                      refine Df (i := 0) (N := some 68) (v := ?_) (a' := ?_) #[true, true, false, false, true, false, false, false, false] rfl rfl (xL vE.out HW_.out (by kernel_rfl)) (fun _ _ _ h => h) (Or.inl ⟨by rfl, ?_⟩) hHeld ?_ ?_
                      rotate_left
                      · rintro w' ⟨s0, s1, s2, s3, s4, s5⟩
                        go_simp
                        with_reducible rfl
                      rotate_left
                      · simp only [Act.put, List.setIfInBounds_toArray, List.set_cons_zero, List.set_cons_succ, gM, gZ]
                        rfl
                      refine Df (i := 2) (N := some 70) (v := ?_) (a' := ?_) #[true, true, true, false, true, false, false, false, false] rfl rfl (xL vE.out HW_.out (by kernel_rfl)) (fun _ _ _ h => h) (Or.inl ⟨by rfl, ?_⟩) hHeld ?_ ?_
                      rotate_left
                      · rintro w' ⟨s0, s1, s2, s3, s4, s5⟩
                        go_simp
                        with_reducible rfl
                      rotate_left
                      · simp only [Act.put, List.setIfInBounds_toArray, List.set_cons_zero, List.set_cons_succ, gM, gZ]
                        rfl
                      refine lu (i := 3) (N := some 71) (v := ?_) (a' := ?_) #[true, true, true, true, true, false, false, false, false] rfl rfl (jF vE.out (by kernel_rfl)) (fun _ _ _ h => h) (Or.inl ⟨by rfl, ?_⟩) ?_ ?_
                      rotate_left
                      · intro w'
                        go_simp
                        with_reducible rfl
                      rotate_left
                      · simp only [Act.put, List.setIfInBounds_toArray, List.set_cons_zero, List.set_cons_succ, gM, gZ]
                        rfl
                      refine Df (i := 5) (N := some 73) (v := ?_) (a' := ?_) #[true, true, true, true, true, true, false, false, false] rfl rfl (xL vE.out HW_.out (by kernel_rfl)) (fun _ _ _ h => h) (Or.inl ⟨by rfl, ?_⟩) hHeld ?_ ?_
                      rotate_left
                      · rintro w' ⟨s0, s1, s2, s3, s4, s5⟩
                        go_simp
                        with_reducible rfl
                      rotate_left
                      · simp only [Act.put, List.setIfInBounds_toArray, List.set_cons_zero, List.set_cons_succ, gM, gZ]
                        rfl
                      refine lu (i := 6) (N := some 74) (v := ?_) (a' := ?_) #[true, true, true, true, true, true, true, false, false] rfl rfl (jF vE.out (by kernel_rfl)) (fun _ _ _ h => h) (Or.inl ⟨by rfl, ?_⟩) ?_ ?_
                      rotate_left
                      · intro w'
                        go_simp
                        with_reducible rfl
                      rotate_left
                      · simp only [Act.put, List.setIfInBounds_toArray, List.set_cons_zero, List.set_cons_succ, gM, gZ]
                        rfl
                      refine Tk (i := 7) (N := none) #[true, true, true, true, true, true, true, true, false] rfl rfl (ER vE.out (by kernel_rfl)) (by decide) (fun K hK => ?_)
                      have af6 : w44.cell? ⟨dz, 0, none⟩ = some (.string gB) := (aM dw.out 0).trans rfl
                      have afq := ay dw.out 0
                      have aa3 := fD.out
                      have aa4 := eY.out
                      have aa5 := jS.out
                      have aa6 := gN.out
                      have af7 : w44.cell? ⟨dz, 1, none⟩ = some (.string fE) := (aM dw.out 1).trans rfl
                      have afr := ay dw.out 1
                      have aa7 := fD.out
                      have aa8 := eY.out
                      have aa9 := jS.out
                      have abb := gN.out
                      have af8 : w44.cell? ⟨dz, 2, none⟩ = some (.slice none 0 0) := (aM dw.out 2).trans rfl
                      have afs := ay dw.out 2
                      have abd := fD.out
                      have abe := eY.out
                      have abf := jS.out
                      have abg := gN.out
                      refine XB (w1 := ?_) (by rfl) rfl ?_ ?_
                      rotate_left
                      · go_simp
                        rfl
                      refine hK.out _ _ ⟨((cell_far (p := ⟨dz, _, none⟩) eY.out _).trans (((cell_far (p := ⟨dz, _, none⟩) eY.out _).trans (((cell_far (p := ⟨dz, _, none⟩) eY.out _).trans (hHeld.1)))))), ((cell_far (p := ⟨dz, _, none⟩) eY.out _).trans (((cell_far (p := ⟨dz, _, none⟩) eY.out _).trans (((cell_far (p := ⟨dz, _, none⟩) eY.out _).trans (hHeld.2.1)))))), ((cell_far (p := ⟨dz, _, none⟩) eY.out _).trans (((cell_far (p := ⟨dz, _, none⟩) eY.out _).trans (((cell_far (p := ⟨dz, _, none⟩) eY.out _).trans (hHeld.2.2.1)))))), ((cell_far (p := ⟨dz, _, none⟩) fD.out _).trans (((cell_far (p := ⟨dz, _, none⟩) fD.out _).trans (((cell_far (p := ⟨dz, _, none⟩) fD.out _).trans (hHeld.2.2.2.1)))))), ((cell_far (p := ⟨dz, _, none⟩) fD.out _).trans (((cell_far (p := ⟨dz, _, none⟩) fD.out _).trans (((cell_far (p := ⟨dz, _, none⟩) fD.out _).trans (hHeld.2.2.2.2.1)))))), ((cell_far (p := ⟨dz, _, none⟩) fD.out _).trans (((cell_far (p := ⟨dz, _, none⟩) fD.out _).trans (((cell_far (p := ⟨dz, _, none⟩) fD.out _).trans (hHeld.2.2.2.2.2))))))⟩ (fun hHeld => ?_)
                      clear hK K
                      refine lu (i := 8) (N := some 9) (v := ?_) (a' := ?_) #[true, true, true, true, true, true, true, true, true] rfl rfl (jF vE.out (by kernel_rfl)) (fun _ _ _ h => h) (Or.inl ⟨by rfl, ?_⟩) ?_ ?_
                      rotate_left
                      · intro w'
                        go_simp
                        with_reducible rfl
                      rotate_left
                      · simp only [Act.put, List.setIfInBounds_toArray, List.set_cons_zero, List.set_cons_succ, gM, gZ]
                        rfl
                      refine Qq (F9 vE.out (by kernel_rfl)) ?_
                      try go_wp2
                      refine bodyPost_ret (jN rfl _ _ dz 148 #[.string (a0.extract (a1 : Int).toNat ((wrap64 (a1 + eF)) : Int).toNat), .string (a0.extract (dQ : Int).toNat (a2 : Int).toNat), .slice TI gW.length TJ] (0, 0) _ rfl (by (with_reducible repeat (first | refine aG ?_ _ | refine aI ?_ | refine aA ?_ _)); refine bU (cs := #[.string (a0.extract (a1 : Int).toNat ((wrap64 (a1 + eF)) : Int).toNat), .string (a0.extract (dQ : Int).toNat (a2 : Int).toNat), .slice none 0 0]) ?_ 2 _ rfl; (with_reducible repeat (first | refine aG ?_ _ | refine aI ?_ | refine aA ?_ _)); refine bU (cs := #[.string (a0.extract (a1 : Int).toNat ((wrap64 (a1 + eF)) : Int).toNat), .string fE, .slice none 0 0]) ?_ 1 _ rfl; (with_reducible repeat (first | refine aG ?_ _ | refine aI ?_ | refine aA ?_ _)); refine bU (cs := #[.string gB, .string fE, .slice none 0 0]) ?_ 0 _ rfl; (with_reducible repeat (first | refine aG ?_ _ | refine aI ?_ | refine aA ?_ _)); exact dw.out) Try.underlying148 rfl (by kernel_rfl)) rfl ?_
                      exact ⟨_, by first | rfl | (simp [aJ, aK] <;> rfl) | (simp [*, aJ, aK] <;> rfl), by (with_reducible repeat (first | apply Kd.eU | apply Kd.fG | apply Kd.fQ)); exact Kd.oJ (Kd.sJ (p := ⟨dz, 2, none⟩) (Kd.sJ (p := ⟨dz, 1, none⟩) (Kd.sJ (p := ⟨dz, 0, none⟩) (Kd.sK dN.out dw.out (by decide)) (fun _ hk => hk.2) (.string (a0.extract (a1 : Int).toNat ((wrap64 (a1 + eF)) : Int).toNat))) (fun _ hk => hk.2) (.string (a0.extract (dQ : Int).toNat (a2 : Int).toNat))) (fun _ hk => hk.2) (.slice TI gW.length TJ)) (fun _ hk => trivial), by repeat (first | (with_reducible first | exact HB.out | apply ak | apply ah | apply au | refine aR ?_ iQ.out | refine aR ?_ kC.out | refine aR ?_ nA.out) | exact HB.out)⟩
                    · rw [if_neg YE] at H
                      exact absurd H (by simp)
                  · rw [if_neg I8] at H
                    exact absurd H (by simp)
                · rw [if_neg c37] at H
                  exact absurd H (by simp)
        · rw [if_neg c8] at H
          exact absurd H (by simp)
      · rw [if_neg c7] at H
        exact absurd H (by simp)
    · rw [if_neg c6] at H
      exact absurd H (by simp)
  · rw [if_neg c5] at H
    have oN : decide (eF ≤ (wrap64 (a2 - a1))) = false := decide_eq_false c5
    (try (have uF : decide (eF ≤ ((a2 - a1))) = false := by have h_ : decide (eF ≤ (wrap64 (a2 - a1))) = false := decide_eq_false c5; rw [B.dO (by omega) (by omega)] at h_; exact h_))
    clear c5
    simp only [Option.some.injEq, Prod.mk.injEq] at H
    obtain ⟨rfl, rfl, rfl, rfl⟩ := H
    go_enter Try.func121, Try.ntmps121
    go_wp2_with (first | ((with_reducible refine gF (N := 7) rfl ?_); refine fP ?hg (N := 7) ?hd (cs := #[.int .i64 eF, .int .i64 iK, .int .i64 jO]) (t := 157) ?hr ?_; (case hd => rfl); (case hg => rfl); (case hr => first | (go_simp; done) | (go_simp; rfl)); intro fJ hg w49 gQ hb; have dX := aj.mk (bE (by repeat (first | (with_reducible first | exact HB.out | apply ak | apply ah | apply au) | exact HB.out)) hb); have gV := aj.mk (gQ); have iZ := aj.mk ((by rw [hg]; exact (bL (by repeat (first | (with_reducible first | exact HB.out | apply ak | apply ah | apply au) | exact HB.out))) : w.heap.size ≤ fJ)); have jG := aj.mk ((by rw [hg]; exact (bL (by repeat (first | (with_reducible first | exact HB.out | apply ak | apply ah | apply au) | exact HB.out))) : w.heap.size ≤ fJ)); clear HB; have HB := dX; have dI := gV; have Yr := iZ; have iQ := jG; clear dX gV iZ jG; clear hb gQ hg) | ((with_reducible refine gF (N := 8) rfl ?_); refine fP ?hg (N := 8) ?hd (cs := #[.string (⟨#[]⟩ : ByteArray), .string (⟨#[]⟩ : ByteArray), .slice none 0 0]) (t := 148) ?hr ?_; (case hd => rfl); (case hg => rfl); (case hr => first | (go_simp; done) | (go_simp; rfl)); intro dz hg w50 gQ hb; have dX := aj.mk (dM (g := fJ) (o := .cells #[.int .i64 eF, .int .i64 iK, .int .i64 jO] 157 (0, 0)) (by (with_reducible repeat (first | refine aG ?_ _ | refine aI ?_ | refine aA ?_ _)); exact dI.out) hb); have gV := aj.mk (bE (by repeat (first | (with_reducible first | exact HB.out | apply ak | apply ah | apply au | refine aR ?_ iQ.out) | exact HB.out)) hb); have iZ := aj.mk (gQ); have jG := aj.mk ((by rw [hg]; exact (bL (by repeat (first | (with_reducible first | exact HB.out | apply ak | apply ah | apply au | refine aR ?_ iQ.out) | exact HB.out))) : w.heap.size ≤ dz)); have qw := aj.mk ((by rw [hg]; exact (bL (by repeat (first | (with_reducible first | exact HB.out | apply ak | apply ah | apply au | refine aR ?_ iQ.out) | exact HB.out))) : w.heap.size ≤ dz)); have Ld := aj.mk ((by rw [hg]; exact Nat.ne_of_lt (jE (g := fJ) (o := .cells #[.int .i64 eF, .int .i64 iK, .int .i64 jO] 157 (0, 0)) (by (with_reducible repeat (first | refine aG ?_ _ | refine aI ?_ | refine aA ?_ _)); exact dI.out)) : fJ ≠ dz)); have Le := aj.mk ((by rw [hg]; exact Nat.ne_of_gt (jE (g := fJ) (o := .cells #[.int .i64 eF, .int .i64 iK, .int .i64 jO] 157 (0, 0)) (by (with_reducible repeat (first | refine aG ?_ _ | refine aI ?_ | refine aA ?_ _)); exact dI.out)) : dz ≠ fJ)); clear dI; clear HB; have dI := dX; have HB := gV; have dw := iZ; have Yt := jG; have kC := qw; have fD := Ld; have jS := Le; clear dX gV iZ jG qw Ld Le; clear hb gQ hg) | ((with_reducible refine gF (N := 10) rfl ?_); refine fP ?hg (N := 10) ?hd (cs := #[.string (⟨#[]⟩ : ByteArray), .string (⟨#[]⟩ : ByteArray), .slice none 0 0]) (t := 148) ?hr ?_; (case hd => rfl); (case hg => rfl); (case hr => first | (go_simp; done) | (go_simp; rfl)); intro fB hg Vb gQ hb; have dX := aj.mk (dM (g := fJ) (o := .cells #[.int .i64 eF, .int .i64 iK, .int .i64 jO] 157 (0, 0)) (by (with_reducible repeat (first | refine aG ?_ _ | refine aI ?_ | refine aA ?_ _)); exact dI.out) hb); have gV := aj.mk (dM (g := dz) (o := .cells #[.string (⟨#[]⟩ : ByteArray), .string (⟨#[]⟩ : ByteArray), .slice none 0 0] 148 (0, 0)) (by (with_reducible repeat (first | refine aG ?_ _ | refine aI ?_ | refine aA ?_ _)); exact dw.out) hb); have iZ := aj.mk (bE (by repeat (first | (with_reducible first | exact HB.out | apply ak | apply ah | apply au | refine aR ?_ iQ.out | refine aR ?_ kC.out) | exact HB.out)) hb); have jG := aj.mk (gQ); have qw := aj.mk ((by rw [hg]; exact (bL (by repeat (first | (with_reducible first | exact HB.out | apply ak | apply ah | apply au | refine aR ?_ iQ.out | refine aR ?_ kC.out) | exact HB.out))) : w.heap.size ≤ fB)); have Ld := aj.mk ((by rw [hg]; exact (bL (by repeat (first | (with_reducible first | exact HB.out | apply ak | apply ah | apply au | refine aR ?_ iQ.out | refine aR ?_ kC.out) | exact HB.out))) : w.heap.size ≤ fB)); have Le := aj.mk ((by rw [hg]; exact Nat.ne_of_lt (jE (g := fJ) (o := .cells #[.int .i64 eF, .int .i64 iK, .int .i64 jO] 157 (0, 0)) (by (with_reducible repeat (first | refine aG ?_ _ | refine aI ?_ | refine aA ?_ _)); exact dI.out)) : fJ ≠ fB)); have Yu := aj.mk ((by rw [hg]; exact Nat.ne_of_gt (jE (g := fJ) (o := .cells #[.int .i64 eF, .int .i64 iK, .int .i64 jO] 157 (0, 0)) (by (with_reducible repeat (first | refine aG ?_ _ | refine aI ?_ | refine aA ?_ _)); exact dI.out)) : fB ≠ fJ)); have Yv := aj.mk ((by rw [hg]; exact Nat.ne_of_lt (jE (g := dz) (o := .cells #[.string (⟨#[]⟩ : ByteArray), .string (⟨#[]⟩ : ByteArray), .slice none 0 0] 148 (0, 0)) (by (with_reducible repeat (first | refine aG ?_ _ | refine aI ?_ | refine aA ?_ _)); exact dw.out)) : dz ≠ fB)); have Yw := aj.mk ((by rw [hg]; exact Nat.ne_of_gt (jE (g := dz) (o := .cells #[.string (⟨#[]⟩ : ByteArray), .string (⟨#[]⟩ : ByteArray), .slice none 0 0] 148 (0, 0)) (by (with_reducible repeat (first | refine aG ?_ _ | refine aI ?_ | refine aA ?_ _)); exact dw.out)) : fB ≠ dz)); clear dI; clear dw; clear HB; have dI := dX; have dw := gV; have HB := iZ; have dS := jG; have Yx := qw; have nA := Ld; have jT := Le; have nC := Yu; have gN := Yv; have eY := Yw; clear dX gV iZ jG qw Ld Le Yu Yv Yw; clear hb gQ hg; have aft := fD.out; have afu := jS.out; have afv := jT.out; have afw := nC.out; have abh : Vb.cell? ⟨fJ, 0, none⟩ = some (.int .i64 eF) := (aM dI.out 0).trans rfl; have abj : Vb.cell? ⟨fJ, 1, none⟩ = some (.int .i64 iK) := (aM dI.out 1).trans rfl; have abk : Vb.cell? ⟨fJ, 2, none⟩ = some (.int .i64 jO) := (aM dI.out 2).trans rfl; have abl := ay dI.out 0; have abm := ay dI.out 1; have abn := ay dI.out 2; have afx := gN.out; have afy := eY.out; have abo : Vb.cell? ⟨dz, 0, none⟩ = some (.string (⟨#[]⟩ : ByteArray)) := (aM dw.out 0).trans rfl; have abp : Vb.cell? ⟨dz, 1, none⟩ = some (.string (⟨#[]⟩ : ByteArray)) := (aM dw.out 1).trans rfl; have abq : Vb.cell? ⟨dz, 2, none⟩ = some (.slice none 0 0) := (aM dw.out 2).trans rfl; have abr := ay dw.out 0; have abt := ay dw.out 1; have abu := ay dw.out 2))
    refine bodyPost_ret (jN rfl _ _ dz 148 #[.string (⟨#[]⟩ : ByteArray), .string (⟨#[]⟩ : ByteArray), .slice none 0 0] (0, 0) _ rfl (by (with_reducible repeat (first | refine aG ?_ _ | refine aI ?_ | refine aA ?_ _)); refine bU (cs := #[.string (⟨#[]⟩ : ByteArray), .string (⟨#[]⟩ : ByteArray), .slice none 0 0]) ?_ 2 _ rfl; (with_reducible repeat (first | refine aG ?_ _ | refine aI ?_ | refine aA ?_ _)); refine bU (cs := #[.string (⟨#[]⟩ : ByteArray), .string (⟨#[]⟩ : ByteArray), .slice none 0 0]) ?_ 1 _ rfl; (with_reducible repeat (first | refine aG ?_ _ | refine aI ?_ | refine aA ?_ _)); refine bU (cs := #[.string (⟨#[]⟩ : ByteArray), .string (⟨#[]⟩ : ByteArray), .slice none 0 0]) ?_ 0 _ rfl; (with_reducible repeat (first | refine aG ?_ _ | refine aI ?_ | refine aA ?_ _)); exact dw.out) Try.underlying148 rfl (by kernel_rfl)) rfl ?_
    exact ⟨_, by first | rfl | (simp [aJ, aK] <;> rfl) | (simp [*, aJ, aK] <;> rfl), by first | exact Kd.jB _ _ _ _ _ | exact Kd.kS _ _ _ _ _ | exact Kd.kT _ _ _ _ _ | exact Kd.kQ _ _ _ _ _ | exact Kd.kR _ _ _ _ _, by repeat (first | (with_reducible first | exact HB.out | apply ak | apply ah | apply au | refine aR ?_ iQ.out | refine aR ?_ kC.out | refine aR ?_ nA.out) | exact HB.out)⟩
def dK.l0 : Nat → ByteArray → Option (Bool)
  | 0, _ => none
  | k + 1, x0 => if x0.toList = ([] : List UInt8) then (some true) else (if 0 < (x0.size : Int) then (if (wrap64 (1 + (wrap64 (bt x0 0)))) > (x0.size : Int) then (some false) else (if 0 ≤ (wrap64 (1 + (wrap64 (bt x0 0)))) then (if (wrap64 (1 + (wrap64 (bt x0 0)))) ≤ (x0.size : Int) then (dK.l0 k (x0.extract ((wrap64 (1 + (wrap64 (bt x0 0)))) : Int).toNat x0.size)) else (none)) else (none))) else (none))
def dK.f (k : Nat) (a0 : ByteArray) : Option (Bool) := if a0.toList = ([] : List UInt8) then (some false) else (dK.l0 k a0)
set_option maxHeartbeats 8000000 in
set_option maxRecDepth 100000 in
theorem dK.calls (k : Nat) (a0 : ByteArray) (r : Bool) (w : World) (h : dK.f k a0 = some r) :
    Calls Try.prog 122 #[.string a0] w fun e w' => e = .returned (.bool r) ∧ aY w w' := by
  have H : (if a0.toList = ([] : List UInt8) then (some false) else (dK.l0 k a0)) = some r := h
  clear h
  by_cases c2 : a0.toList = ([] : List UInt8)
  · rw [if_pos c2] at H
    have vD : (a0.toList == ([] : List UInt8)) = true := beq_iff_eq.mpr c2
    have Ii : (a0.toList != ([] : List UInt8)) = false := bne_eq_false_iff_eq.mpr c2
    have YG : a0.toList.isEmpty = true := List.isEmpty_iff.mpr c2
    clear c2
    obtain rfl := Option.some.inj H
    go_enter Try.func122, Try.ntmps122
    go_wp2
    go_ret
    exact ⟨by first | rfl | (simp; done) | (simp [*]; done), by repeat (first | exact aY.refl _ | apply aY.step)⟩
  · rw [if_neg c2] at H
    have vD : (a0.toList == ([] : List UInt8)) = false := beq_eq_false_iff_ne.mpr c2
    have Ii : (a0.toList != ([] : List UInt8)) = true := bne_iff_ne.mpr c2
    have YG : a0.toList.isEmpty = false := Bool.eq_false_iff.mpr (fun h_ => c2 (List.isEmpty_iff.mp h_))
    have H' := aj.mk H
    clear H
    go_enter Try.func122, Try.ntmps122
    go_wp2
    go_loopg [0] k (fun kq v0 w' => ∃ (bM : ByteArray), v0 = .string bM ∧ aj (dK.l0 kq bM = some r) ∧ aj (kq ≤ k) ∧ aY w w')
    case atStart => exact ⟨(a0), (by first | rfl | (simp; done) | (simp [*]; done) | (simp [B.aV]; done) | (simp [B.aW]; done)), H', ⟨Nat.le_refl _⟩, by repeat (first | exact aY.refl _ | apply aY.step)⟩
    case round =>
      clear H'
      try clear c1
      try clear c2
      try clear vD
      try clear Ii
      try clear YG
      try clear p2
      obtain ⟨bM, rfl, HA, sQ, ⟨m1, rfl⟩⟩ := hrel
      cases gk with
      | zero => exact absurd HA.out (by simp [dK.l0])
      | succ k1 =>
        have H := HA.out
        clear HA
        simp only [dK.l0] at H
        by_cases c3 : bM.toList = ([] : List UInt8)
        · rw [if_pos c3] at H
          have qo : (bM.toList == ([] : List UInt8)) = true := beq_iff_eq.mpr c3
          have A9 : (bM.toList != ([] : List UInt8)) = false := bne_eq_false_iff_eq.mpr c3
          have KY : bM.toList.isEmpty = true := List.isEmpty_iff.mpr c3
          clear c3
          obtain rfl := Option.some.inj H
          go_wp2
          go_ret
          exact ⟨by first | rfl | (simp; done) | (simp [*]; done), by repeat (first | exact aY.refl _ | apply aY.step)⟩
        · rw [if_neg c3] at H
          have qo : (bM.toList == ([] : List UInt8)) = false := beq_eq_false_iff_ne.mpr c3
          have A9 : (bM.toList != ([] : List UInt8)) = true := bne_iff_ne.mpr c3
          have KY : bM.toList.isEmpty = false := Bool.eq_false_iff.mpr (fun h_ => c3 (List.isEmpty_iff.mp h_))
          by_cases c4 : 0 < (bM.size : Int)
          · rw [if_pos c4] at H
            have qm : decide (0 < (bM.size : Int)) = true := decide_eq_true c4
            have Ij : decide (0 < bM.size) = true := decide_eq_true (by omega)
            clear c4
            by_cases c6 : (wrap64 (1 + (wrap64 (bt bM 0)))) > (bM.size : Int)
            · rw [if_pos c6] at H
              have yO : decide ((bM.size : Int) < (wrap64 (1 + (wrap64 (bt bM 0))))) = true := decide_eq_true c6
              (try (have KT : decide ((bM.size : Int) < ((1 + ((bt bM 0))))) = true := by have h_ : decide ((bM.size : Int) < (wrap64 (1 + (wrap64 (bt bM 0))))) = true := decide_eq_true c6; rw [B.dO (by omega) (by omega)] at h_; rw [B.dO (by omega) (by omega)] at h_; exact h_))
              clear c6
              obtain rfl := Option.some.inj H
              have p5 : 0 ≤ (0 : Int) := (by omega)
              have q5 : 0 < bM.size := (by have : (0 : Int) < (bM.size : Int) := of_decide_eq_true (by first | (with_reducible assumption) | assumption); omega)
              have hx5 : ∀ h : 0 < bM.size, ((bM[0]'h).toNat : Int) = bt bM 0 := ny bM 0
              clear p5
              have qi5 : (0 < (bM.size : Int)) = True := eq_true (of_decide_eq_true (by first | (with_reducible assumption) | assumption))
              replace q5 := eq_true q5
              go_wp2
              go_ret
              exact ⟨by first | rfl | (simp; done) | (simp [*]; done), by repeat (first | exact aY.refl _ | apply aY.step)⟩
            · rw [if_neg c6] at H
              have yO : decide ((bM.size : Int) < (wrap64 (1 + (wrap64 (bt bM 0))))) = false := decide_eq_false c6
              (try (have KT : decide ((bM.size : Int) < ((1 + ((bt bM 0))))) = false := by have h_ : decide ((bM.size : Int) < (wrap64 (1 + (wrap64 (bt bM 0))))) = false := decide_eq_false c6; rw [B.dO (by omega) (by omega)] at h_; rw [B.dO (by omega) (by omega)] at h_; exact h_))
              clear c6
              obtain ⟨Om, Iz⟩ : ∃ j_ : Int, (wrap64 (1 + (wrap64 (bt bM 0)))) = j_ := ⟨_, rfl⟩
              replace H : (if 0 ≤ (Om) then (if (Om) ≤ (bM.size : Int) then (dK.l0 k1 (bM.extract ((Om) : Int).toNat bM.size)) else (none)) else (none)) = some r := by first | (rw [Iz] at H; exact H) | (simp only [Iz] at H ⊢; exact H)
              (try rw [Iz] at yO)
              (try rw [Iz] at KT)
              have afz : (IntKind.i64.wrap (1 + (wrap64 (bt bM 0)))) = Om := (gM _).trans Iz
              by_cases c8 : 0 ≤ (Om)
              · rw [if_pos c8] at H
                have qV := eq_true c8
                have qW : decide (0 ≤ (Om)) = true := decide_eq_true c8
                clear c8
                by_cases c9 : (Om) ≤ (bM.size : Int)
                · rw [if_pos c9] at H
                  have sS := eq_true c9
                  have Dq : decide ((Om) ≤ (bM.size : Int)) = true := decide_eq_true c9
                  clear c9
                  have H' := aj.mk H
                  clear H
                  have p5 : 0 ≤ (0 : Int) := (by omega)
                  have q5 : 0 < bM.size := (by have : (0 : Int) < (bM.size : Int) := of_decide_eq_true (by first | (with_reducible assumption) | assumption); omega)
                  have hx5 : ∀ h : 0 < bM.size, ((bM[0]'h).toNat : Int) = bt bM 0 := ny bM 0
                  clear p5
                  have qi5 : (0 < (bM.size : Int)) = True := eq_true (of_decide_eq_true (by first | (with_reducible assumption) | assumption))
                  replace q5 := eq_true q5
                  go_wp2
                  go_roundg k1
                  case measure => have := sQ.out; omega
                  case rel => exact ⟨(bM.extract ((Om) : Int).toNat bM.size), (by first | rfl | (simp; done) | (simp only [← Iz] <;> (first | rfl | simp)) | (simp [*]; done)), H', ⟨by have := sQ.out; omega⟩, by repeat (first | exact aY.refl _ | apply aY.step)⟩
                · rw [if_neg c9] at H
                  exact absurd H (by simp)
              · rw [if_neg c8] at H
                exact absurd H (by simp)
          · rw [if_neg c4] at H
            exact absurd H (by simp)
def aD.xV (k : Int) : Option (Int × Int × Int) :=
  if k = 1 then some (4, 0, 0) else if k = 28 then some (16, 0, 0) else if k = 2 then some (0, 1, 0) else if k = 5 then some (0, 1, 0) else if k = 12 then some (0, 1, 0) else if k = 6 then some (0, 2, 20) else if k = 15 then some (2, 1, 0) else if k = 33 then some (6, 1, 0) else none
theorem aD.vR (k : Int) : Mi.rM k bX.tab = (aD.xV k).map fun s => bX.agg s.1 s.2.1 s.2.2 := by
  unfold aD.xV bX.tab
  simp only [Mi.rM]
  repeat' split
  all_goals rfl
def aD.fin (k : Nat) (kind : Int) (d : ByteArray) (is : Bool) : Option (ByteArray × Int) :=
  if is = true then (if kind = 16 then ((dK.f k d).bind fun b => if b = true then (if (d.size : Int) > 65535 then some (⟨#[]⟩, 4) else some (d, 0)) else some (⟨#[]⟩, 4)) else (if (d.size : Int) > 65535 then some (⟨#[]⟩, 4) else some (d, 0))) else some (⟨#[]⟩, 4)
def aD.g (k : Nat) (a0 : ByteArray) (a1 a2 a3 : Int) (s : Int × Int × Int) : Option (ByteArray × Int) :=
  (bV.f k a0 a1 (wrap64 (a1 + a2)) s.1 s.2.1 s.2.2).bind fun p => if p.1.size + (strings_Join.cat p.2.2.1).size + p.2.1.size ≤ 140737488355328 then (if p.2.2.1.length ≤ 1000000 then aD.fin k a3 (p.1 ++ strings_Join.cat p.2.2.1 ++ p.2.1) p.2.2.2 else none) else none
def aD.f (k : Nat) (a0 : ByteArray) (a1 a2 a3 : Int) : Option (ByteArray × Int) :=
  (eP.f a0 a1 a2).bind fun t => if t.2 = true then (match aD.xV a3 with | some s => aD.g k a0 a1 a2 a3 s | none => aD.fin k a3 t.1 true) else some (⟨#[]⟩, 2)
theorem aD.zK {k : Nat} {kind : Int} {d : ByteArray} {r : ByteArray × Int} (h : aD.fin k kind d true = some r) (hk : kind = 16) :
    ∃ b, dK.f k d = some b ∧ (if b = true then (if (d.size : Int) > 65535 then some ((⟨#[]⟩ : ByteArray), (4 : Int)) else some (d, 0)) else some (⟨#[]⟩, 4)) = some r := by
  unfold aD.fin at h
  rw [if_pos rfl, if_pos hk] at h
  exact zbm h
theorem aD.pW {k : Nat} {kind : Int} {d : ByteArray} {r : ByteArray × Int} (h : aD.fin k kind d true = some r) (hk : ¬ kind = 16) :
    (if (d.size : Int) > 65535 then some ((⟨#[]⟩ : ByteArray), (4 : Int)) else some (d, 0)) = some r := by
  unfold aD.fin at h
  rw [if_pos rfl, if_neg hk] at h
  exact h
theorem aD.TK {k : Nat} {kind : Int} {d : ByteArray} {r : ByteArray × Int} (h : aD.fin k kind d false = some r) : r = (⟨#[]⟩, 4) := by
  unfold aD.fin at h
  rw [if_neg Bool.false_ne_true] at h
  exact (Option.some.inj h).symm
theorem aD.slc {v : Value} {l : List ByteArray} {base : Nat} {ok : Nat → Prop} {w : World} (hr : Kd.R Kd.string 9 w base ok v l) : ∃ A n c, v = .slice A n c := by
  rcases (Kd.sM hr).2 with ⟨rfl, _⟩ | ⟨g, cap, cur, rfl, _⟩
  · exact ⟨_, _, _, rfl⟩
  · exact ⟨_, _, _, rfl⟩
theorem aD.lJ {b : Bool} {d r1 : ByteArray} {r2 : Int} (h : (if b = true then (if (d.size : Int) > 65535 then some ((⟨#[]⟩ : ByteArray), (4 : Int)) else some (d, 0)) else some (⟨#[]⟩, 4)) = some (r1, r2)) :
    (b = true → 65535 < (d.size : Int) → r1 = ⟨#[]⟩ ∧ r2 = 4) ∧ (b = true → (d.size : Int) ≤ 65535 → r1 = d ∧ r2 = 0) ∧ (b = false → r1 = ⟨#[]⟩ ∧ r2 = 4) := by
  refine ⟨fun h1 h2 => ?_, fun h1 h2 => ?_, fun h1 => ?_⟩
  · rw [if_pos h1, if_pos h2] at h; cases h; exact ⟨rfl, rfl⟩
  · rw [if_pos h1, if_neg (by omega)] at h; cases h; exact ⟨rfl, rfl⟩
  · rw [h1, if_neg Bool.false_ne_true] at h; cases h; exact ⟨rfl, rfl⟩
theorem aD.pX {d r1 : ByteArray} {r2 : Int} (h : (if (d.size : Int) > 65535 then some ((⟨#[]⟩ : ByteArray), (4 : Int)) else some (d, 0)) = some (r1, r2)) :
    (65535 < (d.size : Int) → r1 = ⟨#[]⟩ ∧ r2 = 4) ∧ ((d.size : Int) ≤ 65535 → r1 = d ∧ r2 = 0) := by
  refine ⟨fun h2 => ?_, fun h2 => ?_⟩
  · rw [if_pos h2] at h; cases h; exact ⟨rfl, rfl⟩
  · rw [if_neg (by omega)] at h; cases h; exact ⟨rfl, rfl⟩
set_option maxHeartbeats 8000000 in
set_option maxRecDepth 100000 in
theorem aD.calls (k : Nat) (a0 : ByteArray) (a1 a2 a3 : Int) (r1 : ByteArray) (r2 : Int) (w : World) (h : aD.f k a0 a1 a2 a3 = some (r1, r2)) :
    Calls Try.prog 111 #[.string a0, .int .i64 a1, .int .i64 a2, .int .i64 a3] w fun e w' => e = .returned (.tuple #[.string r1, .int .i64 r2]) ∧ Below w.heap.size w w' := by
  have HB := aj.mk (Below.refl w.heap.size w)
  obtain ⟨⟨t1, t2⟩, ht, h'⟩ := zbm h
  clear h
  have HT := aj.mk ht
  clear ht
  cases t2 with
  | false =>
    rw [if_neg Bool.false_ne_true] at h'
    obtain ⟨rfl, rfl⟩ := Prod.mk.injEq .. ▸ Option.some.inj h'
    go_enter Try.func111, Try.ntmps111
    go_wp2_with (first | (go_at_call 97; refine (eP.calls _ _ _ _ _ _ HT.out).mono ?_; rintro e w1 ⟨rfl, hd1⟩))
    go_ret2
    exact ⟨rfl, hd1.below⟩
  | true =>
    replace h' : (match aD.xV a3 with | some s => aD.g k a0 a1 a2 a3 s | none => aD.fin k a3 t1 true) = some (r1, r2) := h'
    cases hsh : aD.xV a3 with
    | none =>
      rw [hsh] at h'
      have HH := aj.mk (show aD.fin k a3 t1 true = some (r1, r2) from h')
      clear h'
      have hfn : Mi.rM a3 bX.tab = none := by rw [aD.vR, hsh]; rfl
      go_enter Try.func111, Try.ntmps111
      go_wp2_with (first
        | (go_at_call 97; refine (eP.calls _ _ _ _ _ _ HT.out).mono ?_; rintro e w1 ⟨rfl, hd1⟩)
        | (go_at_call 120; refine (bX.calls _).mono ?_; rintro e w2 ⟨g, rfl, hin⟩; have hl := Mi.look (P := Try.prog) hin.at_ 159 3 157 Try.underlying159 Try.underlying3 _ (Try.zeroValue157 w2) a3; rw [hfn] at hl; have hB2 := aj.mk ((HB.out.trans hd1.below).trans (hin.NM.mono hd1.below.size)); clear hin)
        | (go_at_call 122; obtain ⟨b, hb, hx⟩ := aD.zK HH.out (by assumption); have hx := aj.mk hx; refine (dK.calls _ _ _ _ hb).mono ?_; rintro e w3 ⟨rfl, hd3⟩))
      all_goals
        go_ret2
        first
          | (have hq := (aD.lJ hx.out).1 (by assumption) (by assumption); obtain ⟨rfl, rfl⟩ := hq; exact ⟨rfl, (ak hB2.out _).trans (hd3.below.mono (by have := hB2.out.size; simp only [World.alloc, Array.size_push]; omega))⟩)
          | (have hq := (aD.lJ hx.out).2.1 (by assumption) (by assumption); obtain ⟨rfl, rfl⟩ := hq; exact ⟨rfl, (ak hB2.out _).trans (hd3.below.mono (by have := hB2.out.size; simp only [World.alloc, Array.size_push]; omega))⟩)
          | (have hq := (aD.lJ hx.out).2.2 (by first | assumption | simpa using ‹¬ b = true›); obtain ⟨rfl, rfl⟩ := hq; exact ⟨rfl, (ak hB2.out _).trans (hd3.below.mono (by have := hB2.out.size; simp only [World.alloc, Array.size_push]; omega))⟩)
          | (have hq := (aD.pX (aD.pW HH.out (by assumption))).1 (by assumption); obtain ⟨rfl, rfl⟩ := hq; exact ⟨rfl, ak hB2.out _⟩)
          | (have hq := (aD.pX (aD.pW HH.out (by assumption))).2 (by assumption); obtain ⟨rfl, rfl⟩ := hq; exact ⟨rfl, ak hB2.out _⟩)
    | some s =>
      obtain ⟨s0, s1, s2⟩ := s
      rw [hsh] at h'
      replace h' : aD.g k a0 a1 a2 a3 (s0, s1, s2) = some (r1, r2) := h'
      unfold aD.g at h'
      obtain ⟨⟨p1, p2, p3, p4⟩, hp, h'⟩ := zbm h'
      replace h' : (if p1.size + (strings_Join.cat p3).size + p2.size ≤ 140737488355328 then (if p3.length ≤ 1000000 then aD.fin k a3 (p1 ++ strings_Join.cat p3 ++ p2) p4 else none) else none) = some (r1, r2) := h'
      have hp := aj.mk (show bV.f k a0 a1 (wrap64 (a1 + a2)) s0 s1 s2 = some (p1, p2, p3, p4) from hp)
      by_cases z1 : p1.size + (strings_Join.cat p3).size + p2.size ≤ 140737488355328
      · rw [if_pos z1] at h'
        by_cases z2 : p3.length ≤ 1000000
        · rw [if_pos z2] at h'
          have HH := aj.mk h'
          have z1 := aj.mk z1
          have z2 := aj.mk z2
          clear h'
          have hfn : Mi.rM a3 bX.tab = some (bX.agg s0 s1 s2) := by rw [aD.vR, hsh]; rfl
          cases p4
          all_goals
            go_enter Try.func111, Try.ntmps111
            go_wp2_with (first
              | (go_at_call 97; refine (eP.calls _ _ _ _ _ _ HT.out).mono ?_; rintro e w1 ⟨rfl, hd1⟩)
              | (go_at_call 120; refine (bX.calls _).mono ?_; rintro e w2 ⟨g, rfl, hin⟩; have hl := Mi.look (P := Try.prog) hin.at_ 159 3 157 Try.underlying159 Try.underlying3 _ (Try.zeroValue157 w2) a3; rw [hfn] at hl; replace hl := show _ = Result.ok (Value.tuple #[.agg #[.int .i64 s0, .int .i64 s1, .int .i64 s2], .bool true]) w2 from hl; have hB2 := aj.mk ((HB.out.trans hd1.below).trans (hin.NM.mono hd1.below.size)); clear hin)
              | (go_at_call 121; refine (bV.calls _ _ _ _ _ _ _ _ _ _ _ _ hp.out).mono ?_; rintro e w3 ⟨v, rfl, hv, hb3⟩; obtain ⟨vA, vn, vc, rfl⟩ := aD.slc hv; have hB3 := aj.mk ((ak hB2.out _).trans (hb3.mono (by have := hB2.out.size; simp only [World.alloc, Array.size_push]; omega))); have hv := aj.mk hv; clear hb3)
              | (go_at_call 113; refine (iD.calls _ _ _ p3 _ _ _ (Kd.eU hv.out _) z2.out z1.out).mono ?_; rintro e w4 ⟨rfl, hb4⟩; have hB4 := aj.mk ((ak hB3.out _).trans (hb4.mono (by have := hB3.out.size; simp only [World.alloc, Array.size_push]; omega))); clear hb4)
              | (go_at_call 122; obtain ⟨b, hb, hx⟩ := aD.zK HH.out (by assumption); have hx := aj.mk hx; refine (dK.calls _ _ _ _ hb).mono ?_; rintro e w5 ⟨rfl, hd3⟩))
            all_goals
              go_ret2
              first
                | (have hq := aD.TK HH.out; cases hq; exact ⟨rfl, hB4.out⟩)
                | (have hq := (aD.lJ hx.out).1 (by first | assumption | (simp only [ByteArray.size_append, Int.natCast_add]; assumption)) (by first | assumption | (simp only [ByteArray.size_append, Int.natCast_add]; assumption)); obtain ⟨rfl, rfl⟩ := hq; exact ⟨rfl, hB4.out.trans (hd3.below.mono hB4.out.size)⟩)
                | (have hq := (aD.lJ hx.out).2.1 (by first | assumption | (simp only [ByteArray.size_append, Int.natCast_add]; assumption)) (by first | assumption | (simp only [ByteArray.size_append, Int.natCast_add]; assumption)); obtain ⟨rfl, rfl⟩ := hq; exact ⟨rfl, hB4.out.trans (hd3.below.mono hB4.out.size)⟩)
                | (have hq := (aD.lJ hx.out).2.2 (by first | assumption | simpa using ‹¬ b = true›); obtain ⟨rfl, rfl⟩ := hq; exact ⟨rfl, hB4.out.trans (hd3.below.mono hB4.out.size)⟩)
                | (have hq := (aD.pX (aD.pW HH.out (by first | assumption | (simp only [ByteArray.size_append, Int.natCast_add]; assumption)))).1 (by first | assumption | (simp only [ByteArray.size_append, Int.natCast_add]; assumption)); obtain ⟨rfl, rfl⟩ := hq; exact ⟨rfl, hB4.out⟩)
                | (have hq := (aD.pX (aD.pW HH.out (by first | assumption | (simp only [ByteArray.size_append, Int.natCast_add]; assumption)))).2 (by first | assumption | (simp only [ByteArray.size_append, Int.natCast_add]; assumption)); obtain ⟨rfl, rfl⟩ := hq; exact ⟨rfl, hB4.out⟩)
        · rw [if_neg z2] at h'; cases h'
      · rw [if_neg z1] at h'; cases h'
def iM.f (k : Nat) (a0 : Int) (a1 : ByteArray) : Option (Bool) := if (a1.size : Int) > 65535 then (some false) else ((aD.f k a1 0 (a1.size : Int) a0).bind fun Dz => (if Dz.2 = 0 then (some (Dz.1.toList == a1.toList)) else (some false)))
set_option maxHeartbeats 8000000 in
set_option maxRecDepth 100000 in
theorem iM.calls (k : Nat) (a0 : Int) (a1 : ByteArray) (r : Bool) (w : World) (h : iM.f k a0 a1 = some r) :
    Calls Try.prog 94 #[.int .i64 a0, .string a1] w fun e w' => e = .returned (.bool r) ∧ Below w.heap.size w w' := by
  have HB := aj.mk (Below.refl w.heap.size w)
  have H : (if (a1.size : Int) > 65535 then (some false) else ((aD.f k a1 0 (a1.size : Int) a0).bind fun Dz => (if Dz.2 = 0 then (some (Dz.1.toList == a1.toList)) else (some false)))) = some r := h
  clear h
  by_cases c3 : (a1.size : Int) > 65535
  · rw [if_pos c3] at H
    have qo : decide (65535 < (a1.size : Int)) = true := decide_eq_true c3
    have A9 : decide (65535 < a1.size) = true := decide_eq_true (by omega)
    clear c3
    obtain rfl := Option.some.inj H
    go_enter Try.func94, Try.ntmps94
    go_wp2
    go_ret
    exact ⟨by first | rfl | (simp [aJ, aK] <;> rfl) | (simp [*, aJ, aK] <;> rfl), by repeat (first | (with_reducible first | exact HB.out | apply ak | apply ah | apply au) | exact HB.out)⟩
  · rw [if_neg c3] at H
    have qo : decide (65535 < (a1.size : Int)) = false := decide_eq_false c3
    have A9 : decide (65535 < a1.size) = false := decide_eq_false (by omega)
    clear c3
    replace H := zbm H
    obtain ⟨⟨t131, DC⟩, Dr, H⟩ := H
    replace H : (if DC = 0 then (some (t131.toList == a1.toList)) else (some false)) = some r := H
    have A4 := aj.mk Dr
    clear Dr
    by_cases c5 : DC = 0
    · rw [if_pos c5] at H
      have oN : (DC == 0) = true := beq_iff_eq.mpr c5
      have uF : (DC != 0) = false := bne_eq_false_iff_eq.mpr c5
      clear c5
      obtain rfl := Option.some.inj H
      go_enter Try.func94, Try.ntmps94
      go_wp2_with (first | ((with_reducible refine aQ (f := 111) rfl ?_); refine bP (some 15) rfl rfl Try.func111 (by kernel_rfl) rfl #[.string a1, .int .i64 0, .int .i64 (a1.size : Int), .int .i64 a0] rfl (by (try simp only [List.map_toArray, List.map_cons, List.map_nil]); first | done | rfl | (simp only [List.length_drop, List.length_take]; rfl) | (simp only [ByteArray.size_append, Int.natCast_add]; rfl) | (rw [B.dO] <;> first | rfl | omega | (simp only [decide_eq_false_iff_not, decide_eq_true_eq, Int.not_lt, Nat.not_lt, gt_iff_lt] at * <;> omega))) ?_; (with_reducible refine (aD.calls k a1 0 (a1.size : Int) a0 t131 DC _ A4.out).mono ?_); rintro e w6 ⟨rfl, hb⟩; refine ⟨_, rfl, ?_⟩; have dX := aj.mk (bE (by repeat (first | (with_reducible first | exact HB.out | apply ak | apply ah | apply au) | exact HB.out)) hb); clear HB; have HB := dX; clear dX; (try clear hb); (try clear hb2); (try clear hk); (try clear hi)))
      go_ret
      exact ⟨by first | rfl | (simp [aJ, aK] <;> rfl) | (simp [*, aJ, aK] <;> rfl), by repeat (first | (with_reducible first | exact HB.out | apply ak | apply ah | apply au) | exact HB.out)⟩
    · rw [if_neg c5] at H
      have oN : (DC == 0) = false := beq_eq_false_iff_ne.mpr c5
      have uF : (DC != 0) = true := bne_iff_ne.mpr c5
      obtain rfl := Option.some.inj H
      go_enter Try.func94, Try.ntmps94
      go_wp2_with (first | ((with_reducible refine aQ (f := 111) rfl ?_); refine bP (some 15) rfl rfl Try.func111 (by kernel_rfl) rfl #[.string a1, .int .i64 0, .int .i64 (a1.size : Int), .int .i64 a0] rfl (by (try simp only [List.map_toArray, List.map_cons, List.map_nil]); first | done | rfl | (simp only [List.length_drop, List.length_take]; rfl) | (simp only [ByteArray.size_append, Int.natCast_add]; rfl) | (rw [B.dO] <;> first | rfl | omega | (simp only [decide_eq_false_iff_not, decide_eq_true_eq, Int.not_lt, Nat.not_lt, gt_iff_lt] at * <;> omega))) ?_; (with_reducible refine (aD.calls k a1 0 (a1.size : Int) a0 t131 DC _ A4.out).mono ?_); rintro e w7 ⟨rfl, hb⟩; refine ⟨_, rfl, ?_⟩; have dX := aj.mk (bE (by repeat (first | (with_reducible first | exact HB.out | apply ak | apply ah | apply au) | exact HB.out)) hb); clear HB; have HB := dX; clear dX; (try clear hb); (try clear hb2); (try clear hk); (try clear hi)))
      go_ret
      exact ⟨by first | rfl | (simp [aJ, aK] <;> rfl) | (simp [*, aJ, aK] <;> rfl), by repeat (first | (with_reducible first | exact HB.out | apply ak | apply ah | apply au) | exact HB.out)⟩
def cO.f (k : Nat) (a0 : Int) (a1 : ByteArray) : Option (ByteArray × ByteArray × List ByteArray × Bool) :=
  (iM.f k a0 a1).bind fun c => if c = true then (match aD.xV a0 with | some s => bV.f k a1 0 (a1.size : Int) s.1 s.2.1 s.2.2 | none => some (a1, ⟨#[]⟩, [], true)) else some (⟨#[]⟩, ⟨#[]⟩, [], false)
theorem cO.three {w w1 : World} {g B : Nat} {a b c a' b' c' : Value} (bk : w1.heap[g]? = some (.cells #[a', b', c'] 148 (0, 0))) :
    (((w1.setCell ⟨g, 0, none⟩ a).setCell ⟨g, 1, none⟩ b).setCell ⟨g, 2, none⟩ c).heap[g]? = some (.cells #[a, b, c] 148 (0, 0)) ∧
    (Below B w w1 → B ≤ g → Below B w (((w1.setCell ⟨g, 0, none⟩ a).setCell ⟨g, 1, none⟩ b).setCell ⟨g, 2, none⟩ c)) ∧
    (∀ v l base ok, Kd.R Kd.string 9 w1 base ok v l → Kd.R Kd.string 9 (((w1.setCell ⟨g, 0, none⟩ a).setCell ⟨g, 1, none⟩ b).setCell ⟨g, 2, none⟩ c) base ok v l) := by
  have b1 := bU bk 0 a (cs' := #[a, b', c']) rfl
  have b2 := bU b1 1 b (cs' := #[a, b, c']) rfl
  have b3 := bU b2 2 c (cs' := #[a, b, c]) rfl
  refine ⟨b3, fun h hg => ((h.setCell hg _).setCell hg _).setCell hg _, fun v l base ok h => ?_⟩
  exact Kd.KC (Kd.KC (Kd.KC h bk (by decide) 0 a) b1 (by decide) 1 b) b2 (by decide) 2 c
theorem cO.facts {w1 : World} {g : Nat} {a b c : Value} (bk : w1.heap[g]? = some (.cells #[a, b, c] 148 (0, 0))) :
    (w1.cell? ⟨g, 0, none⟩ = some a ∧ w1.cell? ⟨g, 1, none⟩ = some b ∧ w1.cell? ⟨g, 2, none⟩ = some c) ∧ w1.frozen? ⟨g, 0, none⟩ = false ∧ w1.frozen? ⟨g, 1, none⟩ = false ∧ w1.frozen? ⟨g, 2, none⟩ = false :=
  ⟨⟨aM bk 0, aM bk 1, aM bk 2⟩, ay bk 0, ay bk 1, ay bk 2⟩
set_option maxHeartbeats 8000000 in
set_option maxRecDepth 100000 in
theorem cO.calls (k : Nat) (a0 : Int) (a1 : ByteArray) (r1 r2 : ByteArray) (r3 : List ByteArray) (r4 : Bool) (w : World) (h : cO.f k a0 a1 = some (r1, r2, r3, r4)) :
    Calls Try.prog 112 #[.int .i64 a0, .string a1] w fun e w' => ∃ Yq : Value, e = .returned (.tuple #[.agg #[.string r1, .string r2, Yq], .bool r4]) ∧ Kd.R Kd.string 9 w' w.heap.size (fun _ => True) Yq r3 ∧ Below w.heap.size w w' := by
  obtain ⟨c, hc, h'⟩ := zbm h
  clear h
  have HC := aj.mk hc
  clear hc
  cases c with
  | false =>
    rw [if_neg Bool.false_ne_true] at h'
    cases h'
    go_enter Try.func112, Try.ntmps112
    go_wp2_with (first
      | (go_at_call 94; refine (iM.calls _ _ _ _ _ HC.out).mono ?_; rintro e w1 ⟨rfl, hd1⟩; have bk := dM (sH w _) hd1; obtain ⟨⟨k0, k1, k2⟩, f0, f1, f2⟩ := cO.facts bk; have bk := aj.mk bk; have hB1 := aj.mk ((ak (Below.refl w.heap.size w) _).trans (hd1.mono (by simp only [World.alloc, Array.size_push]; omega))); clear hd1))
    refine bodyPost_ret (jN rfl _ _ w.heap.size 148 #[.string ⟨#[]⟩, .string ⟨#[]⟩, .slice none 0 0] (0, 0) _ rfl (cO.three (w := w) (B := 0) bk.out).1 Try.underlying148 rfl (by kernel_rfl)) rfl ?_
    exact ⟨_, rfl, Kd.jB _ _ _ _ _, (cO.three bk.out).2.1 hB1.out (Nat.le_refl _)⟩
  | true =>
    replace h' : (match aD.xV a0 with | some s => bV.f k a1 0 (a1.size : Int) s.1 s.2.1 s.2.2 | none => some (a1, ⟨#[]⟩, [], true)) = some (r1, r2, r3, r4) := h'
    cases hsh : aD.xV a0 with
    | none =>
      rw [hsh] at h'
      cases h'
      have hfn : Mi.rM a0 bX.tab = none := by rw [aD.vR, hsh]; rfl
      go_enter Try.func112, Try.ntmps112
      go_wp2_with (first
        | (go_at_call 94; refine (iM.calls _ _ _ _ _ HC.out).mono ?_; rintro e w1 ⟨rfl, hd1⟩; have bk := dM (sH w _) hd1; obtain ⟨⟨k0, k1, k2⟩, f0, f1, f2⟩ := cO.facts bk; have bk := aj.mk bk; have hB1 := aj.mk ((ak (Below.refl w.heap.size w) _).trans (hd1.mono (by simp only [World.alloc, Array.size_push]; omega))); clear hd1)
        | (go_at_call 120; refine (bX.calls _).mono ?_; rintro e w2 ⟨g, rfl, hin⟩; clear k0 k1 k2 f0 f1 f2; have hl := Mi.look (P := Try.prog) hin.at_ 159 3 157 Try.underlying159 Try.underlying3 _ (Try.zeroValue157 w2) a0; rw [hfn] at hl; replace hl := show _ = Result.ok (Value.tuple #[.agg #[.int .i64 0, .int .i64 0, .int .i64 0], .bool false]) w2 from hl; have hB2 := aj.mk (hB1.out.trans (hin.NM.mono hB1.out.size)); have bk := aj.mk (aA (dM bk.out hin.NM) (.cells #[.int .i64 0, .int .i64 0, .int .i64 0] 157 (0, 0))); obtain ⟨⟨k0, k1, k2⟩, f0, f1, f2⟩ := cO.facts bk.out; clear hin))
      refine bodyPost_ret (jN rfl _ _ w.heap.size 148 #[.string a1, .string ⟨#[]⟩, .slice none 0 0] (0, 0) _ rfl (cO.three (w := w) (B := 0) bk.out).1 Try.underlying148 rfl (by kernel_rfl)) rfl ?_
      exact ⟨_, rfl, Kd.jB _ _ _ _ _, (cO.three bk.out).2.1 (ak hB2.out _) (Nat.le_refl _)⟩
    | some s =>
      obtain ⟨s0, s1, s2⟩ := s
      rw [hsh] at h'
      have hp := aj.mk (show bV.f k a1 0 (a1.size : Int) s0 s1 s2 = some (r1, r2, r3, r4) from h')
      clear h'
      have hfn : Mi.rM a0 bX.tab = some (bX.agg s0 s1 s2) := by rw [aD.vR, hsh]; rfl
      go_enter Try.func112, Try.ntmps112
      go_wp2_with (first
        | (go_at_call 94; refine (iM.calls _ _ _ _ _ HC.out).mono ?_; rintro e w1 ⟨rfl, hd1⟩; have bk := dM (sH w _) hd1; obtain ⟨⟨k0, k1, k2⟩, f0, f1, f2⟩ := cO.facts bk; have bk := aj.mk bk; have hB1 := aj.mk ((ak (Below.refl w.heap.size w) _).trans (hd1.mono (by simp only [World.alloc, Array.size_push]; omega))); clear hd1)
        | (go_at_call 120; refine (bX.calls _).mono ?_; rintro e w2 ⟨g, rfl, hin⟩; clear k0 k1 k2 f0 f1 f2; have hl := Mi.look (P := Try.prog) hin.at_ 159 3 157 Try.underlying159 Try.underlying3 _ (Try.zeroValue157 w2) a0; rw [hfn] at hl; replace hl := show _ = Result.ok (Value.tuple #[.agg #[.int .i64 s0, .int .i64 s1, .int .i64 s2], .bool true]) w2 from hl; have hB2 := aj.mk (hB1.out.trans (hin.NM.mono hB1.out.size)); have bk := aj.mk (aA (dM bk.out hin.NM) (.cells #[.int .i64 s0, .int .i64 s1, .int .i64 s2] 157 (0, 0))); obtain ⟨⟨k0, k1, k2⟩, f0, f1, f2⟩ := cO.facts bk.out; clear hin)
        | (go_at_call 121; refine (bV.calls _ _ _ _ _ _ _ _ _ _ _ _ hp.out).mono ?_; rintro e w3 ⟨v, rfl, hv, hb3⟩; clear k0 k1 k2 f0 f1 f2; obtain ⟨vA, vn, vc, rfl⟩ := aD.slc hv; have hB3 := aj.mk ((ak hB2.out _).trans (hb3.mono (by have := hB2.out.size; simp only [World.alloc, Array.size_push]; omega))); have hv := aj.mk (Kd.sI hv (by have := hB2.out.size; simp only [World.alloc, Array.size_push]; omega : w.heap.size ≤ _)); have bk := aj.mk (dM bk.out hb3); obtain ⟨⟨k0, k1, k2⟩, f0, f1, f2⟩ := cO.facts bk.out; clear hb3))
      refine bodyPost_ret (jN rfl _ _ w.heap.size 148 #[.string r1, .string r2, .slice vA vn vc] (0, 0) _ rfl (cO.three (w := w) (B := 0) bk.out).1 Try.underlying148 rfl (by kernel_rfl)) rfl ?_
      exact ⟨_, rfl, (cO.three (w := w) (B := 0) bk.out).2.2 _ _ _ _ hv.out, (cO.three bk.out).2.1 hB3.out (Nat.le_refl _)⟩
def eB.all (k : Nat) : List ByteArray → Option (List ByteArray)
  | [] => some []
  | x :: l => (l5.f k x).bind fun y => (eB.all k l).bind fun m => some (y :: m)
def eB.fin (p1 p2 : ByteArray) (m : List ByteArray) : Option ByteArray :=
  if p1.size + (strings_Join.cat m).size + p2.size ≤ 140737488355328 then (if m.length ≤ 1000000 then some (p1 ++ strings_Join.cat m ++ p2) else none) else none
def eB.f (k : Nat) (a0 : Int) (a1 : ByteArray) : Option ByteArray :=
  (cO.f k a0 a1).bind fun p => (eB.all k p.2.2.1).bind fun m => eB.fin p.1 p.2.1 m
theorem eB.xW {k : Nat} : ∀ {l m : List ByteArray}, eB.all k l = some m → m.length = l.length
  | [], m, h => by cases h; rfl
  | x :: l, m, h => by
    rw [eB.all] at h
    obtain ⟨y, _, h⟩ := zbm h
    obtain ⟨m', h', h⟩ := zbm h
    cases h
    rw [List.length_cons, List.length_cons, eB.xW h']
set_option maxHeartbeats 8000000 in
set_option maxRecDepth 100000 in
theorem eB.calls (k : Nat) (a0 : Int) (a1 : ByteArray) (r : ByteArray) (w : World) (h : eB.f k a0 a1 = some r) :
    Calls Try.prog 95 #[.int .i64 a0, .string a1] w fun e w' => e = .returned (.string r) ∧ Below w.heap.size w w' := by
  obtain ⟨⟨p1, p2, l, p4⟩, hp, h'⟩ := zbm h
  clear h
  obtain ⟨m, hm, h'⟩ := zbm h'
  replace hm : eB.all k l = some m := hm
  replace h' : eB.fin p1 p2 m = some r := h'
  have hml := eB.xW hm
  have HP := aj.mk hp
  have HM := aj.mk hm
  have HF := aj.mk h'
  have HL := aj.mk hml
  clear hp hm h' hml
  go_enter Try.func95, Try.ntmps95
  go_wp2_with (first
    | (go_at_call 112; refine (cO.calls _ _ _ _ _ _ _ _ HP.out).mono ?_; rintro e w1 ⟨v, rfl, hv, hb1⟩; obtain ⟨vA, vn, vc, rfl⟩ := aD.slc hv; obtain ⟨rfl, _, hcc⟩ := Kd.oK hv; have hmx := aj.mk (Kd.Xy hcc); clear hcc; have hv2 := aj.mk (Kd.eU hv (.cells #[.string p1, .string p2, .slice vA l.length vc] 148 (0, 0))); have hb2 := aj.mk (ak hb1 (.cells #[.string p1, .string p2, .slice vA l.length vc] 148 (0, 0))); have bk2 := aj.mk (sH w1 (.cells #[.string p1, .string p2, .slice vA l.length vc] 148 (0, 0))); have hge := aj.mk hb1.size; clear hv hb1))
  generalize hw1 : w1.alloc (.cells #[.string p1, .string p2, .slice vA l.length vc] 148 (0, 0)) = w2 at *
  generalize hg : w1.heap.size = g at *
  clear hw1 hg
  go_loopw [18] (fun v18 wr => ∃ (j : Nat) (cur : List ByteArray), v18 = .int .i64 j ∧ j ≤ l.length ∧ aj (cur.length = l.length ∧ ∃ mm, eB.all k (cur.drop j) = some mm ∧ m = cur.take j ++ mm) ∧ aj (wr.heap[g]? = some (.cells #[.string p1, .string p2, .slice vA l.length vc] 148 (0, 0))) ∧ aj (Kd.R Kd.string 9 wr w.heap.size (fun _ => True) (.slice vA l.length vc) cur) ∧ aj (Below w.heap.size w wr)) (fun v18 _ => l.length - (intOf v18).toNat)
  case atStart => exact ⟨0, l, rfl, Nat.zero_le _, ⟨rfl, m, HM.out, rfl⟩, bk2, hv2, hb2⟩
  case round =>
    clear HM hv2 hb2 bk2
    obtain ⟨j, cur, rfl, hj, hc, bk, hR, hB⟩ := hrel
    by_cases hlt : j < l.length
    · obtain ⟨hcl, mm, hmm, hmt⟩ := hc.out
      have hjc : j < cur.length := by omega
      rw [List.drop_eq_getElem_cons hjc, eB.all] at hmm
      obtain ⟨y, hy, hmm⟩ := zbm hmm
      obtain ⟨m', hm', hmm⟩ := zbm hmm
      obtain rfl : mm = y :: m' := (Option.some.inj hmm).symm
      have hnew := aj.mk (show (cur.set j y).length = l.length ∧ ∃ mm, eB.all k ((cur.set j y).drop (j + 1)) = some mm ∧ m = (cur.set j y).take (j + 1) ++ mm from by
        refine ⟨by rw [List.length_set]; exact hcl, m', ?_, ?_⟩
        · rw [List.drop_set_of_lt (by omega)]; exact hm'
        · have e : (cur.set j y).take (j + 1) = cur.take j ++ [y] := by
            rw [List.take_succ_eq_append_getElem (by rw [List.length_set]; exact hjc), List.getElem_set_self, List.take_set_of_le (Nat.le_refl j)]
          rw [hmt, e, List.append_assoc]; rfl)
      obtain ⟨gr, cap, e0, _, _, cells, hcells⟩ := Kd.Tg hR.out (by omega)
      injection e0 with e1 e2 e3
      subst e1 e3
      have hne := aj.mk (show g ≠ gr from Tc bk.out hcells (by decide))
      have hxc := Kd.AU ByteArray.empty hR.out (j : Int) (by omega) (by omega)
      have hxe : oH ByteArray.empty cur (j : Int) = cur[j] := by
        unfold oH
        rw [Int.toNat_natCast, List.getD_eq_getElem?_getD, List.getElem?_eq_getElem hjc]
        rfl
      rw [hxe, Int.toNat_natCast] at hxc
      have HY := aj.mk hy
      have c0 := hxc.1
      have c1 := (cO.facts bk.out).1.2.2
      have hlt2 := aj.mk hlt
      have p0 : (0 ≤ (j : Int)) = True := eq_true (by omega)
      have q0 : ((j : Int) < (l.length : Int)) = True := eq_true (by omega)
      generalize cur[j] = x at *
      clear hmm hm' hmt hy hxe hxc hcells hc e2 hlt hjc hcl
      go_wp2
      go_region_with (first | (go_at_call 92; refine (l5.calls _ _ _ _ HY.out).mono ?_; rintro e w3 ⟨rfl, hb3⟩; have bk3 := dM (aI bk.out) hb3; have Vd := Kd.j3 (Kd.fQ hR.out) hb3; have hB3 := aj.mk ((jg hB.out).trans (hb3.mono hB.out.size)); have d0 := (Kd.AU ByteArray.empty Vd (j : Int) (by omega) (by have := hlt2.out; omega)).1; have d1 := (Kd.AU ByteArray.empty Vd (j : Int) (by omega) (by have := hlt2.out; omega)).2; rw [Int.toNat_natCast] at d0 d1; have d2 := (cO.facts bk3).1.2.2; have bk3 := aj.mk bk3; have Vd := aj.mk Vd; clear hb3))
      all_goals
        have hfin := Kd.Tj Vd.out (j : Int) y
        rw [Int.toNat_natCast] at hfin
        have bk4 := aj.mk (nM (p := ⟨gr, j, none⟩) bk3.out hne.out (.string y))
        have hR4 := aj.mk hfin.1
        have hB4 := aj.mk (hB3.out.grown hfin.2 hB3.out.size (fun k e => by cases e; exact Kd.Tf Vd.out gr rfl))
        clear hfin
        generalize w3.setCell ⟨gr, j, none⟩ (.string y) = w4 at *
        clear c0 c1 d0 d1 d2 p0 q0
        have hw := (show wrap64 ((j : Int) + 1) = ((j + 1 : Nat) : Int) from by have hlt := hlt2.out; have hm9 := hmx.out; rw [B.dO (by omega) (by omega)]; omega)
        have hw := aj.mk hw
        go_wp2
        go_roundw
        case rel => have hlt := hlt2.out; have hm9 := hmx.out; exact ⟨j + 1, cur.set j y, by rw [hw.out], hlt2.out, hnew, bk4, hR4, hB4⟩
        case measure => have hlt := hlt2.out; have hm9 := hmx.out; rw [hw.out]; simp only [intOf]; omega
    · obtain rfl : j = l.length := by omega
      have hcm : m = cur := by
        obtain ⟨hcl, mm, hmm, hmt⟩ := hc.out
        rw [← hcl, List.drop_length] at hmm
        cases hmm
        rw [hmt, ← hcl, List.take_length, List.append_nil]
      subst hcm
      have q0 : ((l.length : Int) < (l.length : Int)) = False := eq_false (by omega)
      obtain ⟨⟨k0, k1, k2⟩, _, _, _⟩ := cO.facts bk.out
      have hF := HF.out
      unfold eB.fin at hF
      by_cases z1 : p1.size + (strings_Join.cat m).size + p2.size ≤ 140737488355328
      · rw [if_pos z1] at hF
        by_cases z2 : m.length ≤ 1000000
        · rw [if_pos z2] at hF
          obtain rfl := Option.some.inj hF
          have z1 := aj.mk z1
          have z2 := aj.mk z2
          clear hF HF
          go_wp2_with (first
            | (go_at_call 113; refine (iD.calls _ _ _ m _ _ _ hR.out z2.out z1.out).mono ?_; rintro e w4 ⟨rfl, hb4⟩; have hB4 := aj.mk (hB.out.trans (hb4.mono hB.out.size)); clear hb4))
          go_ret
          exact ⟨rfl, hB4.out⟩
        · rw [if_neg z2] at hF; cases hF
      · rw [if_neg z1] at hF; cases hF
end Go.Proofs.Ytdkkgecdhapfhaa.ZQ
namespace Go.Proofs.Ytdkkgecdhapfhaa.ZQ
open Go.RowKit Go.Proofs.YtdkkgecdhapfhaaW.bD Go.Proofs.YtdkkgecdhapfhaaW.dV Go.Proofs.YtdkkgecdhapfhaaW.eD
attribute [local go_sem] ji jk j4 j5 iA iB jl jm
theorem TL (d : Nat) (w : World) (x0 y0 : Int) (x1 y1 : Int) (x2 y2 : Int) :
    (Op.equalIn (d + 2) 142 (.agg #[.int .i64 x0, .int .i64 x1, .int .i64 x2]) (.agg #[.int .i64 y0, .int .i64 y1, .int .i64 y2])).run Try.prog w = .ok (x0 == y0 && (x1 == y1 && (x2 == y2))) w := by
  refine B.KM Try.underlying142 (by kernel_rfl) (by kernel_rfl) ?_
  show (Op.eqItems _ 3 1 _ _ [0, 1, 2]).run _ _ = _
  refine B.Di (by go_simp; rfl) (by go_simp; rfl) (by go_simp) ?_
  refine B.Di (by go_simp; rfl) (by go_simp; rfl) (by go_simp) ?_
  exact B.KL (by go_simp; rfl) (by go_simp; rfl) (by go_simp)
end Go.Proofs.Ytdkkgecdhapfhaa.ZQ

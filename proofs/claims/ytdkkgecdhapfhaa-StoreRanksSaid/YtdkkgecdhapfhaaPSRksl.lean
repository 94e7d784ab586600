/- A part of the proof of StoreRanks: cut, joined and given short names by a program of this session (wip/tools/pack.py); Lean checks it. No condition. -/
import Derived.Test.YtdkkgecdhapfhaaPSRksj
import Derived.Test.YtdkkgecdhapfhaaPSRksk
import Derived.Deep.RegionHeld3
import Derived.Test.YtdkkgecdhapfhaaPSRksd
set_option linter.unusedSectionVars false
set_option linter.unusedSimpArgs false
set_option linter.unusedVariables false
namespace Go.Proofs.Ytdkkgecdhapfhaa.ZQ
open Go.RowKit Go.Proofs.YtdkkgecdhapfhaaW.bD Go.Proofs.YtdkkgecdhapfhaaW.dW Go.Proofs.YtdkkgecdhapfhaaW.eG
attribute [local go_sem] jh ji j4 j5 iD iE jk jl
theorem iG.keep {a b : ByteArray} {v : Value} {l : List ByteArray} {base g : Nat} {ok : Nat → Prop} {w w1 w2 : World}
    (h : (w1.cell? ⟨g, 0, none⟩ = some (.string a) ∧ w1.cell? ⟨g, 1, none⟩ = some (.string b) ∧ w1.cell? ⟨g, 2, none⟩ = some v) ∧ aj (Below g w w1 ∧ g < w1.heap.size ∧ Kd.R Kd.string 9 w1 base ok v l)) (hb : Below w1.heap.size w1 w2) :
    (w2.cell? ⟨g, 0, none⟩ = some (.string a) ∧ w2.cell? ⟨g, 1, none⟩ = some (.string b) ∧ w2.cell? ⟨g, 2, none⟩ = some v) ∧ aj (Below g w w2 ∧ g < w2.heap.size ∧ Kd.R Kd.string 9 w2 base ok v l) := by
  obtain ⟨⟨c0, c1, c2⟩, ⟨h1, h2, h3⟩⟩ := h
  have hs := hb.size
  exact ⟨⟨(hb.cell h2).trans c0, (hb.cell h2).trans c1, (hb.cell h2).trans c2⟩, ⟨h1.trans (hb.mono (by omega)), by omega, Kd.j3 h3 hb⟩⟩
set_option maxHeartbeats 4000000 in
set_option maxRecDepth 100000 in
theorem iG.calls (a b : ByteArray) (v : Value) (l : List ByteArray) (base : Nat) (ok : Nat → Prop) (w : World) (hr : Kd.R Kd.string 9 w base ok v l) (hl : l.length ≤ 1000000) (hz : a.size + (strings_Join.cat l).size + b.size ≤ 140737488355328) :
    Calls Try.prog 113 #[.agg #[.string a, .string b, v]] w fun e w' => e = .returned (.string (a ++ strings_Join.cat l ++ b)) ∧ Below w.heap.size w w' := by
  have HB := aj.mk (ak (Below.refl w.heap.size w) (.cells #[.string a, .string b, v] 148 (0, 0)))
  have HR := aj.mk (Kd.eX hr (.cells #[.string a, .string b, v] 148 (0, 0)))
  have HC : (w.alloc (.cells #[.string a, .string b, v] 148 (0, 0))).cell? ⟨w.heap.size, 0, none⟩ = some (.string a) ∧ (w.alloc (.cells #[.string a, .string b, v] 148 (0, 0))).cell? ⟨w.heap.size, 1, none⟩ = some (.string b) ∧ (w.alloc (.cells #[.string a, .string b, v] 148 (0, 0))).cell? ⟨w.heap.size, 2, none⟩ = some v := by
    refine ⟨?_, ?_, ?_⟩ <;> (rw [Lib.cell_of_heap (heap_alloc_new w _)]; rfl)
  have HC0 := aj.mk HC
  clear HC
  have HC := HC0
  clear HC0
  have hs : w.heap.size < (w.alloc (.cells #[.string a, .string b, v] 148 (0, 0))).heap.size := by show _ < (w.heap.push _).size; rw [Array.size_push]; omega
  have HS := aj.mk hs
  have HZ := aj.mk hz
  have HL := aj.mk hl
  clear hs hz hr hl
  go_enter Try.func113, Try.ntmps113
  go_wp2
  generalize w.alloc (.cells #[.string a, .string b, v] 148 (0, 0)) = w1 at *
  generalize hgg : w.heap.size = g at *
  have hgg := aj.mk hgg
  have hf1 : a.size + (strings_Join.cat l).size ≤ 9223372036854775807 := by have := HZ.out; omega
  have hf2 : a.size + (strings_Join.cat l).size + b.size ≤ 9223372036854775807 := by have := HZ.out; omega
  have c0 := HC.out.1
  have c1 := HC.out.2.1
  have c2 := HC.out.2.2
  go_region_held (fun w' => (w'.cell? ⟨g, 0, none⟩ = some (.string a) ∧ w'.cell? ⟨g, 1, none⟩ = some (.string b) ∧ w'.cell? ⟨g, 2, none⟩ = some v) ∧ aj (Below g w w' ∧ g < w'.heap.size ∧ Kd.R Kd.string 9 w' base ok v l)) ((first | assumption | exact iG.keep ⟨⟨c0, c1, c2⟩, ⟨HB.out, HS.out, HR.out⟩⟩ (jf (Below.refl _ _)) | exact iG.keep (by assumption) (by assumption))) ((first | (go_at_call 123; refine (strings_Join.calls v l base ok _ (Kd.fQ HR.out) HL.out (by have := HZ.out; omega)).mono ?_; rintro e w' ⟨rfl, hb'⟩)))
  all_goals
    rename_i hx
    go_wp2
    go_ret
    exact ⟨rfl, hgg.out ▸ hx.2.out.1⟩
def bY.agg (a b c : Int) : Value := .agg #[.int .i64 a, .int .i64 b, .int .i64 c]
def bY.tab : List (Int × Value) := [(1, bY.agg 4 0 0), (28, bY.agg 16 0 0), (2, bY.agg 0 1 0), (5, bY.agg 0 1 0), (12, bY.agg 0 1 0), (6, bY.agg 0 2 20), (15, bY.agg 2 1 0), (33, bY.agg 6 1 0)]
set_option maxHeartbeats 8000000 in
set_option maxRecDepth 100000 in
theorem bY.calls (w : World) : Calls Try.prog 120 #[] w fun e w' => ∃ g, e = .returned (.map (some g)) ∧ Mi.In w.heap.size w w' g bY.tab := by
  have hmm := @run_makeMap Try.prog
  have hi := aj.mk (Mi.In.made (w := w))
  generalize hg : w.heap.size = g at hi
  have hg' := aj.mk hg
  go_enter Try.func120, Try.ntmps120
  go_wp2_with (first | (refine Mi.DR 159 _ _ _ rfl ?_; refine Mi.YC _ rfl _ _ _ 159 rfl 3 157 Try.underlying159 Try.underlying3 _ _ rfl (aj.out (by assumption)) _ _ rfl rfl rfl ?_; clear hi; intro w1 hi))
  go_ret
  exact ⟨g, rfl, hi.out⟩
def bV.l0 : Nat → ByteArray → Int → Int → Int → Int → Int → Int → Int → ByteArray → ByteArray → List ByteArray → Option (ByteArray × ByteArray × List ByteArray × Bool)
  | 0, _, _, _, _, _, _, _, _, _, _, _ => none
  | k + 1, x0, x1, x2, x37, x38, Oh, Oi, Gt, Gu, Oj, Bu => if x38 < x37 then ((bF.f k x0 x1).bind fun Gv => (if Gv.2.2 = 0 then (if Gv.2.1 > x2 then (some ((⟨#[]⟩ : ByteArray), (⟨#[]⟩ : ByteArray), ([] : List ByteArray), false)) else (if Bu.length < 8796093022208 then (bV.l0 k x0 Gv.2.1 x2 x37 (wrap64 (x38 + 1)) Oh Oi Gt Gu Oj (Bu ++ [Gv.1])) else (none))) else (some ((⟨#[]⟩ : ByteArray), (⟨#[]⟩ : ByteArray), ([] : List ByteArray), false)))) else (if 0 ≤ x1 then (if x1 ≤ x2 then (if x2 ≤ (x0.size : Int) then (some (Gu, x0.extract (x1 : Int).toNat (x2 : Int).toNat, Bu, (((x0.extract (x1 : Int).toNat (x2 : Int).toNat).size : Int) == Gt))) else (none)) else (none)) else (none))
def bV.f (k : Nat) (a0 : ByteArray) (a1 : Int) (a2 : Int) (eH : Int) (iM : Int) (jO : Int) : Option (ByteArray × ByteArray × List ByteArray × Bool) := if (eH ≤ (wrap64 (a2 - a1))) then (if 0 ≤ a1 then (if a1 ≤ (wrap64 (a1 + eH)) then (if (wrap64 (a1 + eH)) ≤ (a0.size : Int) then (bV.l0 k a0 (wrap64 (a1 + eH)) a2 iM 0 eH iM jO (a0.extract (a1 : Int).toNat ((wrap64 (a1 + eH)) : Int).toNat) (⟨#[]⟩ : ByteArray) ([] : List ByteArray)) else (none)) else (none)) else (none)) else (some ((⟨#[]⟩ : ByteArray), (⟨#[]⟩ : ByteArray), ([] : List ByteArray), false))
def bV.T15 : Bool × List (List Nat × List Nat) := (true, [([], []), ([], []), ([1], [1]), ([2], [2]), ([], []), ([4], [4]), ([3, 5], [3, 5]), ([0, 0], [0]), ([6, 7, 0, 1, 2, 3, 4, 5, 6, 7], [6])])
def bV.B15 : List Nat := [0, 0, 2, 6, 0, 16, 62, 1, 255]
theorem bV.YD : mD .any (opsOf Try.f121 15) = bV.T15 := by kernel_rfl
theorem bV.TW : qb bV.T15.2 bV.B15 = true := by kernel_rfl
set_option maxHeartbeats 8000000 in
set_option maxRecDepth 100000 in
theorem bV.calls (k : Nat) (a0 : ByteArray) (a1 : Int) (a2 : Int) (eH : Int) (iM : Int) (jO : Int) (r1 : ByteArray) (r2 : ByteArray) (r3 : List ByteArray) (r4 : Bool) (w : World) (h : bV.f k a0 a1 a2 eH iM jO = some (r1, r2, r3, r4)) :
    Calls Try.prog 121 #[.string a0, .int .i64 a1, .int .i64 a2, .agg #[.int .i64 eH, .int .i64 iM, .int .i64 jO]] w fun e w' => ∃ YE : Value, e = .returned (.tuple #[.agg #[.string r1, .string r2, YE], .bool r4]) ∧ Kd.R Kd.string 9 w' w.heap.size (fun _ => True) YE r3 ∧ Below w.heap.size w w' := by
  have ae7 := Try.underlying157
  have ae8 := Try.underlying148
  have HB := aj.mk (Below.refl w.heap.size w)
  have H : (if (eH ≤ (wrap64 (a2 - a1))) then (if 0 ≤ a1 then (if a1 ≤ (wrap64 (a1 + eH)) then (if (wrap64 (a1 + eH)) ≤ (a0.size : Int) then (bV.l0 k a0 (wrap64 (a1 + eH)) a2 iM 0 eH iM jO (a0.extract (a1 : Int).toNat ((wrap64 (a1 + eH)) : Int).toNat) (⟨#[]⟩ : ByteArray) ([] : List ByteArray)) else (none)) else (none)) else (none)) else (some ((⟨#[]⟩ : ByteArray), (⟨#[]⟩ : ByteArray), ([] : List ByteArray), false))) = some (r1, r2, r3, r4) := h
  clear h
  by_cases c5 : (eH ≤ (wrap64 (a2 - a1)))
  · rw [if_pos c5] at H
    have oU : decide (eH ≤ (wrap64 (a2 - a1))) = true := decide_eq_true c5
    (try (have uK : decide (eH ≤ ((a2 - a1))) = true := by have h_ : decide (eH ≤ (wrap64 (a2 - a1))) = true := decide_eq_true c5; rw [B.dO (by omega) (by omega)] at h_; exact h_))
    clear c5
    by_cases c6 : 0 ≤ a1
    · rw [if_pos c6] at H
      have yZ := eq_true c6
      have Lc : decide (0 ≤ a1) = true := decide_eq_true c6
      clear c6
      by_cases c7 : a1 ≤ (wrap64 (a1 + eH))
      · rw [if_pos c7] at H
        have tK := eq_true c7
        have Iy : decide (a1 ≤ (wrap64 (a1 + eH))) = true := decide_eq_true c7
        by_cases c8 : (wrap64 (a1 + eH)) ≤ (a0.size : Int)
        · rw [if_pos c8] at H
          have qZ := eq_true c8
          have q8 : decide ((wrap64 (a1 + eH)) ≤ (a0.size : Int)) = true := decide_eq_true c8
          have H' := aj.mk H
          clear H
          go_enter Try.func121, Try.ntmps121
          go_wp2_with (first | ((with_reducible refine gF (N := 7) rfl ?_); refine fP ?hg (N := 7) ?hd (cs := #[.int .i64 eH, .int .i64 iM, .int .i64 jO]) (t := 157) ?hr ?_; (case hd => rfl); (case hg => rfl); (case hr => first | (go_simp; done) | (go_simp; rfl)); intro fJ hg w9 gT hb; have dZ := aj.mk (bE (by repeat (first | (with_reducible first | exact HB.out | apply ak | apply ah | apply au) | exact HB.out)) hb); have gW := aj.mk (gT); have iZ := aj.mk ((by rw [hg]; exact (bL (by repeat (first | (with_reducible first | exact HB.out | apply ak | apply ah | apply au) | exact HB.out))) : w.heap.size ≤ fJ)); have jF := aj.mk ((by rw [hg]; exact (bL (by repeat (first | (with_reducible first | exact HB.out | apply ak | apply ah | apply au) | exact HB.out))) : w.heap.size ≤ fJ)); clear HB; have HB := dZ; have dI := gW; have YF := iZ; have iT := jF; clear dZ gW iZ jF; clear hb gT hg) | ((with_reducible refine gF (N := 8) rfl ?_); refine fP ?hg (N := 8) ?hd (cs := #[.string (⟨#[]⟩ : ByteArray), .string (⟨#[]⟩ : ByteArray), .slice none 0 0]) (t := 148) ?hr ?_; (case hd => rfl); (case hg => rfl); (case hr => first | (go_simp; done) | (go_simp; rfl)); intro dB hg w10 gT hb; have dZ := aj.mk (dM (g := fJ) (o := .cells #[.int .i64 eH, .int .i64 iM, .int .i64 jO] 157 (0, 0)) (by (with_reducible repeat (first | refine aG ?_ _ | refine aI ?_ | refine aA ?_ _)); exact dI.out) hb); have gW := aj.mk (bE (by repeat (first | (with_reducible first | exact HB.out | apply ak | apply ah | apply au | refine aR ?_ iT.out) | exact HB.out)) hb); have iZ := aj.mk (gT); have jF := aj.mk ((by rw [hg]; exact (bL (by repeat (first | (with_reducible first | exact HB.out | apply ak | apply ah | apply au | refine aR ?_ iT.out) | exact HB.out))) : w.heap.size ≤ dB)); have qA := aj.mk ((by rw [hg]; exact (bL (by repeat (first | (with_reducible first | exact HB.out | apply ak | apply ah | apply au | refine aR ?_ iT.out) | exact HB.out))) : w.heap.size ≤ dB)); have LB := aj.mk ((by rw [hg]; exact Nat.ne_of_lt (jD (g := fJ) (o := .cells #[.int .i64 eH, .int .i64 iM, .int .i64 jO] 157 (0, 0)) (by (with_reducible repeat (first | refine aG ?_ _ | refine aI ?_ | refine aA ?_ _)); exact dI.out)) : fJ ≠ dB)); have LC := aj.mk ((by rw [hg]; exact Nat.ne_of_gt (jD (g := fJ) (o := .cells #[.int .i64 eH, .int .i64 iM, .int .i64 jO] 157 (0, 0)) (by (with_reducible repeat (first | refine aG ?_ _ | refine aI ?_ | refine aA ?_ _)); exact dI.out)) : dB ≠ fJ)); clear dI; clear HB; have dI := dZ; have HB := gW; have dz := iZ; have YG := jF; have kC := qA; have fD := LB; have jS := LC; clear dZ gW iZ jF qA LB LC; clear hb gT hg) | ((with_reducible refine gF (N := 10) rfl ?_); refine fP ?hg (N := 10) ?hd (cs := #[.string (⟨#[]⟩ : ByteArray), .string (⟨#[]⟩ : ByteArray), .slice none 0 0]) (t := 148) ?hr ?_; (case hd => rfl); (case hg => rfl); (case hr => first | (go_simp; done) | (go_simp; rfl)); intro fC hg TY gT hb; have dZ := aj.mk (dM (g := fJ) (o := .cells #[.int .i64 eH, .int .i64 iM, .int .i64 jO] 157 (0, 0)) (by (with_reducible repeat (first | refine aG ?_ _ | refine aI ?_ | refine aA ?_ _)); exact dI.out) hb); have gW := aj.mk (dM (g := dB) (o := .cells #[.string (⟨#[]⟩ : ByteArray), .string (⟨#[]⟩ : ByteArray), .slice none 0 0] 148 (0, 0)) (by (with_reducible repeat (first | refine aG ?_ _ | refine aI ?_ | refine aA ?_ _)); exact dz.out) hb); have iZ := aj.mk (bE (by repeat (first | (with_reducible first | exact HB.out | apply ak | apply ah | apply au | refine aR ?_ iT.out | refine aR ?_ kC.out) | exact HB.out)) hb); have jF := aj.mk (gT); have qA := aj.mk ((by rw [hg]; exact (bL (by repeat (first | (with_reducible first | exact HB.out | apply ak | apply ah | apply au | refine aR ?_ iT.out | refine aR ?_ kC.out) | exact HB.out))) : w.heap.size ≤ fC)); have LB := aj.mk ((by rw [hg]; exact (bL (by repeat (first | (with_reducible first | exact HB.out | apply ak | apply ah | apply au | refine aR ?_ iT.out | refine aR ?_ kC.out) | exact HB.out))) : w.heap.size ≤ fC)); have LC := aj.mk ((by rw [hg]; exact Nat.ne_of_lt (jD (g := fJ) (o := .cells #[.int .i64 eH, .int .i64 iM, .int .i64 jO] 157 (0, 0)) (by (with_reducible repeat (first | refine aG ?_ _ | refine aI ?_ | refine aA ?_ _)); exact dI.out)) : fJ ≠ fC)); have YH := aj.mk ((by rw [hg]; exact Nat.ne_of_gt (jD (g := fJ) (o := .cells #[.int .i64 eH, .int .i64 iM, .int .i64 jO] 157 (0, 0)) (by (with_reducible repeat (first | refine aG ?_ _ | refine aI ?_ | refine aA ?_ _)); exact dI.out)) : fC ≠ fJ)); have YI := aj.mk ((by rw [hg]; exact Nat.ne_of_lt (jD (g := dB) (o := .cells #[.string (⟨#[]⟩ : ByteArray), .string (⟨#[]⟩ : ByteArray), .slice none 0 0] 148 (0, 0)) (by (with_reducible repeat (first | refine aG ?_ _ | refine aI ?_ | refine aA ?_ _)); exact dz.out)) : dB ≠ fC)); have YJ := aj.mk ((by rw [hg]; exact Nat.ne_of_gt (jD (g := dB) (o := .cells #[.string (⟨#[]⟩ : ByteArray), .string (⟨#[]⟩ : ByteArray), .slice none 0 0] 148 (0, 0)) (by (with_reducible repeat (first | refine aG ?_ _ | refine aI ?_ | refine aA ?_ _)); exact dz.out)) : fC ≠ dB)); clear dI; clear dz; clear HB; have dI := dZ; have dz := gW; have HB := iZ; have dU := jF; have YK := qA; have nD := LB; have jT := LC; have nE := YH; have gP := YI; have eZ := YJ; clear dZ gW iZ jF qA LB LC YH YI YJ; clear hb gT hg; have ae9 := fD.out; have afa := jS.out; have afb := jT.out; have afc := nE.out; have Ol : TY.cell? ⟨fJ, 0, none⟩ = some (.int .i64 eH) := (aM dI.out 0).trans rfl; have Om : TY.cell? ⟨fJ, 1, none⟩ = some (.int .i64 iM) := (aM dI.out 1).trans rfl; have Oo : TY.cell? ⟨fJ, 2, none⟩ = some (.int .i64 jO) := (aM dI.out 2).trans rfl; have Oq := ay dI.out 0; have Ot := ay dI.out 1; have Ou := ay dI.out 2; have afd := eZ.out; have afe := gP.out; have Ov : TY.cell? ⟨fC, 0, none⟩ = some (.string (⟨#[]⟩ : ByteArray)) := (aM dU.out 0).trans rfl; have Ow : TY.cell? ⟨fC, 1, none⟩ = some (.string (⟨#[]⟩ : ByteArray)) := (aM dU.out 1).trans rfl; have Ox : TY.cell? ⟨fC, 2, none⟩ = some (.slice none 0 0) := (aM dU.out 2).trans rfl; have Oy := ay dU.out 0; have Oz := ay dU.out 1; have OA := ay dU.out 2))
          go_loopg [1, 38] k (fun kq v1 v38 w' => ∃ (dQ : Int) (tN : Int) (gB : ByteArray) (fE : ByteArray) (gY : List ByteArray) (iN : Value), v1 = .int .i64 dQ ∧ v38 = .int .i64 tN ∧ aj (bV.l0 kq a0 dQ a2 iM tN eH iM jO (a0.extract (a1 : Int).toNat ((wrap64 (a1 + eH)) : Int).toNat) (⟨#[]⟩ : ByteArray) gY = some (r1, r2, r3, r4)) ∧ aj (kq ≤ k) ∧ aj (Kd.R Kd.string 9 w' w.heap.size (fun _ => True) iN gY) ∧ aj (w'.heap[fJ]? = some (.cells #[.int .i64 eH, .int .i64 iM, .int .i64 jO] 157 (0, 0))) ∧ aj (w'.heap[dB]? = some (.cells #[.string gB, .string fE, (.slice none 0 0)] 148 (0, 0))) ∧ aj (w'.heap[fC]? = some (.cells #[.string (a0.extract (a1 : Int).toNat ((wrap64 (a1 + eH)) : Int).toNat), .string (⟨#[]⟩ : ByteArray), iN] 148 (0, 0))) ∧ aj (Below w.heap.size w w'))
          case atStart => exact ⟨(wrap64 (a1 + eH)), (0), ((⟨#[]⟩ : ByteArray)), ((⟨#[]⟩ : ByteArray)), (([] : List ByteArray)), (.slice none 0 0), (by first | rfl | (simp; done) | (simp [*]; done) | (simp [B.aV]; done) | (simp [B.aW]; done)), (by first | rfl | (simp; done) | (simp [*]; done) | (simp [B.aV]; done) | (simp [B.aW]; done)), H', ⟨Nat.le_refl _⟩, ⟨by first | exact Kd.jA _ _ _ _ _ | exact Kd.kS _ _ _ _ _ | exact Kd.kT _ _ _ _ _ | exact Kd.kQ _ _ _ _ _ | exact Kd.kR _ _ _ _ _⟩, ⟨by (with_reducible repeat (first | refine aG ?_ _ | refine aI ?_ | refine aA ?_ _)); refine nP ?_ jT.out _; (with_reducible repeat (first | refine aG ?_ _ | refine aI ?_ | refine aA ?_ _)); exact dI.out⟩, ⟨by (with_reducible repeat (first | refine aG ?_ _ | refine aI ?_ | refine aA ?_ _)); refine nP ?_ gP.out _; (with_reducible repeat (first | refine aG ?_ _ | refine aI ?_ | refine aA ?_ _)); exact dz.out⟩, ⟨by (with_reducible repeat (first | refine aG ?_ _ | refine aI ?_ | refine aA ?_ _)); refine bU (cs := #[.string (⟨#[]⟩ : ByteArray), .string (⟨#[]⟩ : ByteArray), .slice none 0 0]) ?_ 0 _ rfl; (with_reducible repeat (first | refine aG ?_ _ | refine aI ?_ | refine aA ?_ _)); exact dU.out⟩, ⟨by repeat (first | (with_reducible first | exact HB.out | apply ak | apply ah | apply au | refine aR ?_ iT.out | refine aR ?_ kC.out | refine aR ?_ nD.out) | exact HB.out)⟩⟩
          case round =>
            clear H'
            try clear c1
            try clear p2
            try clear c5
            try clear oU
            try clear uK
            try clear c6
            try clear yZ
            try clear Lc
            try clear p6
            try clear c7
            try clear tK
            try clear Iy
            try clear c8
            try clear qZ
            try clear q8
            try clear c12
            try clear c13
            try clear c15
            try clear Ol
            try clear Om
            try clear Oo
            try clear Ov
            try clear Ow
            try clear Ox
            try clear Oq
            try clear Ot
            try clear Ou
            try clear Oy
            try clear Oz
            try clear OA
            obtain ⟨dQ, tN, gB, fE, gY, iN, rfl, rfl, HA, sZ, dN, dI, dz, dU, HB⟩ := hrel
            cases gk with
            | zero => exact absurd HA.out (by simp [bV.l0])
            | succ k1 =>
              have H := HA.out
              clear HA
              simp only [bV.l0] at H
              by_cases c17 : tN < iM
              · rw [if_pos c17] at H
                have QO : decide (tN < iM) = true := decide_eq_true c17
                clear c17
                replace H := zbm H
                obtain ⟨⟨Fa, y7, t127⟩, Lu, H⟩ := H
                replace H : (if t127 = 0 then (if y7 > a2 then (some ((⟨#[]⟩ : ByteArray), (⟨#[]⟩ : ByteArray), ([] : List ByteArray), false)) else (if gY.length < 8796093022208 then (bV.l0 k1 a0 y7 a2 iM (wrap64 (tN + 1)) eH iM jO (a0.extract (a1 : Int).toNat ((wrap64 (a1 + eH)) : Int).toNat) (⟨#[]⟩ : ByteArray) (gY ++ [Fa])) else (none))) else (some ((⟨#[]⟩ : ByteArray), (⟨#[]⟩ : ByteArray), ([] : List ByteArray), false))) = some (r1, r2, r3, r4) := H
                have TT := aj.mk Lu
                clear Lu
                by_cases c19 : t127 = 0
                · rw [if_pos c19] at H
                  have YL : (t127 == 0) = true := beq_iff_eq.mpr c19
                  have YM : (t127 != 0) = false := bne_eq_false_iff_eq.mpr c19
                  clear c19
                  by_cases c20 : y7 > a2
                  · rw [if_pos c20] at H
                    have Lv : decide (a2 < y7) = true := decide_eq_true c20
                    clear c20
                    simp only [Option.some.injEq, Prod.mk.injEq] at H
                    obtain ⟨rfl, rfl, rfl, rfl⟩ := H
                    go_wp2_with (first | ((with_reducible refine aQ (f := 125) rfl ?_); refine bP (some 43) rfl rfl Try.func125 (by kernel_rfl) rfl #[.string a0, .int .i64 dQ] rfl (by (try simp only [List.map_toArray, List.map_cons, List.map_nil]); first | done | rfl | (simp only [List.length_drop, List.length_take]; rfl) | (simp only [ByteArray.size_append, Int.natCast_add]; rfl) | (rw [B.dO] <;> first | rfl | omega | (simp only [decide_eq_false_iff_not, decide_eq_true_eq, Int.not_lt, Nat.not_lt, gt_iff_lt] at * <;> omega))) ?_; (with_reducible refine (bF.calls k1 a0 dQ Fa y7 t127 _ TT.out).mono ?_); rintro e w21 ⟨rfl, hb⟩; refine ⟨_, rfl, ?_⟩; have dZ := aj.mk (Kd.j3 (by (with_reducible repeat (first | apply Kd.eX | apply Kd.fG | apply Kd.fQ)); exact dN.out) hb); have gW := aj.mk (dM (g := fJ) (o := .cells #[.int .i64 eH, .int .i64 iM, .int .i64 jO] 157 (0, 0)) (by (with_reducible repeat (first | refine aG ?_ _ | refine aI ?_ | refine aA ?_ _)); exact dI.out) hb); have iZ := aj.mk (dM (g := dB) (o := .cells #[.string gB, .string fE, .slice none 0 0] 148 (0, 0)) (by (with_reducible repeat (first | refine aG ?_ _ | refine aI ?_ | refine aA ?_ _)); exact dz.out) hb); have jF := aj.mk (dM (g := fC) (o := .cells #[.string (a0.extract (a1 : Int).toNat ((wrap64 (a1 + eH)) : Int).toNat), .string (⟨#[]⟩ : ByteArray), iN] 148 (0, 0)) (by (with_reducible repeat (first | refine aG ?_ _ | refine aI ?_ | refine aA ?_ _)); exact dU.out) hb); have qA := aj.mk (bE (by repeat (first | (with_reducible first | exact HB.out | apply ak | apply ah | apply au | refine aR ?_ iT.out | refine aR ?_ kC.out | refine aR ?_ nD.out) | exact HB.out)) hb); clear dN; clear dI; clear dz; clear dU; clear HB; have dN := dZ; have dI := gW; have dz := iZ; have dU := jF; have HB := qA; clear dZ gW iZ jF qA; (try clear hb); (try clear hb2); (try clear hk); (try clear hi); have aff := jS.out; have afg := fD.out; have afh := gP.out; have afi := eZ.out; have aaW : w21.cell? ⟨dB, 0, none⟩ = some (.string gB) := (aM dz.out 0).trans rfl; have aaX : w21.cell? ⟨dB, 1, none⟩ = some (.string fE) := (aM dz.out 1).trans rfl; have aaY : w21.cell? ⟨dB, 2, none⟩ = some (.slice none 0 0) := (aM dz.out 2).trans rfl; have aaZ := ay dz.out 0; have aa0 := ay dz.out 1; have aa1 := ay dz.out 2))
                    refine bodyPost_ret (jN rfl _ _ dB 148 #[.string (⟨#[]⟩ : ByteArray), .string (⟨#[]⟩ : ByteArray), .slice none 0 0] (0, 0) _ rfl (by (with_reducible repeat (first | refine aG ?_ _ | refine aI ?_ | refine aA ?_ _)); refine bU (cs := #[.string (⟨#[]⟩ : ByteArray), .string (⟨#[]⟩ : ByteArray), .slice none 0 0]) ?_ 2 _ rfl; (with_reducible repeat (first | refine aG ?_ _ | refine aI ?_ | refine aA ?_ _)); refine bU (cs := #[.string (⟨#[]⟩ : ByteArray), .string fE, .slice none 0 0]) ?_ 1 _ rfl; (with_reducible repeat (first | refine aG ?_ _ | refine aI ?_ | refine aA ?_ _)); refine bU (cs := #[.string gB, .string fE, .slice none 0 0]) ?_ 0 _ rfl; (with_reducible repeat (first | refine aG ?_ _ | refine aI ?_ | refine aA ?_ _)); exact dz.out) Try.underlying148 rfl (by kernel_rfl)) rfl ?_
                    exact ⟨_, by first | rfl | (simp [aJ, aK] <;> rfl) | (simp [*, aJ, aK] <;> rfl), by first | exact Kd.jA _ _ _ _ _ | exact Kd.kS _ _ _ _ _ | exact Kd.kT _ _ _ _ _ | exact Kd.kQ _ _ _ _ _ | exact Kd.kR _ _ _ _ _, by repeat (first | (with_reducible first | exact HB.out | apply ak | apply ah | apply au | refine aR ?_ iT.out | refine aR ?_ kC.out | refine aR ?_ nD.out) | exact HB.out)⟩
                  · rw [if_neg c20] at H
                    have Lv : decide (a2 < y7) = false := decide_eq_false c20
                    clear c20
                    by_cases Me : gY.length < 8796093022208
                    · rw [if_pos Me] at H
                      have YN := aj.mk Me
                      clear Me
                      obtain ⟨OB, hy128⟩ : ∃ y_ : List ByteArray, y_ = (gY ++ [Fa]) := ⟨_, rfl⟩
                      replace H : (bV.l0 k1 a0 y7 a2 iM (wrap64 (tN + 1)) eH iM jO (a0.extract (a1 : Int).toNat ((wrap64 (a1 + eH)) : Int).toNat) (⟨#[]⟩ : ByteArray) OB) = some (r1, r2, r3, r4) := by first | (rw [hy128]; with_reducible exact H) | (have EX := (Option.bind_some _ _).symm.trans H; rw [hy128]; with_reducible exact EX) | (have EX := (Option.bind_some _ _).symm.trans H; with_reducible exact EX) | with_reducible exact H | (rw [hy128]; exact H) | exact H
                      have YO := aj.mk hy128
                      clear hy128
                      have H' := aj.mk H
                      clear H
                      go_wp2_with (first | ((with_reducible refine aQ (f := 125) rfl ?_); refine bP (some 43) rfl rfl Try.func125 (by kernel_rfl) rfl #[.string a0, .int .i64 dQ] rfl (by (try simp only [List.map_toArray, List.map_cons, List.map_nil]); first | done | rfl | (simp only [List.length_drop, List.length_take]; rfl) | (simp only [ByteArray.size_append, Int.natCast_add]; rfl) | (rw [B.dO] <;> first | rfl | omega | (simp only [decide_eq_false_iff_not, decide_eq_true_eq, Int.not_lt, Nat.not_lt, gt_iff_lt] at * <;> omega))) ?_; (with_reducible refine (bF.calls k1 a0 dQ Fa y7 t127 _ TT.out).mono ?_); rintro e w26 ⟨rfl, hb⟩; refine ⟨_, rfl, ?_⟩; have dZ := aj.mk (Kd.j3 (by (with_reducible repeat (first | apply Kd.eX | apply Kd.fG | apply Kd.fQ)); exact dN.out) hb); have gW := aj.mk (dM (g := fJ) (o := .cells #[.int .i64 eH, .int .i64 iM, .int .i64 jO] 157 (0, 0)) (by (with_reducible repeat (first | refine aG ?_ _ | refine aI ?_ | refine aA ?_ _)); exact dI.out) hb); have iZ := aj.mk (dM (g := dB) (o := .cells #[.string gB, .string fE, .slice none 0 0] 148 (0, 0)) (by (with_reducible repeat (first | refine aG ?_ _ | refine aI ?_ | refine aA ?_ _)); exact dz.out) hb); have jF := aj.mk (dM (g := fC) (o := .cells #[.string (a0.extract (a1 : Int).toNat ((wrap64 (a1 + eH)) : Int).toNat), .string (⟨#[]⟩ : ByteArray), iN] 148 (0, 0)) (by (with_reducible repeat (first | refine aG ?_ _ | refine aI ?_ | refine aA ?_ _)); exact dU.out) hb); have qA := aj.mk (bE (by repeat (first | (with_reducible first | exact HB.out | apply ak | apply ah | apply au | refine aR ?_ iT.out | refine aR ?_ kC.out | refine aR ?_ nD.out) | exact HB.out)) hb); clear dN; clear dI; clear dz; clear dU; clear HB; have dN := dZ; have dI := gW; have dz := iZ; have dU := jF; have HB := qA; clear dZ gW iZ jF qA; (try clear hb); (try clear hb2); (try clear hk); (try clear hi); have afj := nE.out; have afk := jT.out; have afl := eZ.out; have afm := gP.out; have aa2 : w26.cell? ⟨fC, 0, none⟩ = some (.string (a0.extract (a1 : Int).toNat ((wrap64 (a1 + eH)) : Int).toNat)) := (aM dU.out 0).trans rfl; have aa3 : w26.cell? ⟨fC, 1, none⟩ = some (.string (⟨#[]⟩ : ByteArray)) := (aM dU.out 1).trans rfl; have aa4 : w26.cell? ⟨fC, 2, none⟩ = some (iN) := (aM dU.out 2).trans rfl; have aa5 := ay dU.out 0; have aa6 := ay dU.out 1; have aa7 := ay dU.out 2) | ((with_reducible refine nQ (b := .append) (xs := #[.tmp 56, .tmp 58]) rfl ?_); at_builtin; refine Kd.xE Kd.string (w0 := w) w.heap.size rfl (.tmp 56) (.tmp 58) 33 9 (.string ⟨#[]⟩) 16 rfl Try.underlying33 Gi rfl (by decide) (by omega) iN gY Fa [.string Fa] (fun _ => True) (fun _ => False) rfl rfl ?aP (fun _ hk => hk.elim) ?aF ?aO ?aB ?aS ?aL ?_; (case aP => exact rfl); (case aB => exact (by repeat (first | (with_reducible first | exact HB.out | apply ak | apply ah | apply au | refine aR ?_ iT.out | refine aR ?_ kC.out | refine aR ?_ nD.out) | exact HB.out))); (case aF => exact (fun _ _ => trivial)); (case aO => exact (by (with_reducible repeat (first | apply Kd.eX | apply Kd.fG | apply Kd.fQ)); exact dN.out)); (case aS => exact (bL (by repeat (first | (with_reducible first | exact HB.out | apply ak | apply ah | apply au | refine aR ?_ iT.out | refine aR ?_ kC.out | refine aR ?_ nD.out) | exact HB.out)))); (case aL => have := YN.out; omega); intro agh w30 ho hb hg hat; rw [← YO.out] at ho; have dZ := aj.mk (pR (g := fJ) (o := .cells #[.int .i64 eH, .int .i64 iM, .int .i64 jO] 157 (0, 0)) (by (with_reducible repeat (first | refine aG ?_ _ | refine aI ?_ | refine aA ?_ _)); exact dI.out) hg (Kd.NV dN.out dI.out (by decide))); have gW := aj.mk (pR (g := dB) (o := .cells #[.string gB, .string fE, .slice none 0 0] 148 (0, 0)) (by (with_reducible repeat (first | refine aG ?_ _ | refine aI ?_ | refine aA ?_ _)); exact dz.out) hg (Kd.NV dN.out dz.out (by decide))); have iZ := aj.mk (pR (g := fC) (o := .cells #[.string (a0.extract (a1 : Int).toNat ((wrap64 (a1 + eH)) : Int).toNat), .string (⟨#[]⟩ : ByteArray), iN] 148 (0, 0)) (by (with_reducible repeat (first | refine aG ?_ _ | refine aI ?_ | refine aA ?_ _)); exact dU.out) hg (Kd.NV dN.out dU.out (by decide))); have jF := aj.mk (hb); have qA := aj.mk (ho); clear dI; clear dz; clear dU; clear HB; clear dN; have dI := dZ; have dz := gW; have dU := iZ; have HB := jF; have QS := qA; clear dZ gW iZ jF qA; clear ho hb hg hat; obtain ⟨YP, YQ, adQ⟩ := Kd.vW QS.out; subst adQ; have Gw : w30.cell? ⟨fC, 0, none⟩ = some (.string (a0.extract (a1 : Int).toNat ((wrap64 (a1 + eH)) : Int).toNat)) := (aM dU.out 0).trans rfl; have Gx : w30.cell? ⟨fC, 1, none⟩ = some (.string (⟨#[]⟩ : ByteArray)) := (aM dU.out 1).trans rfl; have Gy : w30.cell? ⟨fC, 2, none⟩ = some (iN) := (aM dU.out 2).trans rfl; have Gz := ay dU.out 0; have GA := ay dU.out 1; have GD := ay dU.out 2))
                      go_roundg k1
                      case measure => have := sZ.out; omega
                      case rel => exact ⟨(y7), (wrap64 (tN + 1)), (gB), (fE), (OB), (.slice YP OB.length YQ), (by first | rfl | (simp; done) | (simp [*]; done) | (simp [B.aV]; done) | (simp [B.aW]; done)), (by first | rfl | (simp; done) | (simp [*]; done) | (simp [B.aV]; done) | (simp [B.aW]; done)), H', ⟨by have := sZ.out; omega⟩, ⟨by (with_reducible repeat (first | apply Kd.eX | apply Kd.fG | apply Kd.fQ)); exact Kd.oN (Kd.sP (p := ⟨fC, 2, none⟩) (Kd.sQ QS.out dU.out (by decide)) (fun _ hk => hk.2) (.slice YP OB.length YQ)) (fun _ hk => trivial)⟩, ⟨by (with_reducible repeat (first | refine aG ?_ _ | refine aI ?_ | refine aA ?_ _)); refine nP ?_ jT.out _; (with_reducible repeat (first | refine aG ?_ _ | refine aI ?_ | refine aA ?_ _)); exact dI.out⟩, ⟨by (with_reducible repeat (first | refine aG ?_ _ | refine aI ?_ | refine aA ?_ _)); refine nP ?_ gP.out _; (with_reducible repeat (first | refine aG ?_ _ | refine aI ?_ | refine aA ?_ _)); exact dz.out⟩, ⟨by (with_reducible repeat (first | refine aG ?_ _ | refine aI ?_ | refine aA ?_ _)); refine bU (cs := #[.string (a0.extract (a1 : Int).toNat ((wrap64 (a1 + eH)) : Int).toNat), .string (⟨#[]⟩ : ByteArray), iN]) ?_ 2 _ rfl; (with_reducible repeat (first | refine aG ?_ _ | refine aI ?_ | refine aA ?_ _)); exact dU.out⟩, ⟨by repeat (first | (with_reducible first | exact HB.out | apply ak | apply ah | apply au | refine aR ?_ iT.out | refine aR ?_ kC.out | refine aR ?_ nD.out) | exact HB.out)⟩⟩
                    · rw [if_neg Me] at H
                      exact absurd H (by simp)
                · rw [if_neg c19] at H
                  have YL : (t127 == 0) = false := beq_eq_false_iff_ne.mpr c19
                  have YM : (t127 != 0) = true := bne_iff_ne.mpr c19
                  simp only [Option.some.injEq, Prod.mk.injEq] at H
                  obtain ⟨rfl, rfl, rfl, rfl⟩ := H
                  go_wp2_with (first | ((with_reducible refine aQ (f := 125) rfl ?_); refine bP (some 43) rfl rfl Try.func125 (by kernel_rfl) rfl #[.string a0, .int .i64 dQ] rfl (by (try simp only [List.map_toArray, List.map_cons, List.map_nil]); first | done | rfl | (simp only [List.length_drop, List.length_take]; rfl) | (simp only [ByteArray.size_append, Int.natCast_add]; rfl) | (rw [B.dO] <;> first | rfl | omega | (simp only [decide_eq_false_iff_not, decide_eq_true_eq, Int.not_lt, Nat.not_lt, gt_iff_lt] at * <;> omega))) ?_; (with_reducible refine (bF.calls k1 a0 dQ Fa y7 t127 _ TT.out).mono ?_); rintro e w33 ⟨rfl, hb⟩; refine ⟨_, rfl, ?_⟩; have dZ := aj.mk (Kd.j3 (by (with_reducible repeat (first | apply Kd.eX | apply Kd.fG | apply Kd.fQ)); exact dN.out) hb); have gW := aj.mk (dM (g := fJ) (o := .cells #[.int .i64 eH, .int .i64 iM, .int .i64 jO] 157 (0, 0)) (by (with_reducible repeat (first | refine aG ?_ _ | refine aI ?_ | refine aA ?_ _)); exact dI.out) hb); have iZ := aj.mk (dM (g := dB) (o := .cells #[.string gB, .string fE, .slice none 0 0] 148 (0, 0)) (by (with_reducible repeat (first | refine aG ?_ _ | refine aI ?_ | refine aA ?_ _)); exact dz.out) hb); have jF := aj.mk (dM (g := fC) (o := .cells #[.string (a0.extract (a1 : Int).toNat ((wrap64 (a1 + eH)) : Int).toNat), .string (⟨#[]⟩ : ByteArray), iN] 148 (0, 0)) (by (with_reducible repeat (first | refine aG ?_ _ | refine aI ?_ | refine aA ?_ _)); exact dU.out) hb); have qA := aj.mk (bE (by repeat (first | (with_reducible first | exact HB.out | apply ak | apply ah | apply au | refine aR ?_ iT.out | refine aR ?_ kC.out | refine aR ?_ nD.out) | exact HB.out)) hb); clear dN; clear dI; clear dz; clear dU; clear HB; have dN := dZ; have dI := gW; have dz := iZ; have dU := jF; have HB := qA; clear dZ gW iZ jF qA; (try clear hb); (try clear hb2); (try clear hk); (try clear hi); have afn := jS.out; have afo := fD.out; have afp := gP.out; have afq := eZ.out; have aa8 : w33.cell? ⟨dB, 0, none⟩ = some (.string gB) := (aM dz.out 0).trans rfl; have aa9 : w33.cell? ⟨dB, 1, none⟩ = some (.string fE) := (aM dz.out 1).trans rfl; have abb : w33.cell? ⟨dB, 2, none⟩ = some (.slice none 0 0) := (aM dz.out 2).trans rfl; have abd := ay dz.out 0; have abe := ay dz.out 1; have abf := ay dz.out 2))
                  refine bodyPost_ret (jN rfl _ _ dB 148 #[.string (⟨#[]⟩ : ByteArray), .string (⟨#[]⟩ : ByteArray), .slice none 0 0] (0, 0) _ rfl (by (with_reducible repeat (first | refine aG ?_ _ | refine aI ?_ | refine aA ?_ _)); refine bU (cs := #[.string (⟨#[]⟩ : ByteArray), .string (⟨#[]⟩ : ByteArray), .slice none 0 0]) ?_ 2 _ rfl; (with_reducible repeat (first | refine aG ?_ _ | refine aI ?_ | refine aA ?_ _)); refine bU (cs := #[.string (⟨#[]⟩ : ByteArray), .string fE, .slice none 0 0]) ?_ 1 _ rfl; (with_reducible repeat (first | refine aG ?_ _ | refine aI ?_ | refine aA ?_ _)); refine bU (cs := #[.string gB, .string fE, .slice none 0 0]) ?_ 0 _ rfl; (with_reducible repeat (first | refine aG ?_ _ | refine aI ?_ | refine aA ?_ _)); exact dz.out) Try.underlying148 rfl (by kernel_rfl)) rfl ?_
                  exact ⟨_, by first | rfl | (simp [aJ, aK] <;> rfl) | (simp [*, aJ, aK] <;> rfl), by first | exact Kd.jA _ _ _ _ _ | exact Kd.kS _ _ _ _ _ | exact Kd.kT _ _ _ _ _ | exact Kd.kQ _ _ _ _ _ | exact Kd.kR _ _ _ _ _, by repeat (first | (with_reducible first | exact HB.out | apply ak | apply ah | apply au | refine aR ?_ iT.out | refine aR ?_ kC.out | refine aR ?_ nD.out) | exact HB.out)⟩
              · rw [if_neg c17] at H
                have QO : decide (tN < iM) = false := decide_eq_false c17
                clear c17
                by_cases c37 : 0 ≤ dQ
                · rw [if_pos c37] at H
                  have afr := eq_true c37
                  have afs : decide (0 ≤ dQ) = true := decide_eq_true c37
                  clear c37
                  by_cases Jg : dQ ≤ a2
                  · rw [if_pos Jg] at H
                    have QT := eq_true Jg
                    have aft : decide (dQ ≤ a2) = true := decide_eq_true Jg
                    clear Jg
                    by_cases YR : a2 ≤ (a0.size : Int)
                    · rw [if_pos YR] at H
                      have afu := eq_true YR
                      have afv : decide (a2 ≤ (a0.size : Int)) = true := decide_eq_true YR
                      clear YR
                      simp only [Option.some.injEq, Prod.mk.injEq] at H
                      obtain ⟨rfl, rfl, rfl, rfl⟩ := H
                      have afw := nE.out
                      have afx := jT.out
                      have afy := eZ.out
                      have afz := gP.out
                      have OC : wr.cell? ⟨fC, 0, none⟩ = some (.string (a0.extract (a1 : Int).toNat ((wrap64 (a1 + eH)) : Int).toNat)) := (aM dU.out 0).trans rfl
                      have OD : wr.cell? ⟨fC, 1, none⟩ = some (.string (⟨#[]⟩ : ByteArray)) := (aM dU.out 1).trans rfl
                      have OE : wr.cell? ⟨fC, 2, none⟩ = some (iN) := (aM dU.out 2).trans rfl
                      have OG := ay dU.out 0
                      have OH := ay dU.out 1
                      have OI := ay dU.out 2
                      try go_wp2
                      have dZ : aj (Kd.R Kd.string 9 (wr.setCell ⟨fC, 1, none⟩ (.string (a0.extract (dQ : Int).toNat (a2 : Int).toNat))) w.heap.size (fun _ => True) iN gY) := ⟨by (with_reducible repeat (first | apply Kd.eX | apply Kd.fG | apply Kd.fQ)); exact Kd.oN (Kd.sP (p := ⟨fC, 1, none⟩) (Kd.sQ dN.out dU.out (by decide)) (fun _ hk => hk.2) (.string (a0.extract (dQ : Int).toNat (a2 : Int).toNat))) (fun _ hk => trivial)⟩
                      have gW : aj ((wr.setCell ⟨fC, 1, none⟩ (.string (a0.extract (dQ : Int).toNat (a2 : Int).toNat))).heap[fJ]? = some (.cells #[.int .i64 eH, .int .i64 iM, .int .i64 jO] 157 (0, 0))) := ⟨by (with_reducible repeat (first | refine aG ?_ _ | refine aI ?_ | refine aA ?_ _)); refine nP ?_ jT.out _; (with_reducible repeat (first | refine aG ?_ _ | refine aI ?_ | refine aA ?_ _)); exact dI.out⟩
                      have iZ : aj ((wr.setCell ⟨fC, 1, none⟩ (.string (a0.extract (dQ : Int).toNat (a2 : Int).toNat))).heap[dB]? = some (.cells #[.string gB, .string fE, .slice none 0 0] 148 (0, 0))) := ⟨by (with_reducible repeat (first | refine aG ?_ _ | refine aI ?_ | refine aA ?_ _)); refine nP ?_ gP.out _; (with_reducible repeat (first | refine aG ?_ _ | refine aI ?_ | refine aA ?_ _)); exact dz.out⟩
                      have jF : aj ((wr.setCell ⟨fC, 1, none⟩ (.string (a0.extract (dQ : Int).toNat (a2 : Int).toNat))).heap[fC]? = some (.cells #[.string (a0.extract (a1 : Int).toNat ((wrap64 (a1 + eH)) : Int).toNat), .string (a0.extract (dQ : Int).toNat (a2 : Int).toNat), iN] 148 (0, 0))) := ⟨by (with_reducible repeat (first | refine aG ?_ _ | refine aI ?_ | refine aA ?_ _)); refine bU (cs := #[.string (a0.extract (a1 : Int).toNat ((wrap64 (a1 + eH)) : Int).toNat), .string (⟨#[]⟩ : ByteArray), iN]) ?_ 1 _ rfl; (with_reducible repeat (first | refine aG ?_ _ | refine aI ?_ | refine aA ?_ _)); exact dU.out⟩
                      have qA : aj (Below w.heap.size w (wr.setCell ⟨fC, 1, none⟩ (.string (a0.extract (dQ : Int).toNat (a2 : Int).toNat)))) := ⟨by repeat (first | (with_reducible first | exact HB.out | apply ak | apply ah | apply au | refine aR ?_ iT.out | refine aR ?_ kC.out | refine aR ?_ nD.out) | exact HB.out)⟩
                      (try clear dN)
                      (try clear dI)
                      (try clear dz)
                      (try clear dU)
                      (try clear HB)
                      generalize (wr.setCell ⟨fC, 1, none⟩ (.string (a0.extract (dQ : Int).toNat (a2 : Int).toNat))) = w43 at dZ gW iZ jF qA ⊢
                      have dN := dZ
                      have dI := gW
                      have dz := iZ
                      have dU := jF
                      have HB := qA
                      clear dZ gW iZ jF qA
                      have dZ := aj.mk (Kd.fQ dN.out)
                      have gW := aj.mk (aI dI.out)
                      have iZ := aj.mk (aI dz.out)
                      have jF := aj.mk (aI dU.out)
                      have qA := aj.mk (au HB.out)
                      clear dN
                      clear dI
                      clear dz
                      clear dU
                      clear HB
                      have dN := dZ
                      have dI := gW
                      have dz := iZ
                      have dU := jF
                      have HB := qA
                      clear dZ gW iZ jF qA
                      obtain ⟨T9, Ua, YS⟩ := Kd.vW dN.out
                      (first | subst YS | (injection YS with f1_ f2_ f3_; have f4_ := f1_.symm; have f5_ := f3_.symm; clear f1_ f2_ f3_; subst f4_; subst f5_))
                      refine KZ (n := 9) (S := fun w' => w'.cell? ⟨fC, 0, none⟩ = some (.string (a0.extract (a1 : Int).toNat ((wrap64 (a1 + eH)) : Int).toNat)) ∧ w'.cell? ⟨fC, 1, none⟩ = some (.string (a0.extract (dQ : Int).toNat (a2 : Int).toNat)) ∧ w'.cell? ⟨fC, 2, none⟩ = some (.slice T9 gY.length Ua) ∧ w'.cell? ⟨fJ, 0, none⟩ = some (.int .i64 eH) ∧ w'.cell? ⟨fJ, 1, none⟩ = some (.int .i64 iM) ∧ w'.cell? ⟨fJ, 2, none⟩ = some (.int .i64 jO)) (ds := []) #[false, false, false, false, false, false, false, false, false] (by kernel_rfl) rfl rfl ⟨(aM dU.out 0).trans rfl, (aM dU.out 1).trans rfl, (aM dU.out 2).trans rfl, (aM dI.out 0).trans rfl, (aM dI.out 1).trans rfl, (aM dI.out 2).trans rfl⟩ (fun hHeld => ?_); refine zO bV.YD bV.TW (fun vL HW_ => ?_)
                      generalize w43.drew = w44 at dN dI dz dU HB hHeld ⊢
                      refine lC (i := 1) (N := some 69) (v := ?_) (a' := ?_) #[false, true, false, false, false, false, false, false, false] rfl rfl (jE vL.out (by kernel_rfl)) (fun _ _ _ h => h) (Or.inl ⟨by rfl, ?_⟩) ?_ ?_
                      rotate_left
                      · intro w'
                        go_simp
                        with_reducible rfl
                      rotate_left
                      · simp only [Act.put, List.setIfInBounds_toArray, List.set_cons_zero, List.set_cons_succ, gN, iq]
                        rfl
                      refine lC (i := 4) (N := some 72) (v := ?_) (a' := ?_) #[false, true, false, false, true, false, false, false, false] rfl rfl (jE vL.out (by kernel_rfl)) (fun _ _ _ h => h) (Or.inl ⟨by rfl, ?_⟩) ?_ ?_
                      rotate_left
                      · intro w'
                        go_simp
                        with_reducible rfl
                      rotate_left
                      · simp only [Act.put, List.setIfInBounds_toArray, List.set_cons_zero, List.set_cons_succ, gN, iq]
                        rfl
                      refine Dq (i := 0) (N := some 68) (v := ?_) (a' := ?_) #[true, true, false, false, true, false, false, false, false] rfl rfl (xU vL.out HW_.out (by kernel_rfl)) (fun _ _ _ h => h) (Or.inl ⟨by rfl, ?_⟩) hHeld ?_ ?_
                      rotate_left
                      · rintro w' ⟨s0, s1, s2, s3, s4, s5⟩
                        go_simp
                        with_reducible rfl
                      rotate_left
                      · simp only [Act.put, List.setIfInBounds_toArray, List.set_cons_zero, List.set_cons_succ, gN, iq]
                        rfl
                      refine Dq (i := 2) (N := some 70) (v := ?_) (a' := ?_) #[true, true, true, false, true, false, false, false, false] rfl rfl (xU vL.out HW_.out (by kernel_rfl)) (fun _ _ _ h => h) (Or.inl ⟨by rfl, ?_⟩) hHeld ?_ ?_
                      rotate_left
                      · rintro w' ⟨s0, s1, s2, s3, s4, s5⟩
                        go_simp
                        with_reducible rfl
                      rotate_left
                      · simp only [Act.put, List.setIfInBounds_toArray, List.set_cons_zero, List.set_cons_succ, gN, iq]
                        rfl
                      refine lC (i := 3) (N := some 71) (v := ?_) (a' := ?_) #[true, true, true, true, true, false, false, false, false] rfl rfl (jE vL.out (by kernel_rfl)) (fun _ _ _ h => h) (Or.inl ⟨by rfl, ?_⟩) ?_ ?_
                      rotate_left
                      · intro w'
                        go_simp
                        with_reducible rfl
                      rotate_left
                      · simp only [Act.put, List.setIfInBounds_toArray, List.set_cons_zero, List.set_cons_succ, gN, iq]
                        rfl
                      refine Dq (i := 5) (N := some 73) (v := ?_) (a' := ?_) #[true, true, true, true, true, true, false, false, false] rfl rfl (xU vL.out HW_.out (by kernel_rfl)) (fun _ _ _ h => h) (Or.inl ⟨by rfl, ?_⟩) hHeld ?_ ?_
                      rotate_left
                      · rintro w' ⟨s0, s1, s2, s3, s4, s5⟩
                        go_simp
                        with_reducible rfl
                      rotate_left
                      · simp only [Act.put, List.setIfInBounds_toArray, List.set_cons_zero, List.set_cons_succ, gN, iq]
                        rfl
                      refine lC (i := 6) (N := some 74) (v := ?_) (a' := ?_) #[true, true, true, true, true, true, true, false, false] rfl rfl (jE vL.out (by kernel_rfl)) (fun _ _ _ h => h) (Or.inl ⟨by rfl, ?_⟩) ?_ ?_
                      rotate_left
                      · intro w'
                        go_simp
                        with_reducible rfl
                      rotate_left
                      · simp only [Act.put, List.setIfInBounds_toArray, List.set_cons_zero, List.set_cons_succ, gN, iq]
                        rfl
                      refine TG (i := 7) (N := none) #[true, true, true, true, true, true, true, true, false] rfl rfl (EW vL.out (by kernel_rfl)) (by decide) (fun K hK => ?_)
                      have agi : w44.cell? ⟨dB, 0, none⟩ = some (.string gB) := (aM dz.out 0).trans rfl
                      have afA := ay dz.out 0
                      have abg := fD.out
                      have abh := eZ.out
                      have abj := jS.out
                      have abk := gP.out
                      have agj : w44.cell? ⟨dB, 1, none⟩ = some (.string fE) := (aM dz.out 1).trans rfl
                      have afB := ay dz.out 1
                      have abl := fD.out
                      have abm := eZ.out
                      have abn := jS.out
                      have abo := gP.out
                      have agk : w44.cell? ⟨dB, 2, none⟩ = some (.slice none 0 0) := (aM dz.out 2).trans rfl
                      have afC := ay dz.out 2
                      have abp := fD.out
                      have abq := eZ.out
                      have abr := jS.out
                      have abt := gP.out
                      refine XP (w1 := ?_) (by rfl) rfl ?_ ?_
                      rotate_left
                      · go_simp
                        rfl
                      refine hK.out _ _ ⟨((cell_far (p := ⟨dB, _, none⟩) eZ.out _).trans (((cell_far (p := ⟨dB, _, none⟩) eZ.out _).trans (((cell_far (p := ⟨dB, _, none⟩) eZ.out _).trans (hHeld.1)))))), ((cell_far (p := ⟨dB, _, none⟩) eZ.out _).trans (((cell_far (p := ⟨dB, _, none⟩) eZ.out _).trans (((cell_far (p := ⟨dB, _, none⟩) eZ.out _).trans (hHeld.2.1)))))), ((cell_far (p := ⟨dB, _, none⟩) eZ.out _).trans (((cell_far (p := ⟨dB, _, none⟩) eZ.out _).trans (((cell_far (p := ⟨dB, _, none⟩) eZ.out _).trans (hHeld.2.2.1)))))), ((cell_far (p := ⟨dB, _, none⟩) fD.out _).trans (((cell_far (p := ⟨dB, _, none⟩) fD.out _).trans (((cell_far (p := ⟨dB, _, none⟩) fD.out _).trans (hHeld.2.2.2.1)))))), ((cell_far (p := ⟨dB, _, none⟩) fD.out _).trans (((cell_far (p := ⟨dB, _, none⟩) fD.out _).trans (((cell_far (p := ⟨dB, _, none⟩) fD.out _).trans (hHeld.2.2.2.2.1)))))), ((cell_far (p := ⟨dB, _, none⟩) fD.out _).trans (((cell_far (p := ⟨dB, _, none⟩) fD.out _).trans (((cell_far (p := ⟨dB, _, none⟩) fD.out _).trans (hHeld.2.2.2.2.2))))))⟩ (fun hHeld => ?_)
                      clear hK K
                      refine lC (i := 8) (N := some 9) (v := ?_) (a' := ?_) #[true, true, true, true, true, true, true, true, true] rfl rfl (jE vL.out (by kernel_rfl)) (fun _ _ _ h => h) (Or.inl ⟨by rfl, ?_⟩) ?_ ?_
                      rotate_left
                      · intro w'
                        go_simp
                        with_reducible rfl
                      rotate_left
                      · simp only [Act.put, List.setIfInBounds_toArray, List.set_cons_zero, List.set_cons_succ, gN, iq]
                        rfl
                      refine QC (Gg vL.out (by kernel_rfl)) ?_
                      try go_wp2
                      refine bodyPost_ret (jN rfl _ _ dB 148 #[.string (a0.extract (a1 : Int).toNat ((wrap64 (a1 + eH)) : Int).toNat), .string (a0.extract (dQ : Int).toNat (a2 : Int).toNat), .slice T9 gY.length Ua] (0, 0) _ rfl (by (with_reducible repeat (first | refine aG ?_ _ | refine aI ?_ | refine aA ?_ _)); refine bU (cs := #[.string (a0.extract (a1 : Int).toNat ((wrap64 (a1 + eH)) : Int).toNat), .string (a0.extract (dQ : Int).toNat (a2 : Int).toNat), .slice none 0 0]) ?_ 2 _ rfl; (with_reducible repeat (first | refine aG ?_ _ | refine aI ?_ | refine aA ?_ _)); refine bU (cs := #[.string (a0.extract (a1 : Int).toNat ((wrap64 (a1 + eH)) : Int).toNat), .string fE, .slice none 0 0]) ?_ 1 _ rfl; (with_reducible repeat (first | refine aG ?_ _ | refine aI ?_ | refine aA ?_ _)); refine bU (cs := #[.string gB, .string fE, .slice none 0 0]) ?_ 0 _ rfl; (with_reducible repeat (first | refine aG ?_ _ | refine aI ?_ | refine aA ?_ _)); exact dz.out) Try.underlying148 rfl (by kernel_rfl)) rfl ?_
                      exact ⟨_, by first | rfl | (simp [aJ, aK] <;> rfl) | (simp [*, aJ, aK] <;> rfl), by (with_reducible repeat (first | apply Kd.eX | apply Kd.fG | apply Kd.fQ)); exact Kd.oN (Kd.sP (p := ⟨dB, 2, none⟩) (Kd.sP (p := ⟨dB, 1, none⟩) (Kd.sP (p := ⟨dB, 0, none⟩) (Kd.sQ dN.out dz.out (by decide)) (fun _ hk => hk.2) (.string (a0.extract (a1 : Int).toNat ((wrap64 (a1 + eH)) : Int).toNat))) (fun _ hk => hk.2) (.string (a0.extract (dQ : Int).toNat (a2 : Int).toNat))) (fun _ hk => hk.2) (.slice T9 gY.length Ua)) (fun _ hk => trivial), by repeat (first | (with_reducible first | exact HB.out | apply ak | apply ah | apply au | refine aR ?_ iT.out | refine aR ?_ kC.out | refine aR ?_ nD.out) | exact HB.out)⟩
                    · rw [if_neg YR] at H
                      exact absurd H (by simp)
                  · rw [if_neg Jg] at H
                    exact absurd H (by simp)
                · rw [if_neg c37] at H
                  exact absurd H (by simp)
        · rw [if_neg c8] at H
          exact absurd H (by simp)
      · rw [if_neg c7] at H
        exact absurd H (by simp)
    · rw [if_neg c6] at H
      exact absurd H (by simp)
  · rw [if_neg c5] at H
    have oU : decide (eH ≤ (wrap64 (a2 - a1))) = false := decide_eq_false c5
    (try (have uK : decide (eH ≤ ((a2 - a1))) = false := by have h_ : decide (eH ≤ (wrap64 (a2 - a1))) = false := decide_eq_false c5; rw [B.dO (by omega) (by omega)] at h_; exact h_))
    clear c5
    simp only [Option.some.injEq, Prod.mk.injEq] at H
    obtain ⟨rfl, rfl, rfl, rfl⟩ := H
    go_enter Try.func121, Try.ntmps121
    go_wp2_with (first | ((with_reducible refine gF (N := 7) rfl ?_); refine fP ?hg (N := 7) ?hd (cs := #[.int .i64 eH, .int .i64 iM, .int .i64 jO]) (t := 157) ?hr ?_; (case hd => rfl); (case hg => rfl); (case hr => first | (go_simp; done) | (go_simp; rfl)); intro fJ hg w49 gT hb; have dZ := aj.mk (bE (by repeat (first | (with_reducible first | exact HB.out | apply ak | apply ah | apply au) | exact HB.out)) hb); have gW := aj.mk (gT); have iZ := aj.mk ((by rw [hg]; exact (bL (by repeat (first | (with_reducible first | exact HB.out | apply ak | apply ah | apply au) | exact HB.out))) : w.heap.size ≤ fJ)); have jF := aj.mk ((by rw [hg]; exact (bL (by repeat (first | (with_reducible first | exact HB.out | apply ak | apply ah | apply au) | exact HB.out))) : w.heap.size ≤ fJ)); clear HB; have HB := dZ; have dI := gW; have YF := iZ; have iT := jF; clear dZ gW iZ jF; clear hb gT hg) | ((with_reducible refine gF (N := 8) rfl ?_); refine fP ?hg (N := 8) ?hd (cs := #[.string (⟨#[]⟩ : ByteArray), .string (⟨#[]⟩ : ByteArray), .slice none 0 0]) (t := 148) ?hr ?_; (case hd => rfl); (case hg => rfl); (case hr => first | (go_simp; done) | (go_simp; rfl)); intro dB hg w50 gT hb; have dZ := aj.mk (dM (g := fJ) (o := .cells #[.int .i64 eH, .int .i64 iM, .int .i64 jO] 157 (0, 0)) (by (with_reducible repeat (first | refine aG ?_ _ | refine aI ?_ | refine aA ?_ _)); exact dI.out) hb); have gW := aj.mk (bE (by repeat (first | (with_reducible first | exact HB.out | apply ak | apply ah | apply au | refine aR ?_ iT.out) | exact HB.out)) hb); have iZ := aj.mk (gT); have jF := aj.mk ((by rw [hg]; exact (bL (by repeat (first | (with_reducible first | exact HB.out | apply ak | apply ah | apply au | refine aR ?_ iT.out) | exact HB.out))) : w.heap.size ≤ dB)); have qA := aj.mk ((by rw [hg]; exact (bL (by repeat (first | (with_reducible first | exact HB.out | apply ak | apply ah | apply au | refine aR ?_ iT.out) | exact HB.out))) : w.heap.size ≤ dB)); have LB := aj.mk ((by rw [hg]; exact Nat.ne_of_lt (jD (g := fJ) (o := .cells #[.int .i64 eH, .int .i64 iM, .int .i64 jO] 157 (0, 0)) (by (with_reducible repeat (first | refine aG ?_ _ | refine aI ?_ | refine aA ?_ _)); exact dI.out)) : fJ ≠ dB)); have LC := aj.mk ((by rw [hg]; exact Nat.ne_of_gt (jD (g := fJ) (o := .cells #[.int .i64 eH, .int .i64 iM, .int .i64 jO] 157 (0, 0)) (by (with_reducible repeat (first | refine aG ?_ _ | refine aI ?_ | refine aA ?_ _)); exact dI.out)) : dB ≠ fJ)); clear dI; clear HB; have dI := dZ; have HB := gW; have dz := iZ; have YG := jF; have kC := qA; have fD := LB; have jS := LC; clear dZ gW iZ jF qA LB LC; clear hb gT hg) | ((with_reducible refine gF (N := 10) rfl ?_); refine fP ?hg (N := 10) ?hd (cs := #[.string (⟨#[]⟩ : ByteArray), .string (⟨#[]⟩ : ByteArray), .slice none 0 0]) (t := 148) ?hr ?_; (case hd => rfl); (case hg => rfl); (case hr => first | (go_simp; done) | (go_simp; rfl)); intro fC hg Vo gT hb; have dZ := aj.mk (dM (g := fJ) (o := .cells #[.int .i64 eH, .int .i64 iM, .int .i64 jO] 157 (0, 0)) (by (with_reducible repeat (first | refine aG ?_ _ | refine aI ?_ | refine aA ?_ _)); exact dI.out) hb); have gW := aj.mk (dM (g := dB) (o := .cells #[.string (⟨#[]⟩ : ByteArray), .string (⟨#[]⟩ : ByteArray), .slice none 0 0] 148 (0, 0)) (by (with_reducible repeat (first | refine aG ?_ _ | refine aI ?_ | refine aA ?_ _)); exact dz.out) hb); have iZ := aj.mk (bE (by repeat (first | (with_reducible first | exact HB.out | apply ak | apply ah | apply au | refine aR ?_ iT.out | refine aR ?_ kC.out) | exact HB.out)) hb); have jF := aj.mk (gT); have qA := aj.mk ((by rw [hg]; exact (bL (by repeat (first | (with_reducible first | exact HB.out | apply ak | apply ah | apply au | refine aR ?_ iT.out | refine aR ?_ kC.out) | exact HB.out))) : w.heap.size ≤ fC)); have LB := aj.mk ((by rw [hg]; exact (bL (by repeat (first | (with_reducible first | exact HB.out | apply ak | apply ah | apply au | refine aR ?_ iT.out | refine aR ?_ kC.out) | exact HB.out))) : w.heap.size ≤ fC)); have LC := aj.mk ((by rw [hg]; exact Nat.ne_of_lt (jD (g := fJ) (o := .cells #[.int .i64 eH, .int .i64 iM, .int .i64 jO] 157 (0, 0)) (by (with_reducible repeat (first | refine aG ?_ _ | refine aI ?_ | refine aA ?_ _)); exact dI.out)) : fJ ≠ fC)); have YH := aj.mk ((by rw [hg]; exact Nat.ne_of_gt (jD (g := fJ) (o := .cells #[.int .i64 eH, .int .i64 iM, .int .i64 jO] 157 (0, 0)) (by (with_reducible repeat (first | refine aG ?_ _ | refine aI ?_ | refine aA ?_ _)); exact dI.out)) : fC ≠ fJ)); have YI := aj.mk ((by rw [hg]; exact Nat.ne_of_lt (jD (g := dB) (o := .cells #[.string (⟨#[]⟩ : ByteArray), .string (⟨#[]⟩ : ByteArray), .slice none 0 0] 148 (0, 0)) (by (with_reducible repeat (first | refine aG ?_ _ | refine aI ?_ | refine aA ?_ _)); exact dz.out)) : dB ≠ fC)); have YJ := aj.mk ((by rw [hg]; exact Nat.ne_of_gt (jD (g := dB) (o := .cells #[.string (⟨#[]⟩ : ByteArray), .string (⟨#[]⟩ : ByteArray), .slice none 0 0] 148 (0, 0)) (by (with_reducible repeat (first | refine aG ?_ _ | refine aI ?_ | refine aA ?_ _)); exact dz.out)) : fC ≠ dB)); clear dI; clear dz; clear HB; have dI := dZ; have dz := gW; have HB := iZ; have dU := jF; have YK := qA; have nD := LB; have jT := LC; have nE := YH; have gP := YI; have eZ := YJ; clear dZ gW iZ jF qA LB LC YH YI YJ; clear hb gT hg; have afD := fD.out; have afE := jS.out; have afF := jT.out; have afG := nE.out; have abu : Vo.cell? ⟨fJ, 0, none⟩ = some (.int .i64 eH) := (aM dI.out 0).trans rfl; have abv : Vo.cell? ⟨fJ, 1, none⟩ = some (.int .i64 iM) := (aM dI.out 1).trans rfl; have abw : Vo.cell? ⟨fJ, 2, none⟩ = some (.int .i64 jO) := (aM dI.out 2).trans rfl; have abx := ay dI.out 0; have aby := ay dI.out 1; have abz := ay dI.out 2; have afH := gP.out; have afI := eZ.out; have abA : Vo.cell? ⟨dB, 0, none⟩ = some (.string (⟨#[]⟩ : ByteArray)) := (aM dz.out 0).trans rfl; have abB : Vo.cell? ⟨dB, 1, none⟩ = some (.string (⟨#[]⟩ : ByteArray)) := (aM dz.out 1).trans rfl; have abC : Vo.cell? ⟨dB, 2, none⟩ = some (.slice none 0 0) := (aM dz.out 2).trans rfl; have abD := ay dz.out 0; have abE := ay dz.out 1; have abF := ay dz.out 2))
    refine bodyPost_ret (jN rfl _ _ dB 148 #[.string (⟨#[]⟩ : ByteArray), .string (⟨#[]⟩ : ByteArray), .slice none 0 0] (0, 0) _ rfl (by (with_reducible repeat (first | refine aG ?_ _ | refine aI ?_ | refine aA ?_ _)); refine bU (cs := #[.string (⟨#[]⟩ : ByteArray), .string (⟨#[]⟩ : ByteArray), .slice none 0 0]) ?_ 2 _ rfl; (with_reducible repeat (first | refine aG ?_ _ | refine aI ?_ | refine aA ?_ _)); refine bU (cs := #[.string (⟨#[]⟩ : ByteArray), .string (⟨#[]⟩ : ByteArray), .slice none 0 0]) ?_ 1 _ rfl; (with_reducible repeat (first | refine aG ?_ _ | refine aI ?_ | refine aA ?_ _)); refine bU (cs := #[.string (⟨#[]⟩ : ByteArray), .string (⟨#[]⟩ : ByteArray), .slice none 0 0]) ?_ 0 _ rfl; (with_reducible repeat (first | refine aG ?_ _ | refine aI ?_ | refine aA ?_ _)); exact dz.out) Try.underlying148 rfl (by kernel_rfl)) rfl ?_
    exact ⟨_, by first | rfl | (simp [aJ, aK] <;> rfl) | (simp [*, aJ, aK] <;> rfl), by first | exact Kd.jA _ _ _ _ _ | exact Kd.kS _ _ _ _ _ | exact Kd.kT _ _ _ _ _ | exact Kd.kQ _ _ _ _ _ | exact Kd.kR _ _ _ _ _, by repeat (first | (with_reducible first | exact HB.out | apply ak | apply ah | apply au | refine aR ?_ iT.out | refine aR ?_ kC.out | refine aR ?_ nD.out) | exact HB.out)⟩
def dK.l0 : Nat → ByteArray → Option (Bool)
  | 0, _ => none
  | k + 1, x0 => if x0.toList = ([] : List UInt8) then (some true) else (if 0 < (x0.size : Int) then (if (wrap64 (1 + (wrap64 (bt x0 0)))) > (x0.size : Int) then (some false) else (if 0 ≤ (wrap64 (1 + (wrap64 (bt x0 0)))) then (if (wrap64 (1 + (wrap64 (bt x0 0)))) ≤ (x0.size : Int) then (dK.l0 k (x0.extract ((wrap64 (1 + (wrap64 (bt x0 0)))) : Int).toNat x0.size)) else (none)) else (none))) else (none))
def dK.f (k : Nat) (a0 : ByteArray) : Option (Bool) := if a0.toList = ([] : List UInt8) then (some false) else (dK.l0 k a0)
set_option maxHeartbeats 8000000 in
set_option maxRecDepth 100000 in
theorem dK.calls (k : Nat) (a0 : ByteArray) (r : Bool) (w : World) (h : dK.f k a0 = some r) :
    Calls Try.prog 122 #[.string a0] w fun e w' => e = .returned (.bool r) ∧ aY w w' := by
  have H : (if a0.toList = ([] : List UInt8) then (some false) else (dK.l0 k a0)) = some r := h
  clear h
  by_cases c2 : a0.toList = ([] : List UInt8)
  · rw [if_pos c2] at H
    have vK : (a0.toList == ([] : List UInt8)) = true := beq_iff_eq.mpr c2
    have Ip : (a0.toList != ([] : List UInt8)) = false := bne_eq_false_iff_eq.mpr c2
    have YT : a0.toList.isEmpty = true := List.isEmpty_iff.mpr c2
    clear c2
    obtain rfl := Option.some.inj H
    go_enter Try.func122, Try.ntmps122
    go_wp2
    go_ret
    exact ⟨by first | rfl | (simp; done) | (simp [*]; done), by repeat (first | exact aY.refl _ | apply aY.step)⟩
  · rw [if_neg c2] at H
    have vK : (a0.toList == ([] : List UInt8)) = false := beq_eq_false_iff_ne.mpr c2
    have Ip : (a0.toList != ([] : List UInt8)) = true := bne_iff_ne.mpr c2
    have YT : a0.toList.isEmpty = false := Bool.eq_false_iff.mpr (fun h_ => c2 (List.isEmpty_iff.mp h_))
    have H' := aj.mk H
    clear H
    go_enter Try.func122, Try.ntmps122
    go_wp2
    go_loopg [0] k (fun kq v0 w' => ∃ (bM : ByteArray), v0 = .string bM ∧ aj (dK.l0 kq bM = some r) ∧ aj (kq ≤ k) ∧ aY w w')
    case atStart => exact ⟨(a0), (by first | rfl | (simp; done) | (simp [*]; done) | (simp [B.aV]; done) | (simp [B.aW]; done)), H', ⟨Nat.le_refl _⟩, by repeat (first | exact aY.refl _ | apply aY.step)⟩
    case round =>
      clear H'
      try clear c1
      try clear c2
      try clear vK
      try clear Ip
      try clear YT
      try clear p2
      obtain ⟨bM, rfl, HA, sZ, ⟨m1, rfl⟩⟩ := hrel
      cases gk with
      | zero => exact absurd HA.out (by simp [dK.l0])
      | succ k1 =>
        have H := HA.out
        clear HA
        simp only [dK.l0] at H
        by_cases c3 : bM.toList = ([] : List UInt8)
        · rw [if_pos c3] at H
          have qy : (bM.toList == ([] : List UInt8)) = true := beq_iff_eq.mpr c3
          have Bo : (bM.toList != ([] : List UInt8)) = false := bne_eq_false_iff_eq.mpr c3
          have Lg : bM.toList.isEmpty = true := List.isEmpty_iff.mpr c3
          clear c3
          obtain rfl := Option.some.inj H
          go_wp2
          go_ret
          exact ⟨by first | rfl | (simp; done) | (simp [*]; done), by repeat (first | exact aY.refl _ | apply aY.step)⟩
        · rw [if_neg c3] at H
          have qy : (bM.toList == ([] : List UInt8)) = false := beq_eq_false_iff_ne.mpr c3
          have Bo : (bM.toList != ([] : List UInt8)) = true := bne_iff_ne.mpr c3
          have Lg : bM.toList.isEmpty = false := Bool.eq_false_iff.mpr (fun h_ => c3 (List.isEmpty_iff.mp h_))
          by_cases c4 : 0 < (bM.size : Int)
          · rw [if_pos c4] at H
            have qx : decide (0 < (bM.size : Int)) = true := decide_eq_true c4
            have Iq : decide (0 < bM.size) = true := decide_eq_true (by omega)
            clear c4
            by_cases c6 : (wrap64 (1 + (wrap64 (bt bM 0)))) > (bM.size : Int)
            · rw [if_pos c6] at H
              have yZ : decide ((bM.size : Int) < (wrap64 (1 + (wrap64 (bt bM 0))))) = true := decide_eq_true c6
              (try (have Lc : decide ((bM.size : Int) < ((1 + ((bt bM 0))))) = true := by have h_ : decide ((bM.size : Int) < (wrap64 (1 + (wrap64 (bt bM 0))))) = true := decide_eq_true c6; rw [B.dO (by omega) (by omega)] at h_; rw [B.dO (by omega) (by omega)] at h_; exact h_))
              clear c6
              obtain rfl := Option.some.inj H
              have p5 : 0 ≤ (0 : Int) := (by omega)
              have q5 : 0 < bM.size := (by have : (0 : Int) < (bM.size : Int) := of_decide_eq_true (by first | (with_reducible assumption) | assumption); omega)
              have hx5 : ∀ h : 0 < bM.size, ((bM[0]'h).toNat : Int) = bt bM 0 := nC bM 0
              clear p5
              have qi5 : (0 < (bM.size : Int)) = True := eq_true (of_decide_eq_true (by first | (with_reducible assumption) | assumption))
              replace q5 := eq_true q5
              go_wp2
              go_ret
              exact ⟨by first | rfl | (simp; done) | (simp [*]; done), by repeat (first | exact aY.refl _ | apply aY.step)⟩
            · rw [if_neg c6] at H
              have yZ : decide ((bM.size : Int) < (wrap64 (1 + (wrap64 (bt bM 0))))) = false := decide_eq_false c6
              (try (have Lc : decide ((bM.size : Int) < ((1 + ((bt bM 0))))) = false := by have h_ : decide ((bM.size : Int) < (wrap64 (1 + (wrap64 (bt bM 0))))) = false := decide_eq_false c6; rw [B.dO (by omega) (by omega)] at h_; rw [B.dO (by omega) (by omega)] at h_; exact h_))
              clear c6
              obtain ⟨OJ, IJ⟩ : ∃ j_ : Int, (wrap64 (1 + (wrap64 (bt bM 0)))) = j_ := ⟨_, rfl⟩
              replace H : (if 0 ≤ (OJ) then (if (OJ) ≤ (bM.size : Int) then (dK.l0 k1 (bM.extract ((OJ) : Int).toNat bM.size)) else (none)) else (none)) = some r := by first | (rw [IJ] at H; exact H) | (simp only [IJ] at H ⊢; exact H)
              (try rw [IJ] at yZ)
              (try rw [IJ] at Lc)
              have afJ : (IntKind.i64.wrap (1 + (wrap64 (bt bM 0)))) = OJ := (gN _).trans IJ
              by_cases c8 : 0 ≤ (OJ)
              · rw [if_pos c8] at H
                have qZ := eq_true c8
                have q8 : decide (0 ≤ (OJ)) = true := decide_eq_true c8
                clear c8
                by_cases c9 : (OJ) ≤ (bM.size : Int)
                · rw [if_pos c9] at H
                  have tq := eq_true c9
                  have DC : decide ((OJ) ≤ (bM.size : Int)) = true := decide_eq_true c9
                  clear c9
                  have H' := aj.mk H
                  clear H
                  have p5 : 0 ≤ (0 : Int) := (by omega)
                  have q5 : 0 < bM.size := (by have : (0 : Int) < (bM.size : Int) := of_decide_eq_true (by first | (with_reducible assumption) | assumption); omega)
                  have hx5 : ∀ h : 0 < bM.size, ((bM[0]'h).toNat : Int) = bt bM 0 := nC bM 0
                  clear p5
                  have qi5 : (0 < (bM.size : Int)) = True := eq_true (of_decide_eq_true (by first | (with_reducible assumption) | assumption))
                  replace q5 := eq_true q5
                  go_wp2
                  go_roundg k1
                  case measure => have := sZ.out; omega
                  case rel => exact ⟨(bM.extract ((OJ) : Int).toNat bM.size), (by first | rfl | (simp; done) | (simp only [← IJ] <;> (first | rfl | simp)) | (simp [*]; done)), H', ⟨by have := sZ.out; omega⟩, by repeat (first | exact aY.refl _ | apply aY.step)⟩
                · rw [if_neg c9] at H
                  exact absurd H (by simp)
              · rw [if_neg c8] at H
                exact absurd H (by simp)
          · rw [if_neg c4] at H
            exact absurd H (by simp)
def aD.yh (k : Int) : Option (Int × Int × Int) :=
  if k = 1 then some (4, 0, 0) else if k = 28 then some (16, 0, 0) else if k = 2 then some (0, 1, 0) else if k = 5 then some (0, 1, 0) else if k = 12 then some (0, 1, 0) else if k = 6 then some (0, 2, 20) else if k = 15 then some (2, 1, 0) else if k = 33 then some (6, 1, 0) else none
theorem aD.vY (k : Int) : Mi.rU k bY.tab = (aD.yh k).map fun s => bY.agg s.1 s.2.1 s.2.2 := by
  unfold aD.yh bY.tab
  simp only [Mi.rU]
  repeat' split
  all_goals rfl
def aD.fin (k : Nat) (kind : Int) (d : ByteArray) (is : Bool) : Option (ByteArray × Int) :=
  if is = true then (if kind = 16 then ((dK.f k d).bind fun b => if b = true then (if (d.size : Int) > 65535 then some (⟨#[]⟩, 4) else some (d, 0)) else some (⟨#[]⟩, 4)) else (if (d.size : Int) > 65535 then some (⟨#[]⟩, 4) else some (d, 0))) else some (⟨#[]⟩, 4)
def aD.g (k : Nat) (a0 : ByteArray) (a1 a2 a3 : Int) (s : Int × Int × Int) : Option (ByteArray × Int) :=
  (bV.f k a0 a1 (wrap64 (a1 + a2)) s.1 s.2.1 s.2.2).bind fun p => if p.1.size + (strings_Join.cat p.2.2.1).size + p.2.1.size ≤ 140737488355328 then (if p.2.2.1.length ≤ 1000000 then aD.fin k a3 (p.1 ++ strings_Join.cat p.2.2.1 ++ p.2.1) p.2.2.2 else none) else none
def aD.f (k : Nat) (a0 : ByteArray) (a1 a2 a3 : Int) : Option (ByteArray × Int) :=
  (eT.f a0 a1 a2).bind fun t => if t.2 = true then (match aD.yh a3 with | some s => aD.g k a0 a1 a2 a3 s | none => aD.fin k a3 t.1 true) else some (⟨#[]⟩, 2)
theorem aD.zV {k : Nat} {kind : Int} {d : ByteArray} {r : ByteArray × Int} (h : aD.fin k kind d true = some r) (hk : kind = 16) :
    ∃ b, dK.f k d = some b ∧ (if b = true then (if (d.size : Int) > 65535 then some ((⟨#[]⟩ : ByteArray), (4 : Int)) else some (d, 0)) else some (⟨#[]⟩, 4)) = some r := by
  unfold aD.fin at h
  rw [if_pos rfl, if_pos hk] at h
  exact zbm h
theorem aD.qc {k : Nat} {kind : Int} {d : ByteArray} {r : ByteArray × Int} (h : aD.fin k kind d true = some r) (hk : ¬ kind = 16) :
    (if (d.size : Int) > 65535 then some ((⟨#[]⟩ : ByteArray), (4 : Int)) else some (d, 0)) = some r := by
  unfold aD.fin at h
  rw [if_pos rfl, if_neg hk] at h
  exact h
theorem aD.Ub {k : Nat} {kind : Int} {d : ByteArray} {r : ByteArray × Int} (h : aD.fin k kind d false = some r) : r = (⟨#[]⟩, 4) := by
  unfold aD.fin at h
  rw [if_neg Bool.false_ne_true] at h
  exact (Option.some.inj h).symm
theorem aD.slc {v : Value} {l : List ByteArray} {base : Nat} {ok : Nat → Prop} {w : World} (hr : Kd.R Kd.string 9 w base ok v l) : ∃ A n c, v = .slice A n c := by
  rcases (Kd.sS hr).2 with ⟨rfl, _⟩ | ⟨g, cap, cur, rfl, _⟩
  · exact ⟨_, _, _, rfl⟩
  · exact ⟨_, _, _, rfl⟩
theorem aD.lK {b : Bool} {d r1 : ByteArray} {r2 : Int} (h : (if b = true then (if (d.size : Int) > 65535 then some ((⟨#[]⟩ : ByteArray), (4 : Int)) else some (d, 0)) else some (⟨#[]⟩, 4)) = some (r1, r2)) :
    (b = true → 65535 < (d.size : Int) → r1 = ⟨#[]⟩ ∧ r2 = 4) ∧ (b = true → (d.size : Int) ≤ 65535 → r1 = d ∧ r2 = 0) ∧ (b = false → r1 = ⟨#[]⟩ ∧ r2 = 4) := by
  refine ⟨fun h1 h2 => ?_, fun h1 h2 => ?_, fun h1 => ?_⟩
  · rw [if_pos h1, if_pos h2] at h; cases h; exact ⟨rfl, rfl⟩
  · rw [if_pos h1, if_neg (by omega)] at h; cases h; exact ⟨rfl, rfl⟩
  · rw [h1, if_neg Bool.false_ne_true] at h; cases h; exact ⟨rfl, rfl⟩
theorem aD.qd {d r1 : ByteArray} {r2 : Int} (h : (if (d.size : Int) > 65535 then some ((⟨#[]⟩ : ByteArray), (4 : Int)) else some (d, 0)) = some (r1, r2)) :
    (65535 < (d.size : Int) → r1 = ⟨#[]⟩ ∧ r2 = 4) ∧ ((d.size : Int) ≤ 65535 → r1 = d ∧ r2 = 0) := by
  refine ⟨fun h2 => ?_, fun h2 => ?_⟩
  · rw [if_pos h2] at h; cases h; exact ⟨rfl, rfl⟩
  · rw [if_neg (by omega)] at h; cases h; exact ⟨rfl, rfl⟩
set_option maxHeartbeats 8000000 in
set_option maxRecDepth 100000 in
theorem aD.calls (k : Nat) (a0 : ByteArray) (a1 a2 a3 : Int) (r1 : ByteArray) (r2 : Int) (w : World) (h : aD.f k a0 a1 a2 a3 = some (r1, r2)) :
    Calls Try.prog 111 #[.string a0, .int .i64 a1, .int .i64 a2, .int .i64 a3] w fun e w' => e = .returned (.tuple #[.string r1, .int .i64 r2]) ∧ Below w.heap.size w w' := by
  have HB := aj.mk (Below.refl w.heap.size w)
  obtain ⟨⟨t1, t2⟩, ht, h'⟩ := zbm h
  clear h
  have HT := aj.mk ht
  clear ht
  cases t2 with
  | false =>
    rw [if_neg Bool.false_ne_true] at h'
    obtain ⟨rfl, rfl⟩ := Prod.mk.injEq .. ▸ Option.some.inj h'
    go_enter Try.func111, Try.ntmps111
    go_wp2_with (first | (go_at_call 97; refine (eT.calls _ _ _ _ _ _ HT.out).mono ?_; rintro e w1 ⟨rfl, hd1⟩))
    go_ret2
    exact ⟨rfl, hd1.below⟩
  | true =>
    replace h' : (match aD.yh a3 with | some s => aD.g k a0 a1 a2 a3 s | none => aD.fin k a3 t1 true) = some (r1, r2) := h'
    cases hsh : aD.yh a3 with
    | none =>
      rw [hsh] at h'
      have HH := aj.mk (show aD.fin k a3 t1 true = some (r1, r2) from h')
      clear h'
      have hfn : Mi.rU a3 bY.tab = none := by rw [aD.vY, hsh]; rfl
      go_enter Try.func111, Try.ntmps111
      go_wp2_with (first
        | (go_at_call 97; refine (eT.calls _ _ _ _ _ _ HT.out).mono ?_; rintro e w1 ⟨rfl, hd1⟩)
        | (go_at_call 120; refine (bY.calls _).mono ?_; rintro e w2 ⟨g, rfl, hin⟩; have hl := Mi.look (P := Try.prog) hin.at_ 159 3 157 Try.underlying159 Try.underlying3 _ (Try.zeroValue157 w2) a3; rw [hfn] at hl; have hB2 := aj.mk ((HB.out.trans hd1.below).trans (hin.LA.mono hd1.below.size)); clear hin)
        | (go_at_call 122; obtain ⟨b, hb, hx⟩ := aD.zV HH.out (by assumption); have hx := aj.mk hx; refine (dK.calls _ _ _ _ hb).mono ?_; rintro e w3 ⟨rfl, hd3⟩))
      all_goals
        go_ret2
        first
          | (have hq := (aD.lK hx.out).1 (by assumption) (by assumption); obtain ⟨rfl, rfl⟩ := hq; exact ⟨rfl, (ak hB2.out _).trans (hd3.below.mono (by have := hB2.out.size; simp only [World.alloc, Array.size_push]; omega))⟩)
          | (have hq := (aD.lK hx.out).2.1 (by assumption) (by assumption); obtain ⟨rfl, rfl⟩ := hq; exact ⟨rfl, (ak hB2.out _).trans (hd3.below.mono (by have := hB2.out.size; simp only [World.alloc, Array.size_push]; omega))⟩)
          | (have hq := (aD.lK hx.out).2.2 (by first | assumption | simpa using ‹¬ b = true›); obtain ⟨rfl, rfl⟩ := hq; exact ⟨rfl, (ak hB2.out _).trans (hd3.below.mono (by have := hB2.out.size; simp only [World.alloc, Array.size_push]; omega))⟩)
          | (have hq := (aD.qd (aD.qc HH.out (by assumption))).1 (by assumption); obtain ⟨rfl, rfl⟩ := hq; exact ⟨rfl, ak hB2.out _⟩)
          | (have hq := (aD.qd (aD.qc HH.out (by assumption))).2 (by assumption); obtain ⟨rfl, rfl⟩ := hq; exact ⟨rfl, ak hB2.out _⟩)
    | some s =>
      obtain ⟨s0, s1, s2⟩ := s
      rw [hsh] at h'
      replace h' : aD.g k a0 a1 a2 a3 (s0, s1, s2) = some (r1, r2) := h'
      unfold aD.g at h'
      obtain ⟨⟨p1, p2, p3, p4⟩, hp, h'⟩ := zbm h'
      replace h' : (if p1.size + (strings_Join.cat p3).size + p2.size ≤ 140737488355328 then (if p3.length ≤ 1000000 then aD.fin k a3 (p1 ++ strings_Join.cat p3 ++ p2) p4 else none) else none) = some (r1, r2) := h'
      have hp := aj.mk (show bV.f k a0 a1 (wrap64 (a1 + a2)) s0 s1 s2 = some (p1, p2, p3, p4) from hp)
      by_cases z1 : p1.size + (strings_Join.cat p3).size + p2.size ≤ 140737488355328
      · rw [if_pos z1] at h'
        by_cases z2 : p3.length ≤ 1000000
        · rw [if_pos z2] at h'
          have HH := aj.mk h'
          have z1 := aj.mk z1
          have z2 := aj.mk z2
          clear h'
          have hfn : Mi.rU a3 bY.tab = some (bY.agg s0 s1 s2) := by rw [aD.vY, hsh]; rfl
          cases p4
          all_goals
            go_enter Try.func111, Try.ntmps111
            go_wp2_with (first
              | (go_at_call 97; refine (eT.calls _ _ _ _ _ _ HT.out).mono ?_; rintro e w1 ⟨rfl, hd1⟩)
              | (go_at_call 120; refine (bY.calls _).mono ?_; rintro e w2 ⟨g, rfl, hin⟩; have hl := Mi.look (P := Try.prog) hin.at_ 159 3 157 Try.underlying159 Try.underlying3 _ (Try.zeroValue157 w2) a3; rw [hfn] at hl; replace hl := show _ = Result.ok (Value.tuple #[.agg #[.int .i64 s0, .int .i64 s1, .int .i64 s2], .bool true]) w2 from hl; have hB2 := aj.mk ((HB.out.trans hd1.below).trans (hin.LA.mono hd1.below.size)); clear hin)
              | (go_at_call 121; refine (bV.calls _ _ _ _ _ _ _ _ _ _ _ _ hp.out).mono ?_; rintro e w3 ⟨v, rfl, hv, hb3⟩; obtain ⟨vA, vn, vc, rfl⟩ := aD.slc hv; have hB3 := aj.mk ((ak hB2.out _).trans (hb3.mono (by have := hB2.out.size; simp only [World.alloc, Array.size_push]; omega))); have hv := aj.mk hv; clear hb3)
              | (go_at_call 113; refine (iG.calls _ _ _ p3 _ _ _ (Kd.eX hv.out _) z2.out z1.out).mono ?_; rintro e w4 ⟨rfl, hb4⟩; have hB4 := aj.mk ((ak hB3.out _).trans (hb4.mono (by have := hB3.out.size; simp only [World.alloc, Array.size_push]; omega))); clear hb4)
              | (go_at_call 122; obtain ⟨b, hb, hx⟩ := aD.zV HH.out (by assumption); have hx := aj.mk hx; refine (dK.calls _ _ _ _ hb).mono ?_; rintro e w5 ⟨rfl, hd3⟩))
            all_goals
              go_ret2
              first
                | (have hq := aD.Ub HH.out; cases hq; exact ⟨rfl, hB4.out⟩)
                | (have hq := (aD.lK hx.out).1 (by first | assumption | (simp only [ByteArray.size_append, Int.natCast_add]; assumption)) (by first | assumption | (simp only [ByteArray.size_append, Int.natCast_add]; assumption)); obtain ⟨rfl, rfl⟩ := hq; exact ⟨rfl, hB4.out.trans (hd3.below.mono hB4.out.size)⟩)
                | (have hq := (aD.lK hx.out).2.1 (by first | assumption | (simp only [ByteArray.size_append, Int.natCast_add]; assumption)) (by first | assumption | (simp only [ByteArray.size_append, Int.natCast_add]; assumption)); obtain ⟨rfl, rfl⟩ := hq; exact ⟨rfl, hB4.out.trans (hd3.below.mono hB4.out.size)⟩)
                | (have hq := (aD.lK hx.out).2.2 (by first | assumption | simpa using ‹¬ b = true›); obtain ⟨rfl, rfl⟩ := hq; exact ⟨rfl, hB4.out.trans (hd3.below.mono hB4.out.size)⟩)
                | (have hq := (aD.qd (aD.qc HH.out (by first | assumption | (simp only [ByteArray.size_append, Int.natCast_add]; assumption)))).1 (by first | assumption | (simp only [ByteArray.size_append, Int.natCast_add]; assumption)); obtain ⟨rfl, rfl⟩ := hq; exact ⟨rfl, hB4.out⟩)
                | (have hq := (aD.qd (aD.qc HH.out (by first | assumption | (simp only [ByteArray.size_append, Int.natCast_add]; assumption)))).2 (by first | assumption | (simp only [ByteArray.size_append, Int.natCast_add]; assumption)); obtain ⟨rfl, rfl⟩ := hq; exact ⟨rfl, hB4.out⟩)
        · rw [if_neg z2] at h'; cases h'
      · rw [if_neg z1] at h'; cases h'
def iO.f (k : Nat) (a0 : Int) (a1 : ByteArray) : Option (Bool) := if (a1.size : Int) > 65535 then (some false) else ((aD.f k a1 0 (a1.size : Int) a0).bind fun DT => (if DT.2 = 0 then (some (DT.1.toList == a1.toList)) else (some false)))
set_option maxHeartbeats 8000000 in
set_option maxRecDepth 100000 in
theorem iO.calls (k : Nat) (a0 : Int) (a1 : ByteArray) (r : Bool) (w : World) (h : iO.f k a0 a1 = some r) :
    Calls Try.prog 94 #[.int .i64 a0, .string a1] w fun e w' => e = .returned (.bool r) ∧ Below w.heap.size w w' := by
  have HB := aj.mk (Below.refl w.heap.size w)
  have H : (if (a1.size : Int) > 65535 then (some false) else ((aD.f k a1 0 (a1.size : Int) a0).bind fun DT => (if DT.2 = 0 then (some (DT.1.toList == a1.toList)) else (some false)))) = some r := h
  clear h
  by_cases c3 : (a1.size : Int) > 65535
  · rw [if_pos c3] at H
    have qy : decide (65535 < (a1.size : Int)) = true := decide_eq_true c3
    have Bo : decide (65535 < a1.size) = true := decide_eq_true (by omega)
    clear c3
    obtain rfl := Option.some.inj H
    go_enter Try.func94, Try.ntmps94
    go_wp2
    go_ret
    exact ⟨by first | rfl | (simp [aJ, aK] <;> rfl) | (simp [*, aJ, aK] <;> rfl), by repeat (first | (with_reducible first | exact HB.out | apply ak | apply ah | apply au) | exact HB.out)⟩
  · rw [if_neg c3] at H
    have qy : decide (65535 < (a1.size : Int)) = false := decide_eq_false c3
    have Bo : decide (65535 < a1.size) = false := decide_eq_false (by omega)
    clear c3
    replace H := zbm H
    obtain ⟨⟨t131, DU⟩, DF, H⟩ := H
    replace H : (if DU = 0 then (some (t131.toList == a1.toList)) else (some false)) = some r := H
    have A4 := aj.mk DF
    clear DF
    by_cases c5 : DU = 0
    · rw [if_pos c5] at H
      have oU : (DU == 0) = true := beq_iff_eq.mpr c5
      have uK : (DU != 0) = false := bne_eq_false_iff_eq.mpr c5
      clear c5
      obtain rfl := Option.some.inj H
      go_enter Try.func94, Try.ntmps94
      go_wp2_with (first | ((with_reducible refine aQ (f := 111) rfl ?_); refine bP (some 15) rfl rfl Try.func111 (by kernel_rfl) rfl #[.string a1, .int .i64 0, .int .i64 (a1.size : Int), .int .i64 a0] rfl (by (try simp only [List.map_toArray, List.map_cons, List.map_nil]); first | done | rfl | (simp only [List.length_drop, List.length_take]; rfl) | (simp only [ByteArray.size_append, Int.natCast_add]; rfl) | (rw [B.dO] <;> first | rfl | omega | (simp only [decide_eq_false_iff_not, decide_eq_true_eq, Int.not_lt, Nat.not_lt, gt_iff_lt] at * <;> omega))) ?_; (with_reducible refine (aD.calls k a1 0 (a1.size : Int) a0 t131 DU _ A4.out).mono ?_); rintro e w6 ⟨rfl, hb⟩; refine ⟨_, rfl, ?_⟩; have dZ := aj.mk (bE (by repeat (first | (with_reducible first | exact HB.out | apply ak | apply ah | apply au) | exact HB.out)) hb); clear HB; have HB := dZ; clear dZ; (try clear hb); (try clear hb2); (try clear hk); (try clear hi)))
      go_ret
      exact ⟨by first | rfl | (simp [aJ, aK] <;> rfl) | (simp [*, aJ, aK] <;> rfl), by repeat (first | (with_reducible first | exact HB.out | apply ak | apply ah | apply au) | exact HB.out)⟩
    · rw [if_neg c5] at H
      have oU : (DU == 0) = false := beq_eq_false_iff_ne.mpr c5
      have uK : (DU != 0) = true := bne_iff_ne.mpr c5
      obtain rfl := Option.some.inj H
      go_enter Try.func94, Try.ntmps94
      go_wp2_with (first | ((with_reducible refine aQ (f := 111) rfl ?_); refine bP (some 15) rfl rfl Try.func111 (by kernel_rfl) rfl #[.string a1, .int .i64 0, .int .i64 (a1.size : Int), .int .i64 a0] rfl (by (try simp only [List.map_toArray, List.map_cons, List.map_nil]); first | done | rfl | (simp only [List.length_drop, List.length_take]; rfl) | (simp only [ByteArray.size_append, Int.natCast_add]; rfl) | (rw [B.dO] <;> first | rfl | omega | (simp only [decide_eq_false_iff_not, decide_eq_true_eq, Int.not_lt, Nat.not_lt, gt_iff_lt] at * <;> omega))) ?_; (with_reducible refine (aD.calls k a1 0 (a1.size : Int) a0 t131 DU _ A4.out).mono ?_); rintro e w7 ⟨rfl, hb⟩; refine ⟨_, rfl, ?_⟩; have dZ := aj.mk (bE (by repeat (first | (with_reducible first | exact HB.out | apply ak | apply ah | apply au) | exact HB.out)) hb); clear HB; have HB := dZ; clear dZ; (try clear hb); (try clear hb2); (try clear hk); (try clear hi)))
      go_ret
      exact ⟨by first | rfl | (simp [aJ, aK] <;> rfl) | (simp [*, aJ, aK] <;> rfl), by repeat (first | (with_reducible first | exact HB.out | apply ak | apply ah | apply au) | exact HB.out)⟩
def dn.f (k : Nat) (a0 : Int) (a1 : ByteArray) : Option (ByteArray × ByteArray × List ByteArray × Bool) :=
  (iO.f k a0 a1).bind fun c => if c = true then (match aD.yh a0 with | some s => bV.f k a1 0 (a1.size : Int) s.1 s.2.1 s.2.2 | none => some (a1, ⟨#[]⟩, [], true)) else some (⟨#[]⟩, ⟨#[]⟩, [], false)
theorem dn.three {w w1 : World} {g B : Nat} {a b c a' b' c' : Value} (bk : w1.heap[g]? = some (.cells #[a', b', c'] 148 (0, 0))) :
    (((w1.setCell ⟨g, 0, none⟩ a).setCell ⟨g, 1, none⟩ b).setCell ⟨g, 2, none⟩ c).heap[g]? = some (.cells #[a, b, c] 148 (0, 0)) ∧
    (Below B w w1 → B ≤ g → Below B w (((w1.setCell ⟨g, 0, none⟩ a).setCell ⟨g, 1, none⟩ b).setCell ⟨g, 2, none⟩ c)) ∧
    (∀ v l base ok, Kd.R Kd.string 9 w1 base ok v l → Kd.R Kd.string 9 (((w1.setCell ⟨g, 0, none⟩ a).setCell ⟨g, 1, none⟩ b).setCell ⟨g, 2, none⟩ c) base ok v l) := by
  have b1 := bU bk 0 a (cs' := #[a, b', c']) rfl
  have b2 := bU b1 1 b (cs' := #[a, b, c']) rfl
  have b3 := bU b2 2 c (cs' := #[a, b, c]) rfl
  refine ⟨b3, fun h hg => ((h.setCell hg _).setCell hg _).setCell hg _, fun v l base ok h => ?_⟩
  exact Kd.KT (Kd.KT (Kd.KT h bk (by decide) 0 a) b1 (by decide) 1 b) b2 (by decide) 2 c
theorem dn.facts {w1 : World} {g : Nat} {a b c : Value} (bk : w1.heap[g]? = some (.cells #[a, b, c] 148 (0, 0))) :
    (w1.cell? ⟨g, 0, none⟩ = some a ∧ w1.cell? ⟨g, 1, none⟩ = some b ∧ w1.cell? ⟨g, 2, none⟩ = some c) ∧ w1.frozen? ⟨g, 0, none⟩ = false ∧ w1.frozen? ⟨g, 1, none⟩ = false ∧ w1.frozen? ⟨g, 2, none⟩ = false :=
  ⟨⟨aM bk 0, aM bk 1, aM bk 2⟩, ay bk 0, ay bk 1, ay bk 2⟩
set_option maxHeartbeats 8000000 in
set_option maxRecDepth 100000 in
theorem dn.calls (k : Nat) (a0 : Int) (a1 : ByteArray) (r1 r2 : ByteArray) (r3 : List ByteArray) (r4 : Bool) (w : World) (h : dn.f k a0 a1 = some (r1, r2, r3, r4)) :
    Calls Try.prog 112 #[.int .i64 a0, .string a1] w fun e w' => ∃ YE : Value, e = .returned (.tuple #[.agg #[.string r1, .string r2, YE], .bool r4]) ∧ Kd.R Kd.string 9 w' w.heap.size (fun _ => True) YE r3 ∧ Below w.heap.size w w' := by
  obtain ⟨c, hc, h'⟩ := zbm h
  clear h
  have HC := aj.mk hc
  clear hc
  cases c with
  | false =>
    rw [if_neg Bool.false_ne_true] at h'
    cases h'
    go_enter Try.func112, Try.ntmps112
    go_wp2_with (first
      | (go_at_call 94; refine (iO.calls _ _ _ _ _ HC.out).mono ?_; rintro e w1 ⟨rfl, hd1⟩; have bk := dM (sN w _) hd1; obtain ⟨⟨k0, k1, k2⟩, f0, f1, f2⟩ := dn.facts bk; have bk := aj.mk bk; have hB1 := aj.mk ((ak (Below.refl w.heap.size w) _).trans (hd1.mono (by simp only [World.alloc, Array.size_push]; omega))); clear hd1))
    refine bodyPost_ret (jN rfl _ _ w.heap.size 148 #[.string ⟨#[]⟩, .string ⟨#[]⟩, .slice none 0 0] (0, 0) _ rfl (dn.three (w := w) (B := 0) bk.out).1 Try.underlying148 rfl (by kernel_rfl)) rfl ?_
    exact ⟨_, rfl, Kd.jA _ _ _ _ _, (dn.three bk.out).2.1 hB1.out (Nat.le_refl _)⟩
  | true =>
    replace h' : (match aD.yh a0 with | some s => bV.f k a1 0 (a1.size : Int) s.1 s.2.1 s.2.2 | none => some (a1, ⟨#[]⟩, [], true)) = some (r1, r2, r3, r4) := h'
    cases hsh : aD.yh a0 with
    | none =>
      rw [hsh] at h'
      cases h'
      have hfn : Mi.rU a0 bY.tab = none := by rw [aD.vY, hsh]; rfl
      go_enter Try.func112, Try.ntmps112
      go_wp2_with (first
        | (go_at_call 94; refine (iO.calls _ _ _ _ _ HC.out).mono ?_; rintro e w1 ⟨rfl, hd1⟩; have bk := dM (sN w _) hd1; obtain ⟨⟨k0, k1, k2⟩, f0, f1, f2⟩ := dn.facts bk; have bk := aj.mk bk; have hB1 := aj.mk ((ak (Below.refl w.heap.size w) _).trans (hd1.mono (by simp only [World.alloc, Array.size_push]; omega))); clear hd1)
        | (go_at_call 120; refine (bY.calls _).mono ?_; rintro e w2 ⟨g, rfl, hin⟩; clear k0 k1 k2 f0 f1 f2; have hl := Mi.look (P := Try.prog) hin.at_ 159 3 157 Try.underlying159 Try.underlying3 _ (Try.zeroValue157 w2) a0; rw [hfn] at hl; replace hl := show _ = Result.ok (Value.tuple #[.agg #[.int .i64 0, .int .i64 0, .int .i64 0], .bool false]) w2 from hl; have hB2 := aj.mk (hB1.out.trans (hin.LA.mono hB1.out.size)); have bk := aj.mk (aA (dM bk.out hin.LA) (.cells #[.int .i64 0, .int .i64 0, .int .i64 0] 157 (0, 0))); obtain ⟨⟨k0, k1, k2⟩, f0, f1, f2⟩ := dn.facts bk.out; clear hin))
      refine bodyPost_ret (jN rfl _ _ w.heap.size 148 #[.string a1, .string ⟨#[]⟩, .slice none 0 0] (0, 0) _ rfl (dn.three (w := w) (B := 0) bk.out).1 Try.underlying148 rfl (by kernel_rfl)) rfl ?_
      exact ⟨_, rfl, Kd.jA _ _ _ _ _, (dn.three bk.out).2.1 (ak hB2.out _) (Nat.le_refl _)⟩
    | some s =>
      obtain ⟨s0, s1, s2⟩ := s
      rw [hsh] at h'
      have hp := aj.mk (show bV.f k a1 0 (a1.size : Int) s0 s1 s2 = some (r1, r2, r3, r4) from h')
      clear h'
      have hfn : Mi.rU a0 bY.tab = some (bY.agg s0 s1 s2) := by rw [aD.vY, hsh]; rfl
      go_enter Try.func112, Try.ntmps112
      go_wp2_with (first
        | (go_at_call 94; refine (iO.calls _ _ _ _ _ HC.out).mono ?_; rintro e w1 ⟨rfl, hd1⟩; have bk := dM (sN w _) hd1; obtain ⟨⟨k0, k1, k2⟩, f0, f1, f2⟩ := dn.facts bk; have bk := aj.mk bk; have hB1 := aj.mk ((ak (Below.refl w.heap.size w) _).trans (hd1.mono (by simp only [World.alloc, Array.size_push]; omega))); clear hd1)
        | (go_at_call 120; refine (bY.calls _).mono ?_; rintro e w2 ⟨g, rfl, hin⟩; clear k0 k1 k2 f0 f1 f2; have hl := Mi.look (P := Try.prog) hin.at_ 159 3 157 Try.underlying159 Try.underlying3 _ (Try.zeroValue157 w2) a0; rw [hfn] at hl; replace hl := show _ = Result.ok (Value.tuple #[.agg #[.int .i64 s0, .int .i64 s1, .int .i64 s2], .bool true]) w2 from hl; have hB2 := aj.mk (hB1.out.trans (hin.LA.mono hB1.out.size)); have bk := aj.mk (aA (dM bk.out hin.LA) (.cells #[.int .i64 s0, .int .i64 s1, .int .i64 s2] 157 (0, 0))); obtain ⟨⟨k0, k1, k2⟩, f0, f1, f2⟩ := dn.facts bk.out; clear hin)
        | (go_at_call 121; refine (bV.calls _ _ _ _ _ _ _ _ _ _ _ _ hp.out).mono ?_; rintro e w3 ⟨v, rfl, hv, hb3⟩; clear k0 k1 k2 f0 f1 f2; obtain ⟨vA, vn, vc, rfl⟩ := aD.slc hv; have hB3 := aj.mk ((ak hB2.out _).trans (hb3.mono (by have := hB2.out.size; simp only [World.alloc, Array.size_push]; omega))); have hv := aj.mk (Kd.sO hv (by have := hB2.out.size; simp only [World.alloc, Array.size_push]; omega : w.heap.size ≤ _)); have bk := aj.mk (dM bk.out hb3); obtain ⟨⟨k0, k1, k2⟩, f0, f1, f2⟩ := dn.facts bk.out; clear hb3))
      refine bodyPost_ret (jN rfl _ _ w.heap.size 148 #[.string r1, .string r2, .slice vA vn vc] (0, 0) _ rfl (dn.three (w := w) (B := 0) bk.out).1 Try.underlying148 rfl (by kernel_rfl)) rfl ?_
      exact ⟨_, rfl, (dn.three (w := w) (B := 0) bk.out).2.2 _ _ _ _ hv.out, (dn.three bk.out).2.1 hB3.out (Nat.le_refl _)⟩
def eF.all (k : Nat) : List ByteArray → Option (List ByteArray)
  | [] => some []
  | x :: l => (l7.f k x).bind fun y => (eF.all k l).bind fun m => some (y :: m)
def eF.fin (p1 p2 : ByteArray) (m : List ByteArray) : Option ByteArray :=
  if p1.size + (strings_Join.cat m).size + p2.size ≤ 140737488355328 then (if m.length ≤ 1000000 then some (p1 ++ strings_Join.cat m ++ p2) else none) else none
def eF.f (k : Nat) (a0 : Int) (a1 : ByteArray) : Option ByteArray :=
  (dn.f k a0 a1).bind fun p => (eF.all k p.2.2.1).bind fun m => eF.fin p.1 p.2.1 m
theorem eF.yj {k : Nat} : ∀ {l m : List ByteArray}, eF.all k l = some m → m.length = l.length
  | [], m, h => by cases h; rfl
  | x :: l, m, h => by
    rw [eF.all] at h
    obtain ⟨y, _, h⟩ := zbm h
    obtain ⟨m', h', h⟩ := zbm h
    cases h
    rw [List.length_cons, List.length_cons, eF.yj h']
set_option maxHeartbeats 8000000 in
set_option maxRecDepth 100000 in
theorem eF.calls (k : Nat) (a0 : Int) (a1 : ByteArray) (r : ByteArray) (w : World) (h : eF.f k a0 a1 = some r) :
    Calls Try.prog 95 #[.int .i64 a0, .string a1] w fun e w' => e = .returned (.string r) ∧ Below w.heap.size w w' := by
  obtain ⟨⟨p1, p2, l, p4⟩, hp, h'⟩ := zbm h
  clear h
  obtain ⟨m, hm, h'⟩ := zbm h'
  replace hm : eF.all k l = some m := hm
  replace h' : eF.fin p1 p2 m = some r := h'
  have hml := eF.yj hm
  have HP := aj.mk hp
  have HM := aj.mk hm
  have HF := aj.mk h'
  have HL := aj.mk hml
  clear hp hm h' hml
  go_enter Try.func95, Try.ntmps95
  go_wp2_with (first
    | (go_at_call 112; refine (dn.calls _ _ _ _ _ _ _ _ HP.out).mono ?_; rintro e w1 ⟨v, rfl, hv, hb1⟩; obtain ⟨vA, vn, vc, rfl⟩ := aD.slc hv; obtain ⟨rfl, _, hcc⟩ := Kd.oO hv; have hmx := aj.mk (Kd.XL hcc); clear hcc; have hv2 := aj.mk (Kd.eX hv (.cells #[.string p1, .string p2, .slice vA l.length vc] 148 (0, 0))); have hb2 := aj.mk (ak hb1 (.cells #[.string p1, .string p2, .slice vA l.length vc] 148 (0, 0))); have bk2 := aj.mk (sN w1 (.cells #[.string p1, .string p2, .slice vA l.length vc] 148 (0, 0))); have hge := aj.mk hb1.size; clear hv hb1))
  generalize hw1 : w1.alloc (.cells #[.string p1, .string p2, .slice vA l.length vc] 148 (0, 0)) = w2 at *
  generalize hg : w1.heap.size = g at *
  clear hw1 hg
  go_loopw [18] (fun v18 wr => ∃ (j : Nat) (cur : List ByteArray), v18 = .int .i64 j ∧ j ≤ l.length ∧ aj (cur.length = l.length ∧ ∃ mm, eF.all k (cur.drop j) = some mm ∧ m = cur.take j ++ mm) ∧ aj (wr.heap[g]? = some (.cells #[.string p1, .string p2, .slice vA l.length vc] 148 (0, 0))) ∧ aj (Kd.R Kd.string 9 wr w.heap.size (fun _ => True) (.slice vA l.length vc) cur) ∧ aj (Below w.heap.size w wr)) (fun v18 _ => l.length - (intOf v18).toNat)
  case atStart => exact ⟨0, l, rfl, Nat.zero_le _, ⟨rfl, m, HM.out, rfl⟩, bk2, hv2, hb2⟩
  case round =>
    clear HM hv2 hb2 bk2
    obtain ⟨j, cur, rfl, hj, hc, bk, hR, hB⟩ := hrel
    by_cases hlt : j < l.length
    · obtain ⟨hcl, mm, hmm, hmt⟩ := hc.out
      have hjc : j < cur.length := by omega
      rw [List.drop_eq_getElem_cons hjc, eF.all] at hmm
      obtain ⟨y, hy, hmm⟩ := zbm hmm
      obtain ⟨m', hm', hmm⟩ := zbm hmm
      obtain rfl : mm = y :: m' := (Option.some.inj hmm).symm
      have hnew := aj.mk (show (cur.set j y).length = l.length ∧ ∃ mm, eF.all k ((cur.set j y).drop (j + 1)) = some mm ∧ m = (cur.set j y).take (j + 1) ++ mm from by
        refine ⟨by rw [List.length_set]; exact hcl, m', ?_, ?_⟩
        · rw [List.drop_set_of_lt (by omega)]; exact hm'
        · have e : (cur.set j y).take (j + 1) = cur.take j ++ [y] := by
            rw [List.take_succ_eq_append_getElem (by rw [List.length_set]; exact hjc), List.getElem_set_self, List.take_set_of_le (Nat.le_refl j)]
          rw [hmt, e, List.append_assoc]; rfl)
      obtain ⟨gr, cap, e0, _, _, cells, hcells⟩ := Kd.TB hR.out (by omega)
      injection e0 with e1 e2 e3
      subst e1 e3
      have hne := aj.mk (show g ≠ gr from Tw bk.out hcells (by decide))
      have hxc := Kd.Bg ByteArray.empty hR.out (j : Int) (by omega) (by omega)
      have hxe : oL ByteArray.empty cur (j : Int) = cur[j] := by
        unfold oL
        rw [Int.toNat_natCast, List.getD_eq_getElem?_getD, List.getElem?_eq_getElem hjc]
        rfl
      rw [hxe, Int.toNat_natCast] at hxc
      have HY := aj.mk hy
      have c0 := hxc.1
      have c1 := (dn.facts bk.out).1.2.2
      have hlt2 := aj.mk hlt
      have p0 : (0 ≤ (j : Int)) = True := eq_true (by omega)
      have q0 : ((j : Int) < (l.length : Int)) = True := eq_true (by omega)
      generalize cur[j] = x at *
      clear hmm hm' hmt hy hxe hxc hcells hc e2 hlt hjc hcl
      go_wp2
      go_region_with (first | (go_at_call 92; refine (l7.calls _ _ _ _ HY.out).mono ?_; rintro e w3 ⟨rfl, hb3⟩; have bk3 := dM (aI bk.out) hb3; have Vp := Kd.j3 (Kd.fQ hR.out) hb3; have hB3 := aj.mk ((jf hB.out).trans (hb3.mono hB.out.size)); have d0 := (Kd.Bg ByteArray.empty Vp (j : Int) (by omega) (by have := hlt2.out; omega)).1; have d1 := (Kd.Bg ByteArray.empty Vp (j : Int) (by omega) (by have := hlt2.out; omega)).2; rw [Int.toNat_natCast] at d0 d1; have d2 := (dn.facts bk3).1.2.2; have bk3 := aj.mk bk3; have Vp := aj.mk Vp; clear hb3))
      all_goals
        have hfin := Kd.TF Vp.out (j : Int) y
        rw [Int.toNat_natCast] at hfin
        have bk4 := aj.mk (nP (p := ⟨gr, j, none⟩) bk3.out hne.out (.string y))
        have hR4 := aj.mk hfin.1
        have hB4 := aj.mk (hB3.out.grown hfin.2 hB3.out.size (fun k e => by cases e; exact Kd.TA Vp.out gr rfl))
        clear hfin
        generalize w3.setCell ⟨gr, j, none⟩ (.string y) = w4 at *
        clear c0 c1 d0 d1 d2 p0 q0
        have hw := (show wrap64 ((j : Int) + 1) = ((j + 1 : Nat) : Int) from by have hlt := hlt2.out; have hm9 := hmx.out; rw [B.dO (by omega) (by omega)]; omega)
        have hw := aj.mk hw
        go_wp2
        go_roundw
        case rel => have hlt := hlt2.out; have hm9 := hmx.out; exact ⟨j + 1, cur.set j y, by rw [hw.out], hlt2.out, hnew, bk4, hR4, hB4⟩
        case measure => have hlt := hlt2.out; have hm9 := hmx.out; rw [hw.out]; simp only [intOf]; omega
    · obtain rfl : j = l.length := by omega
      have hcm : m = cur := by
        obtain ⟨hcl, mm, hmm, hmt⟩ := hc.out
        rw [← hcl, List.drop_length] at hmm
        cases hmm
        rw [hmt, ← hcl, List.take_length, List.append_nil]
      subst hcm
      have q0 : ((l.length : Int) < (l.length : Int)) = False := eq_false (by omega)
      obtain ⟨⟨k0, k1, k2⟩, _, _, _⟩ := dn.facts bk.out
      have hF := HF.out
      unfold eF.fin at hF
      by_cases z1 : p1.size + (strings_Join.cat m).size + p2.size ≤ 140737488355328
      · rw [if_pos z1] at hF
        by_cases z2 : m.length ≤ 1000000
        · rw [if_pos z2] at hF
          obtain rfl := Option.some.inj hF
          have z1 := aj.mk z1
          have z2 := aj.mk z2
          clear hF HF
          go_wp2_with (first
            | (go_at_call 113; refine (iG.calls _ _ _ m _ _ _ hR.out z2.out z1.out).mono ?_; rintro e w4 ⟨rfl, hb4⟩; have hB4 := aj.mk (hB.out.trans (hb4.mono hB.out.size)); clear hb4))
          go_ret
          exact ⟨rfl, hB4.out⟩
        · rw [if_neg z2] at hF; cases hF
      · rw [if_neg z1] at hF; cases hF
end Go.Proofs.Ytdkkgecdhapfhaa.ZQ
namespace Go.Proofs.Ytdkkgecdhapfhaa.ZQ
open Go.RowKit Go.Proofs.YtdkkgecdhapfhaaW.bD Go.Proofs.YtdkkgecdhapfhaaW.dW Go.Proofs.YtdkkgecdhapfhaaW.eG
attribute [local go_sem] jh ji j4 j5 iD iE jk jl
theorem Uc (d : Nat) (w : World) (x0 y0 : Int) (x1 y1 : Int) (x2 y2 : Int) :
    (Op.equalIn (d + 2) 142 (.agg #[.int .i64 x0, .int .i64 x1, .int .i64 x2]) (.agg #[.int .i64 y0, .int .i64 y1, .int .i64 y2])).run Try.prog w = .ok (x0 == y0 && (x1 == y1 && (x2 == y2))) w := by
  refine B.K6 Try.underlying142 (by kernel_rfl) (by kernel_rfl) ?_
  show (Op.eqItems _ 3 1 _ _ [0, 1, 2]).run _ _ = _
  refine B.Du (by go_simp; rfl) (by go_simp; rfl) (by go_simp) ?_
  refine B.Du (by go_simp; rfl) (by go_simp; rfl) (by go_simp) ?_
  exact B.K5 (by go_simp; rfl) (by go_simp; rfl) (by go_simp)
end Go.Proofs.Ytdkkgecdhapfhaa.ZQ

/- A part of the proof of NegCovers: cut, joined and given short names by a program of this session (wip/tools/pack.py); Lean checks it. No condition. -/
import Derived.Below
import Derived.Deep.Draws
import Derived.Deep.AppendLies
import Derived.Maps.AppendAt
import Derived.OwnWalk
import Derived.Laws.BytesArg
import Derived.Laws.MakeOwn
import Derived.Laws.OwnMore
import Derived.Deep.OwnRows
import Derived.Tactics
import Derived.Lib.ConvBytes
import Derived.Laws.Slices
import Derived.WalkKit
import Derived.KernelRfl
import Derived.RowKit3
import Derived.Deep.LoopGhost
import Derived.Deep.QuietTactic
import Derived.BigQuiet
import Derived.WideLaws
import Derived.Deep.DeepCutAuto
import Derived.Deep.CutBlock
import Derived.Deep.RegionHeld3
import Derived.Laws.Rows
import Derived.Lib.AppendStr
import Derived.ArgAppend
import Derived.Laws.IdiomCopy
import Derived.RowKit
import Derived.OrdersHeld
import Derived.Laws.BitsLemmas
import Derived.ChangeKeysEq
import Derived.Lib.Strings
import Derived.Laws.World
import Derived.Laws.Entries
import Derived.Test.YtdkkgecdhapfhaaProg
import Derived.Laws.StructEq
import Derived.Test.YtdkkgecdhapfhaaPNCrsd
set_option linter.unusedSectionVars false
set_option linter.unusedSimpArgs false
set_option linter.unusedVariables false
namespace Go.Proofs.YtdkkgecdhapfhaaW.bD
open Go.RowKit
structure aj (p:Prop):Prop where mk :: (out:p)
structure aY (w w':World):Prop where mk :: (out:∃ n,w' = w.drewN n)
theorem aY.refl (w:World):aY w w:=⟨⟨0,rfl⟩⟩
theorem aY.step {w w':World} (h:aY w w') (n:Nat):aY w (w'.drewN n):=by
  obtain ⟨m,rfl⟩:=h
  exact ⟨⟨m + n,World.drewN_drewN ..⟩⟩
theorem aY.grown {w w':World} (h:aY w w'):Grown w w':=by
  obtain ⟨n,rfl⟩:=h
  induction n with
  | zero=>exact Grown.refl _
  | succ n ih=>rw [← World.drew_drewN];exact Grown.drew ih
theorem aY.below {w w':World} (h:aY w w'):Below w.heap.size w w':=by
  obtain ⟨n,rfl⟩:=h
  induction n with
  | zero=>exact Below.refl _ _
  | succ n ih=>rw [← World.drew_drewN];exact ih.drew
def rd (xs:List Int) (i:Int):Int:=xs.getD i.toNat 0
def bt (s:ByteArray) (i:Int):Int:=if h:i.toNat < s.size then ((s[i.toNat]'h).toNat:Int) else 0
theorem nL (s:ByteArray) (i:Int):∀ h:i.toNat < s.size,((s[i.toNat]'h).toNat:Int) = bt s i:=fun h=>by simp [bt,h]
theorem gB (s:ByteArray) (i:Int):0 ≤ bt s i ∧ bt s i ≤ 255:=by
  unfold bt
  split
  · rename_i h
    have:=(s[i.toNat]'h).toNat_lt
    omega
  · omega
theorem ak {w W:World} (h:Below w.heap.size w W) (o:Obj):Below w.heap.size w (W.alloc o):=h.alloc h.size o
theorem jq {B:Nat} {w W:World} (h:Below B w W):Below B w W.drew:=⟨h.os,h.tape,h.output,h.size,h.block⟩
theorem ah {B:Nat} {w W:World} (h:Below B w W) (n:Nat):Below B w (W.drewN n):=⟨h.os,h.tape,h.output,h.size,h.block⟩
theorem Gn {B:Nat} {w w1 w2:World} (h:Below B w w1) (hB:B ≤ w1.heap.size) (k:Below w1.heap.size w1 w2):Below B w w2 :=
  h.trans ⟨k.os,k.tape,k.output,k.size,fun i hi=>k.block i (Nat.lt_of_lt_of_le hi hB)⟩
theorem yP {w w1:World} (h:Below w.heap.size w w1) (row:Option Nat):w.grownBy w1 row:=⟨h.os,h.tape,h.output,h.size,fun i hi _=>h.block i hi⟩
theorem nA {w w1:World} (h:Below w.heap.size w w1) {a:Addr} {v:Value} (hc:w.cell? a = some v):w1.cell? a = some v:=(h.cell (World.block_lt_of_cell? w a hc)).trans hc
theorem add_plain (g j:Nat):(⟨g,0,none⟩:Addr).add j = ⟨g,j,none⟩:=by unfold Addr.add;split <;> simp_all
def gH (w:World) (k:IntKind) (A:Option Addr) (n:Nat) (xs:List Int):Prop :=
  xs.length = n ∧ n ≤ 9223372036854775807 ∧ (0 < n → ∃ ad,A = some ad ∧ ∀ j,j < n → w.cell? (ad.add j) = some (.int k (xs.getD j 0)))
theorem gH.at_ {w:World} {k:IntKind} {A:Option Addr} {n:Nat} {xs:List Int} (h:gH w k A n xs) (i:Int) (h0:0 ≤ i) (h1:i < n):∃ ad,A = some ad ∧ w.cell? (ad.add i.toNat) = some (.int k (rd xs i)):=by
  obtain ⟨ad,e,hc⟩:=h.2.2 (by omega)
  exact ⟨ad,e,hc _ (by omega)⟩
theorem gH.below {w w1:World} {k:IntKind} {A:Option Addr} {n:Nat} {xs:List Int} (h:gH w k A n xs) (hb:Below w.heap.size w w1):gH w1 k A n xs :=
  ⟨h.1,h.2.1,fun hn=>by
    obtain ⟨ad,e,hc⟩:=h.2.2 hn
    exact ⟨ad,e,fun j hj=>nA hb (hc j hj)⟩⟩
theorem P8 (W:World) (base:Nat) (e:TypeId) (size:Nat):W.ownsRow base e size (.slice none 0 0) 0 []:=⟨by simp,.inl ⟨rfl,rfl⟩⟩
theorem tY {w:World} {base:Nat} {e:TypeId} {size n:Nat} {v:Value} {xs:List Value} (h:w.ownsRow base e size v n xs) (k:Nat) (hk:v.ownBlock = some k):base ≤ k:=by
  rcases h.2 with ⟨rfl,_⟩ | ⟨g,cap,cur,rfl,hb,_⟩
  · simp [Value.ownBlock] at hk
  · have:g = k:=by simpa [Value.ownBlock] using hk
    omega
theorem Vu {w:World} {base:Nat} {e:TypeId} {size n:Nat} {v:Value} {xs:List Value} (h:w.ownsRow base e size v n xs) (k:Nat) (hk:v.ownBlock = some k):k < w.heap.size:=by
  rcases h.2 with ⟨rfl,_⟩ | ⟨g,cap,cur,rfl,hb,hh,_⟩
  · simp [Value.ownBlock] at hk
  · have:g = k:=by simpa [Value.ownBlock] using hk
    subst this
    exact (Array.getElem?_eq_some_iff.1 hh).1
theorem tZ {w w1:World} {base:Nat} {e:TypeId} {size n:Nat} {v:Value} {xs:List Value} (h:w.ownsRow base e size v n xs) (hb:Below w.heap.size w w1):w1.ownsRow base e size v n xs :=
  h.kept (yP hb none) (by cases v.ownBlock <;> simp)
theorem JM {w w1:World} {base:Nat} {e:TypeId} {size n:Nat} {v:Value} {xs:List Value} (h:w.ownsRow base e size v n xs) {row:Option Nat} (hg:w.grownBy w1 row) (hne:v.ownBlock = none ∨ v.ownBlock ≠ row):w1.ownsRow base e size v n xs:=h.kept hg hne
section
variable {P : Program} {ops:Array Oper} {rest:List Oper} {o:Oper} {a:Act} {Q:Exit → Act → World → Prop}
end
section
variable {P : Program}
end
section
variable {P : Program} {ops:Array Oper} {rest:List Oper} {o:Oper} {a:Act} {Q:Exit → Act → World → Prop}
end
def bytesOf (s:ByteArray):List Int:=s.data.toList.map fun b=>(b.toNat:Int)
theorem gH.EG {w:World} {k:IntKind} {A:Option Addr} {n:Nat} {xs:List Int} (h:gH w k A n xs) (i:Nat) (hi:i ≤ n):gH w k A i (xs.take i):=by
  refine ⟨by rw [List.length_take,h.1];omega,by have:=h.2.1;omega,fun hp=>?_⟩
  obtain ⟨ad,e,hc⟩:=h.2.2 (by omega)
  refine ⟨ad,e,fun j hj=>?_⟩
  rw [hc j (by omega)]
  simp [List.getD_eq_getElem?_getD,hj]
def kZ {α:Type} (a b:Option α):Prop:=∀ r,a = some r → b = some r
theorem kZ.refl {α:Type} (a:Option α):kZ a a:=fun _ h=>h
theorem kZ.none {α:Type} (b:Option α):kZ Option.none b:=fun _ h=>by cases h
theorem kZ.trans {α:Type} {a b c:Option α} (h:kZ a b) (k:kZ b c):kZ a c:=fun r hr=>k r (h r hr)
theorem kZ.ite {α:Type} {c:Prop} [Decidable c] {a a' b b':Option α} (h:kZ a a') (k:kZ b b'):kZ (if c then a else b) (if c then a' else b'):=by
  split
  · exact h
  · exact k
theorem kZ.bind {α β:Type} {a a':Option α} {f f':α → Option β} (h:kZ a a') (k:∀ x,kZ (f x) (f' x)):kZ (a.bind f) (a'.bind f'):=by
  intro r hr
  obtain ⟨x,hx,hf⟩:=Option.bind_eq_some_iff.1 hr
  exact Option.bind_eq_some_iff.2 ⟨x,h x hx,k x r hf⟩
theorem kZ.map {α β:Type} {a a':Option α} (f:α → β) (h:kZ a a'):kZ (a.map f) (a'.map f):=by
  intro r hr
  obtain ⟨x,hx,hf⟩:=Option.map_eq_some_iff.1 hr
  exact Option.map_eq_some_iff.2 ⟨x,h x hx,hf⟩
theorem vY {α:Type} {g:Nat → Option α} (h:∀ k,kZ (g k) (g (k + 1))) (k:Nat):∀ j,kZ (g k) (g (k + j))
  | 0=>kZ.refl _
  | j + 1=>(vY h k j).trans (h (k + j))
theorem vF {α:Type} {g:Nat → Option α} (h:∀ k,kZ (g k) (g (k + 1))) {k k':Nat} (hk:k ≤ k') {r:α} (hr:g k = some r):g k' = some r:=by
  have:=vY h k (k' - k) r hr
  rwa [Nat.add_sub_cancel' hk] at this
def fP {α:Type} (R:α → List Value → Prop) (size:Nat) (ps:List α) (cs:List Value):Prop :=
  cs.length = ps.length * size ∧ ∀ j p,ps[j]? = some p → R p ((cs.drop (j * size)).take size)
theorem fP.none {α:Type} (R:α → List Value → Prop) (size:Nat):fP R size [] []:=⟨by simp,fun j p h=>by simp at h⟩
theorem fP.snoc {α:Type} {R:α → List Value → Prop} {size:Nat} {ps:List α} {cs c:List Value} {p:α} (h:fP R size ps cs) (hp:R p c) (hc:c.length = size):fP R size (ps ++ [p]) (cs ++ c):=by
  refine ⟨by rw [List.length_append,h.1,hc,List.length_append,List.length_singleton,Nat.add_mul,Nat.one_mul],fun j q hq=>?_⟩
  rcases Nat.lt_or_ge j ps.length with hj | hj
  · rw [List.getElem?_append_left hj] at hq
    have h1:j * size + size ≤ cs.length:=by rw [h.1,← Nat.succ_mul];exact Nat.mul_le_mul_right _ hj
    have h2:=h.2 j q hq
    rw [List.drop_append_of_le_length (by omega),List.take_append_of_le_length (by rw [List.length_drop];omega)]
    exact h2
  · have hj':j = ps.length:=by
      have:=(List.getElem?_eq_some_iff.1 hq).1
      rw [List.length_append,List.length_singleton] at this
      omega
    subst hj'
    have hq':p = q:=by simpa using hq
    subst hq'
    rw [← h.1,List.drop_left,← hc,List.take_length]
    exact hp
theorem fP.zP {α:Type} {R R':α → List Value → Prop} {size:Nat} {ps:List α} {cs:List Value} (h:fP R size ps cs) (hR:∀ p c,R p c → R' p c):fP R' size ps cs:=⟨h.1,fun j p hj=>hR _ _ (h.2 j p hj)⟩
def mE {α:Type} (R:α → List Value → Prop) (size:Nat) (w:World) (A:Option Addr) (n:Nat) (ps:List α):Prop :=
  ps.length = n ∧ n ≤ 9223372036854775807 ∧ (0 < n → ∃ ad,A = some ad ∧ ∀ j p,ps[j]? = some p → ∃ c,c.length = size ∧ R p c ∧ ∀ i u,c[i]? = some u → w.cell? (ad.add (j * size + i)) = some u)
theorem mE.zP {α:Type} {R R':α → List Value → Prop} {size:Nat} {w w1:World} {A:Option Addr} {n:Nat} {ps:List α} (h:mE R size w A n ps) (hb:Below w.heap.size w w1) (hR:∀ p c,R p c → R' p c):mE R' size w1 A n ps :=
  ⟨h.1,h.2.1,fun hn=>by
    obtain ⟨ad,e,hc⟩:=h.2.2 hn
    refine ⟨ad,e,fun j p hj=>?_⟩
    obtain ⟨c,hs,hr,hcell⟩:=hc j p hj
    exact ⟨c,hs,hR _ _ hr,fun i u hu=>nA hb (hcell i u hu)⟩⟩
theorem zQ {α:Type} {R:α → List Value → Prop} {w:World} {base n size:Nat} {e:TypeId} {v:Value} {ps:List α} {cs:List Value} (h:w.ownsRow base e size v n cs) (hR:fP R size ps cs) (hn:ps.length = n) :
    ∃ A c,v = .slice A n c ∧ mE R size w A n ps:=by
  rcases Nat.eq_zero_or_pos n with h0 | h0
  · rcases h.2 with ⟨rfl,rfl⟩ | ⟨g,cap,cur,rfl,_⟩
    · exact ⟨none,0,rfl,hn,by omega,fun hp=>absurd hp (by omega)⟩
    · exact ⟨_,cap,rfl,hn,by omega,fun hp=>absurd hp (by omega)⟩
  · obtain ⟨g,cap,rfl,_,_⟩:=h.form h0
    have hm:n ≤ 9223372036854775807:=by
      rcases h.2 with ⟨_,h1⟩ | ⟨g',cap',cur,he,_,_,h1,h2,_⟩
      · omega
      · simp only [maxLen] at h2
        omega
    refine ⟨_,cap,rfl,hn,hm,fun _=>⟨_,rfl,fun j p hj=>⟨(cs.drop (j * size)).take size,?_,hR.2 j p hj,fun i u hu=>?_⟩⟩⟩
    · have hjl:=(List.getElem?_eq_some_iff.1 hj).1
      have h1:j * size + size ≤ cs.length:=by rw [hR.1,← Nat.succ_mul];exact Nat.mul_le_mul_right _ hjl
      rw [List.length_take,List.length_drop]
      omega
    · refine h.cells (g:=g) rfl _ u ?_
      rw [List.getElem?_take] at hu
      split at hu
      · rw [List.getElem?_drop] at hu
        exact hu
      · cases hu
section
variable {P : Program} {ops:Array Oper} {rest:List Oper} {o:Oper} {a:Act} {Q:Exit → Act → World → Prop}
theorem mF {w0 W:World} (base:Nat) (hgd:o.guard = none) (s x:Operand) (t e:TypeId) (z:Value) (size bytes:Nat)
    (ho:o.op = .call { callee:=.builtin .append,args:=#[s,x],argTypes:=#[t,t] })
    (ht:P.underlying t = some (.slice e)) (hinfo:(P.info? e).map (fun i=>(i.zero,i.size,i.bytes)) = some (some z,size,bytes)) (hz:z.cells.size = size) (hs0:0 < size) (hb0:0 < bytes)
    (v:Value) (n:Nat) (xs ys:List Value) (hs:a.eval s = v) (hx:a.eval x = .slice (some ⟨W.heap.size,0,none⟩) 1 1) (hys:ys.length = size) (h1:∀ u ∈ ys,u.oneCell' = true)
    (HO:W.ownsRow base e size v n xs) (HB:Below base w0 W) (hbase:base ≤ W.heap.size) (hl:(n + 1) * bytes ≤ 140737488355328)
    (h:∀ v1 w1,w1.ownsRow base e size v1 (n + 1) (xs ++ ys) → Below base w0 w1 → W.grownBy w1 v.ownBlock → (v1.ownBlock = v.ownBlock ∨ ∃ b,v1.ownBlock = some b ∧ W.heap.size ≤ b) → wpList P ops Q rest (a.put o.dst v1) w1) :
    wpList P ops Q (o :: rest) a (W.alloc (.cells ys.toArray e)):=by
  obtain ⟨i0,hi,hzz⟩:=Option.map_eq_some_iff.1 hinfo
  simp only [Prod.mk.injEq] at hzz
  obtain ⟨hz0,hz1,hz2⟩:=hzz
  have hlen:n + 1 ≤ 140737488355328:=Nat.le_trans (Nat.le_mul_of_pos_right _ hb0) hl
  refine wpList_append_own_at (W.alloc (.cells ys.toArray e)) hgd s x t ho base e i0 z size bytes ht hi hz0 hz1 hz2 hz hs0 v n xs hs (HO.alloc _) ⟨W.heap.size,0,none⟩ 1 1 ys hx (by rw [hys];simp)
    (by simpa using World.news_of_block (cs:=ys.toArray) (t:=e) (fr:=(0,0)) (heap_alloc_new W (.cells ys.toArray e))) h1 (by simp only [maxLen];omega) hl (by simp;omega) ?_
  intro v1 w1 hown hg _ hat
  refine h v1 w1 hown ((HB.alloc hbase _).grown hg (by simp;omega) (tY HO)) (World.grownBy.trans (World.grownBy_alloc W _ _) hg) ?_
  rcases hat with hat | hat
  · exact .inl hat
  · exact .inr ⟨_,hat,by simp⟩
end
theorem own_ne {w:World} {base:Nat} {e t:TypeId} {size n g:Nat} {v:Value} {xs:List Value} {cs:Array Value} (h:w.ownsRow base e size v n xs) (hg:w.heap[g]? = some (.cells cs t (0,0))) (hne:e ≠ t):some g ≠ v.ownBlock:=by
  rcases h.2 with ⟨rfl,_⟩ | ⟨g',cap,cur,rfl,_,hh,_⟩
  · simp [Value.ownBlock]
  · intro he
    have:g = g':=by simpa [Value.ownBlock] using he
    subst this
    rw [hg] at hh
    injection hh with hh
    injection hh with _ ht
    exact hne ht.symm
theorem P9 {w:World} {g:Nat} {t:TypeId} {cs:Array Value} (h:w.heap[g]? = some (.cells cs t (0,0))) (i:Nat) (u:Value):(w.setCell ⟨g,i,none⟩ u).heap[g]? = some (.cells (cs.setIfInBounds i u) t (0,0)):=by
  simp [World.setCell,Array.getElem?_modify,h]
theorem nZ {w:World} {g:Nat} {t:TypeId} {cs:Array Value} (h:w.heap[g]? = some (.cells cs t (0,0))) {p:Addr} (hp:g ≠ p.block) (u:Value):(w.setCell p u).heap[g]? = some (.cells cs t (0,0)):=(Below.heap_setCell w p u g hp).trans h
theorem jK {w:World} {g:Nat} {o:Obj} (h:w.heap[g]? = some o):g < w.heap.size:=(Array.getElem?_eq_some_iff.1 h).1
theorem aM {w:World} {g:Nat} {t:TypeId} {cs:Array Value} (h:w.heap[g]? = some (.cells cs t (0,0))) (i:Nat):w.cell? ⟨g,i,none⟩ = cs[i]?:=cell_of_row w g i cs t (0,0) h
theorem ay {w:World} {g:Nat} {t:TypeId} {cs:Array Value} (h:w.heap[g]? = some (.cells cs t (0,0))) (i:Nat):w.frozen? ⟨g,i,none⟩ = false:=by simp [World.frozen?,h]
theorem qy {w w1:World} {g:Nat} {o:Obj} {row:Option Nat} (h:w.heap[g]? = some o) (hg:w.grownBy w1 row) (hne:some g ≠ row):w1.heap[g]? = some o:=(hg.block g (jK h) hne).trans h
theorem Vv {w:World} {g g':Nat} {t t':TypeId} {cs cs':Array Value} (h:w.heap[g]? = some (.cells cs t (0,0))) (h':w.heap[g']? = some (.cells cs' t' (0,0))) (hne:t ≠ t'):g ≠ g':=by
  rintro rfl
  rw [h] at h'
  injection h' with h'
  injection h' with _ ht
  exact hne ht
def gW (w w':World) (g:Nat) (row:Option Nat):Prop:=w.heap.size ≤ w'.heap.size ∧ ∀ i,i < w.heap.size → i ≠ g → some i ≠ row → w'.heap[i]? = w.heap[i]?
theorem gW.refl (w:World) (g:Nat) (row:Option Nat):gW w w g row:=⟨Nat.le_refl _,fun _ _ _ _=>rfl⟩
theorem gW.of_below {w w1:World} (h:Below w.heap.size w w1) (g:Nat) (row:Option Nat):gW w w1 g row:=⟨h.size,fun i hi _ _=>h.block i hi⟩
theorem gW.trans {w w1 w2:World} {g:Nat} {row iB:Option Nat} (h:gW w w1 g row) (k:gW w1 w2 g iB) (hr:iB = row ∨ ∃ b,iB = some b ∧ w.heap.size ≤ b):gW w w2 g row :=
  ⟨Nat.le_trans h.1 k.1,fun i hi hg hn=>by
    refine (k.2 i (Nat.lt_of_lt_of_le hi h.1) hg ?_).trans (h.2 i hi hg hn)
    rcases hr with rfl | ⟨b,rfl,hb⟩
    · exact hn
    · intro e
      injection e with e
      omega⟩
theorem gW.blk {w w1:World} {g g':Nat} {row:Option Nat} {o:Obj} (h:gW w w1 g row) (hb:w.heap[g']? = some o) (hg:g' ≠ g) (hr:some g' ≠ row):w1.heap[g']? = some o:=(h.2 g' (jK hb) hg hr).trans hb
theorem gW.own {w w1:World} {g:Nat} {row:Option Nat} {base:Nat} {e:TypeId} {size n:Nat} {v:Value} {xs:List Value} (h:gW w w1 g row) (ho:w.ownsRow base e size v n xs) (hg:v.ownBlock ≠ some g) (hr:v.ownBlock = none ∨ v.ownBlock ≠ row):w1.ownsRow base e size v n xs:=by
  obtain ⟨h1,h2⟩:=ho
  refine ⟨h1,?_⟩
  rcases h2 with h2 | ⟨b,cap,cur,rfl,hb,hh,r⟩
  · exact .inl h2
  · refine .inr ⟨b,cap,cur,rfl,hb,h.blk hh ?_ ?_,r⟩
    · intro e
      exact hg (by rw [← e];rfl)
    · rcases hr with hr | hr
      · simp [Value.ownBlock] at hr
      · exact hr
def Ev {α:Type} (g:Nat → Option α) (r:α):Prop:=∃ K,∀ k,K ≤ k → g k = some r
theorem Ev.of {α:Type} {g:Nat → Option α} {r:α} (hg:∀ k,kZ (g k) (g (k + 1))) {k:Nat} (h:g k = some r):Ev g r:=⟨k,fun _ hk=>vF hg hk h⟩
theorem Ev.now {α:Type} (r:α):Ev (fun _=>some r) r:=⟨0,fun _ _=>rfl⟩
theorem Ev.rounds {α:Type} {g:Nat → Option α} {r:α} (h:Ev g r):∃ k,g k = some r:=by
  obtain ⟨K,h⟩:=h
  exact ⟨K,h K (Nat.le_refl _)⟩
theorem Ev.bind {α β:Type} {g:Nat → Option α} {f:Nat → α → Option β} {a:α} {r:β} (h:Ev g a) (k:Ev (fun n=>f n a) r):Ev (fun n=>(g n).bind (f n)) r:=by
  obtain ⟨K,h⟩:=h
  obtain ⟨K',k⟩:=k
  refine ⟨max K K',fun n hn=>?_⟩
  have h1:=h n (by omega)
  have h2:=k n (by omega)
  simp only [h1,Option.bind_some]
  exact h2
theorem Ev.step {α:Type} {g f:Nat → Option α} {r:α} (h:∀ k,g (k + 1) = f k) (k:Ev f r):Ev g r:=by
  obtain ⟨K,k⟩:=k
  refine ⟨K + 1,fun n hn=>?_⟩
  obtain ⟨m,rfl⟩:∃ m,n = m + 1:=⟨n - 1,by omega⟩
  rw [h]
  exact k m (by omega)
theorem Ev.congr {α:Type} {g f:Nat → Option α} {r:α} (h:∀ k,g k = f k) (k:Ev f r):Ev g r:=by
  obtain ⟨K,k⟩:=k
  exact ⟨K,fun n hn=>(h n).trans (k n hn)⟩
section
variable {P : Program} {ops:Array Oper} {o:Oper} {a:Act} {Q:Exit → Act → World → Prop} {K:Act → World → Prop}
theorem uf {w0 W:World} (base:Nat) (hw:Region.wanted o (yielded ops a.tmps) = true) (s x:Operand) (t e:TypeId) (z:Value) (size bytes:Nat)
    (ho:o.op = .call { callee:=.builtin .append,args:=#[s,x],argTypes:=#[t,t] })
    (ht:P.underlying t = some (.slice e)) (hinfo:(P.info? e).map (fun i=>(i.zero,i.size,i.bytes)) = some (some z,size,bytes)) (hz:z.cells.size = size) (hs0:0 < size) (hb0:0 < bytes)
    (v:Value) (n:Nat) (xs ys:List Value) (hs:a.eval s = v) (hx:a.eval x = .slice (some ⟨W.heap.size,0,none⟩) 1 1) (hys:ys.length = size) (h1:∀ u ∈ ys,u.oneCell' = true)
    (HO:W.ownsRow base e size v n xs) (HB:Below base w0 W) (hbase:base ≤ W.heap.size) (hl:(n + 1) * bytes ≤ 140737488355328)
    (h:∀ v1 w1,w1.ownsRow base e size v1 (n + 1) (xs ++ ys) → Below base w0 w1 → W.grownBy w1 v.ownBlock → (v1.ownBlock = v.ownBlock ∨ ∃ b,v1.ownBlock = some b ∧ W.heap.size ≤ b) → K (a.put o.dst v1) w1) :
    if Region.wanted o (yielded ops a.tmps) = true then Oper.wp P o a (W.alloc (.cells ys.toArray e)) K Q else K (a.put o.dst undef) (W.alloc (.cells ys.toArray e)):=by
  obtain ⟨i0,hi,hzz⟩:=Option.map_eq_some_iff.1 hinfo
  simp only [Prod.mk.injEq] at hzz
  obtain ⟨hz0,hz1,hz2⟩:=hzz
  have hlen:n + 1 ≤ 140737488355328:=Nat.le_trans (Nat.le_mul_of_pos_right _ hb0) hl
  rw [if_pos hw]
  obtain ⟨v1,w1,hr,hown,hg,_,hat⟩:=run_append_own_at (P:=P) (W.alloc (.cells ys.toArray e)) base t o.type e i0 z size bytes ht hi hz0 hz1 hz2 hz hs0 v n xs (HO.alloc _) ⟨W.heap.size,0,none⟩ 1 1 ys (by rw [hys];simp)
    (by simpa using World.news_of_block (cs:=ys.toArray) (t:=e) (fr:=(0,0)) (heap_alloc_new W (.cells ys.toArray e))) h1 (by simp only [maxLen];omega) hl (by simp;omega)
  unfold Oper.wp execOp
  simp only [ho,resolve,invoke,builtin,Sem.run_bind,Sem.run_pure,Result.andThen_ok,List.map_toArray,List.map_cons,List.map_nil,hs,hx,hr]
  refine h v1 w1 hown ((HB.alloc hbase _).grown hg (by simp;omega) (tY HO)) (World.grownBy.trans (World.grownBy_alloc W _ _) hg) ?_
  rcases hat with hat | hat
  · exact .inl hat
  · exact .inr ⟨_,hat,by simp⟩
end
theorem Gp {w:World} {base base':Nat} {e:TypeId} {size n:Nat} {v:Value} {xs:List Value} (h:w.ownsRow base e size v n xs) (hb:base' ≤ base):w.ownsRow base' e size v n xs:=by
  obtain ⟨h1,h2⟩:=h
  refine ⟨h1,?_⟩
  rcases h2 with h2 | ⟨g,cap,cur,rfl,hg,r⟩
  · exact .inl h2
  · exact .inr ⟨g,cap,cur,rfl,Nat.le_trans hb hg,r⟩
section
variable {α : Type} {enc:α → Value} {d:α}
def encs (enc:α → Value) (xs:List α):List Value:=xs.map enc
def pO (d:α) (xs:List α) (i:Int):α:=xs.getD i.toNat d
theorem vZ (xs:List α):(encs enc xs).length = xs.length:=by simp [encs]
theorem MJ (xs:List α) (j:Nat) (h:j < xs.length):(encs enc xs)[j]? = some (enc (xs.getD j d)):=by
  simp [encs,List.getElem?_eq_getElem h,List.getD_eq_getElem?_getD]
def gy (enc:α → Value) (d:α) (w:World) (A:Option Addr) (n:Nat) (xs:List α):Prop :=
  xs.length = n ∧ n ≤ 9223372036854775807 ∧ (0 < n → ∃ ad,A = some ad ∧ ∀ j,j < n → w.cell? (ad.add j) = some (enc (xs.getD j d)))
theorem gy.at_ {w:World} {A:Option Addr} {n:Nat} {xs:List α} (h:gy enc d w A n xs) (i:Int) (h0:0 ≤ i) (h1:i < n):∃ ad,A = some ad ∧ w.cell? (ad.add i.toNat) = some (enc (pO d xs i)):=by
  obtain ⟨ad,e,hc⟩:=h.2.2 (by omega)
  exact ⟨ad,e,hc _ (by omega)⟩
theorem gy.below {w w1:World} {A:Option Addr} {n:Nat} {xs:List α} (h:gy enc d w A n xs) (hb:Below w.heap.size w w1):gy enc d w1 A n xs :=
  ⟨h.1,h.2.1,fun hn=>by
    obtain ⟨ad,e,hc⟩:=h.2.2 hn
    exact ⟨ad,e,fun j hj=>nA hb (hc j hj)⟩⟩
theorem gy.EG {w:World} {A:Option Addr} {n:Nat} {xs:List α} (h:gy enc d w A n xs) (i:Nat) (hi:i ≤ n):gy enc d w A i (xs.take i):=by
  refine ⟨by rw [List.length_take,h.1];omega,by have:=h.2.1;omega,fun hp=>?_⟩
  obtain ⟨ad,e,hc⟩:=h.2.2 (by omega)
  refine ⟨ad,e,fun j hj=>?_⟩
  rw [hc j (by omega)]
  simp [List.getD_eq_getElem?_getD,hj]
theorem JN {W:World} {base g n cap:Nat} {e:TypeId} {xs:List α} (h:W.ownsRow base e 1 (.slice (some ⟨g,0,none⟩) n cap) n (encs enc xs)) (i:Int) (h0:0 ≤ i) (h1:i < n) :
    W.cell? ⟨g,i.toNat,none⟩ = some (enc (pO d xs i)) ∧ W.frozen? ⟨g,i.toNat,none⟩ = false:=by
  have hl:xs.length = n:=by have:=h.1;simp [encs] at this;exact this
  constructor
  · have hc:=h.cells (g:=g) rfl i.toNat _ (MJ (d:=d) xs i.toNat (by omega))
    rwa [add_plain] at hc
  · rcases h.2 with ⟨h',_⟩ | ⟨g',cap',cur,h',_,hh,_⟩
    · cases h'
    · have:g = g':=by injection h' with h';injection h' with h';injection h' with h'
      subst this
      simp [World.frozen?,hh]
theorem Cy {W:World} {base g n cap:Nat} {e:TypeId} {xs:List α} (h:W.ownsRow base e 1 (.slice (some ⟨g,0,none⟩) n cap) n (encs enc xs)) (i:Int) (x:α) :
    (W.setCell ⟨g,i.toNat,none⟩ (enc x)).ownsRow base e 1 (.slice (some ⟨g,0,none⟩) n cap) n (encs enc (xs.set i.toNat x)) ∧ W.grownBy (W.setCell ⟨g,i.toNat,none⟩ (enc x)) (some g):=by
  have hs:=h.stored i.toNat (enc x)
  have he:(encs enc xs).set i.toNat (enc x) = encs enc (xs.set i.toNat x):=by simp [encs,List.map_set]
  rwa [he] at hs
end
section
variable {α : Type} {P:Program} {ops:Array Oper} {rest:List Oper} {o:Oper} {a:Act} {Q:Exit → Act → World → Prop}
end
theorem aA {w:World} {g:Nat} {o:Obj} (h:w.heap[g]? = some o) (o':Obj):(w.alloc o').heap[g]? = some o:=(Below.heap_alloc w o' g (jK h)).trans h
theorem aI {w:World} {g:Nat} {o:Obj} (h:w.heap[g]? = some o):w.drew.heap[g]? = some o:=h
theorem aG {w:World} {g:Nat} {o:Obj} (h:w.heap[g]? = some o) (n:Nat):(w.drewN n).heap[g]? = some o:=h
theorem dO {w w1:World} {g:Nat} {o:Obj} (h:w.heap[g]? = some o) (hb:Below w.heap.size w w1):w1.heap[g]? = some o:=(hb.block g (jK h)).trans h
theorem ug (w:World) (o:Obj):(w.alloc o).heap[w.heap.size]? = some o:=heap_alloc_new w o
section
variable {P : Program}
theorem jV {fn:Func} {p u:Tmp} {ty:TypeId} (h:fn.results = #[.cell p ty,.tmp u]) (tmps:Array Value) (w:World) (g:Nat) (t:TypeId) (cs:Array Value) (fr:Nat × Nat) (d:TypeDesc)
    (hp:tmps.getD p undef = .pointer (some ⟨g,0,none⟩)) (hg:w.heap[g]? = some (.cells cs t fr))
    (hu:P.underlying ty = some d) (hd:(match d with | .struct _ | .array _ _=>true | _=>false) = true) (hi:(P.info? ty).map (·.size) = some cs.size) :
    (results fn tmps).run P w = .ok (.tuple #[.agg cs,tmps.getD u undef]) w:=by
  have hp':tmps[p]?.getD undef = .pointer (some ⟨g,0,none⟩):=by simpa using hp
  simp [results,h,hp',asAddr,run_loadVar_row w g t ty cs fr d hg hu hd hi]
end
theorem Vw {w:World} {base n m c size:Nat} {e:TypeId} {A:Option Addr} {xs:List Value} (h:w.ownsRow base e size (.slice A m c) n xs):m ≤ c:=by
  rcases h.2 with ⟨he,_⟩ | ⟨g,cap,cur,he,_,_,hnc,_⟩
  · injection he with _ h2 h3
    omega
  · injection he with _ h2 h3
    omega
def gu {α:Type} (R:α → List Value → Prop) (e:TypeId) (size:Nat) (w:World) (base:Nat) (v:Value) (ps:List α):Prop :=
  ∃ inner,w.ownsRow base e size v ps.length inner ∧ fP R size ps inner
section
variable {α : Type} {R R':α → List Value → Prop} {e:TypeId} {size:Nat} {w w1:World} {base:Nat} {v:Value} {ps:List α}
theorem gu.none_ (R:α → List Value → Prop) (e:TypeId) (size:Nat) (w:World) (base:Nat):gu R e size w base (.slice none 0 0) []:=⟨[],P8 _ _ _ _,fP.none _ _⟩
theorem gu.zP (h:gu R e size w base v ps) (hR:∀ p c,R p c → R' p c):gu R' e size w base v ps:=by
  obtain ⟨inner,ho,hr⟩:=h
  exact ⟨inner,ho,hr.zP hR⟩
theorem gu.below (h:gu R e size w base v ps) (hb:Below w.heap.size w w1):gu R e size w1 base v ps:=by
  obtain ⟨inner,ho,hr⟩:=h
  exact ⟨inner,tZ ho hb,hr⟩
theorem gu.other (h:gu R e size w base v ps) {row:Option Nat} (hg:w.grownBy w1 row) (hne:v.ownBlock = none ∨ v.ownBlock ≠ row):gu R e size w1 base v ps:=by
  obtain ⟨inner,ho,hr⟩:=h
  exact ⟨inner,JM ho hg hne,hr⟩
theorem gu.keep (h:gu R e size w base v ps) {g:Nat} {t:TypeId} {cells:Array Value} (hb:w.heap[g]? = some (.cells cells t (0,0))) (ht:e ≠ t) (hk:gW w w1 g none):gu R e size w1 base v ps:=by
  obtain ⟨inner,ho,hr⟩:=h
  exact ⟨inner,hk.own ho (Ne.symm (own_ne ho hb ht)) (by cases v.ownBlock <;> simp),hr⟩
theorem gu.reads (h:gu R e size w base v ps):∃ A c,v = .slice A ps.length c ∧ ps.length ≤ c ∧ mE R size w A ps.length ps:=by
  obtain ⟨inner,ho,hr⟩:=h
  obtain ⟨A,c,rfl,hrow⟩:=zQ ho hr rfl
  exact ⟨A,c,rfl,Vw ho,hrow⟩
theorem gu.MK (h:gu R e size w base v ps) {g:Nat} {t:TypeId} {cells:Array Value} (hb:w.heap[g]? = some (.cells cells t (0,0))) (ht:e ≠ t):some g ≠ v.ownBlock:=by
  obtain ⟨inner,ho,hr⟩:=h
  exact own_ne ho hb ht
theorem gu.lit (W:World) (base:Nat) {inner:List Value} (hr:fP R size ps inner) (hb:base ≤ W.heap.size) (hm:ps.length ≤ 9223372036854775807) :
    gu R e size (W.alloc (.cells inner.toArray e)) base (.slice (some ⟨W.heap.size,0,none⟩) ps.length ps.length) ps:=by
  have h:=World.ownsRow_lit (base:=base) (e:=e) (size:=size) W inner.toArray ps.length hb (by simpa [maxLen] using hm) (by simpa using hr.1)
  exact ⟨inner,by simpa using h,hr⟩
end
section
variable {P : Program} {ops:Array Oper} {rest:List Oper} {o:Oper} {a:Act} {Q:Exit → Act → World → Prop} {α:Type} {R:α → List Value → Prop}
theorem gu.append {w0 W:World} (base:Nat) (hgd:o.guard = none) (s x:Operand) (t e:TypeId) (z:Value) (size bytes:Nat)
    (ho:o.op = .call { callee:=.builtin .append,args:=#[s,x],argTypes:=#[t,t] })
    (ht:P.underlying t = some (.slice e)) (hinfo:(P.info? e).map (fun i=>(i.zero,i.size,i.bytes)) = some (some z,size,bytes)) (hz:z.cells.size = size) (hs0:0 < size) (hb0:0 < bytes)
    (v:Value) (ps:List α) (p:α) (cs:List Value) (hs:a.eval s = v) (hx:a.eval x = .slice (some ⟨W.heap.size,0,none⟩) 1 1) (hp:R p cs) (hcs:cs.length = size) (h1:∀ u ∈ cs,u.oneCell' = true)
    (HO:gu R e size W base v ps) (HB:Below base w0 W) (hbase:base ≤ W.heap.size) (hl:(ps.length + 1) * bytes ≤ 140737488355328)
    (h:∀ v1 w1,gu R e size w1 base v1 (ps ++ [p]) → Below base w0 w1 → W.grownBy w1 v.ownBlock → (v1.ownBlock = v.ownBlock ∨ ∃ b,v1.ownBlock = some b ∧ W.heap.size ≤ b) → wpList P ops Q rest (a.put o.dst v1) w1) :
    wpList P ops Q (o :: rest) a (W.alloc (.cells cs.toArray e)):=by
  obtain ⟨inner,hown,hr⟩:=HO
  refine mF base hgd s x t e z size bytes ho ht hinfo hz hs0 hb0 v ps.length inner cs hs hx hcs h1 hown HB hbase hl ?_
  intro v1 w1 hown1 hb1 hg1 Gq
  exact h v1 w1 ⟨inner ++ cs,by rw [List.length_append,List.length_singleton];exact hown1,hr.snoc hp hcs⟩ hb1 hg1 Gq
end
section
variable {P : Program} {ops:Array Oper} {o:Oper} {a:Act} {Q:Exit → Act → World → Prop} {K:Act → World → Prop} {α:Type} {R:α → List Value → Prop}
end
section
variable {α : Type} {P:Program}
theorem gy.len_ {enc:α → Value} {d:α} {w:World} {A:Option Addr} {n:Nat} {xs:List α} (h:gy enc d w A n xs):gy enc d w A xs.length xs:=by rw [h.1];exact h
end
section
variable {P : Program} {ops:Array Oper} {rest:List Oper} {o:Oper} {a:Act} {Q:Exit → Act → World → Prop}
end
structure Kd (α:Type) where
  sz:Nat
  E:List Nat
  K:World → α → List Value → Prop
  M:World → Nat → (Nat → Prop) → α → List Value → Prop
  oH:∀ {w x cs},K w x cs → cs.length = sz
  pQ:∀ {w x cs},K w x cs → ∀ u ∈ cs,u.oneCell' = true
  lY:∀ {w w1:World} {x cs},Below w.heap.size w w1 → K w x cs → K w1 x cs
  jr:∀ {w base ok x cs},M w base ok x cs → K w x cs
  kC:∀ {w base ok ok' x cs},(∀ k,ok k → ok' k) → M w base ok x cs → M w base ok' x cs
  kD:∀ {w:World} {base ok x cs},M w base ok x cs → M w base (fun k=>ok k ∧ base ≤ k ∧ k < w.heap.size ∧ ∃ q,q ∈ E ∧ ∃ cells,w.heap[k]? = some (.cells cells q (0,0))) x cs
  mG:∀ {w w1:World} {base ok x cs},(∀ k,ok k → w1.heap[k]? = w.heap[k]?) → M w base ok x cs → M w1 base ok x cs
  lZ:∀ {w base base' ok x cs},base' ≤ base → M w base ok x cs → M w base' ok x cs
theorem ML {w w1:World} {base:Nat} {e:TypeId} {size n:Nat} {v:Value} {xs:List Value} (h:w.ownsRow base e size v n xs) (hm:∀ k,v.ownBlock = some k → w1.heap[k]? = w.heap[k]?):w1.ownsRow base e size v n xs:=by
  obtain ⟨h1,h2⟩:=h
  refine ⟨h1,?_⟩
  rcases h2 with h2 | ⟨g,cap,cur,rfl,hg,hh,r⟩
  · exact .inl h2
  · exact .inr ⟨g,cap,cur,rfl,hg,(hm g (by simp [Value.ownBlock])).trans hh,r⟩
theorem AL {w:World} {base:Nat} {e:TypeId} {size n:Nat} {v:Value} {xs:List Value} (h:w.ownsRow base e size v n xs) (k:Nat) (hk:v.ownBlock = some k):∃ cells,w.heap[k]? = some (.cells cells e (0,0)):=by
  rcases h.2 with ⟨rfl,_⟩ | ⟨g,cap,cur,rfl,hg,hh,r⟩
  · simp [Value.ownBlock] at hk
  · have:g = k:=by simpa [Value.ownBlock] using hk
    subst this
    exact ⟨cur,hh⟩
namespace Kd
def C {α:Type} (d:Kd α) (w:World) (A:Option Addr) (n:Nat) (xs:List α):Prop:=mE (d.K w) d.sz w A n xs
def R {α:Type} (d:Kd α) (e:Nat) (w:World) (base:Nat) (ok:Nat → Prop) (v:Value) (xs:List α):Prop :=
  (∀ k,v.ownBlock = some k → ok k) ∧ gu (d.M w base (fun k=>ok k ∧ some k ≠ v.ownBlock)) e d.sz w base v xs
section
variable {α : Type} {d:Kd α} {e:Nat} {w w1:World} {base:Nat} {ok ok':Nat → Prop} {v:Value} {xs:List α}
theorem Qa {A:Option Addr} {n:Nat} (h:d.C w A n xs) (hb:Below w.heap.size w w1):d.C w1 A n xs:=mE.zP h hb (fun _ _ hp=>d.lY hb hp)
theorem jG (d:Kd α) (e:Nat) (w:World) (base:Nat) (ok:Nat → Prop):d.R e w base ok (.slice none 0 0) []:=⟨fun k hk=>by simp [Value.ownBlock] at hk,gu.none_ _ _ _ _ _⟩
theorem pR (h:d.R e w base ok v xs) (hok:∀ k,ok k → ok' k):d.R e w base ok' v xs:=⟨fun k hk=>hok k (h.1 k hk),h.2.zP (fun _ _ hp=>d.kC (fun k hk=>⟨hok k hk.1,hk.2⟩) hp)⟩
theorem Cz (h:d.R e w base ok v xs):d.R e w base (fun k=>ok k ∧ base ≤ k ∧ k < w.heap.size ∧ ∃ q,q ∈ e :: d.E ∧ ∃ cells,w.heap[k]? = some (.cells cells q (0,0))) v xs:=by
  obtain ⟨h0,inner,ho,hr⟩:=h
  refine ⟨fun k hk=>?_,inner,ho,hr.zP (fun _ _ hp=>d.kC (fun k hk=>?_) (d.kD hp))⟩
  · obtain ⟨cells,hc⟩:=AL ho k hk
    exact ⟨h0 k hk,tY ho k hk,Vu ho k hk,e,List.mem_cons_self,cells,hc⟩
  · obtain ⟨⟨h1,h2⟩,h3,h4,q,hq,hc⟩:=hk
    exact ⟨⟨h1,h3,h4,q,List.mem_cons_of_mem _ hq,hc⟩,h2⟩
theorem MN (h:d.R e w base ok v xs) (hm:∀ k,ok k → w1.heap[k]? = w.heap[k]?):d.R e w1 base ok v xs:=by
  obtain ⟨h0,inner,ho,hr⟩:=h
  exact ⟨h0,inner,ML ho (fun k hk=>hm k (h0 k hk)),hr.zP (fun _ _ hp=>d.mG (fun k hk=>hm k hk.1) hp)⟩
theorem uh {base':Nat} (h:d.R e w base ok v xs) (hb:base' ≤ base):d.R e w base' ok v xs:=by
  obtain ⟨h0,inner,ho,hr⟩:=h
  exact ⟨h0,inner,Gp ho hb,hr.zP (fun _ _ hp=>d.lZ hb hp)⟩
theorem MO (h:d.R e w base ok v xs) (hm:∀ k,ok k → k < w.heap.size → w1.heap[k]? = w.heap[k]?):d.R e w1 base ok v xs :=
  pR (MN (Cz h) (fun k hk=>hm k hk.1 hk.2.2.1)) (fun _ hk=>hk.1)
theorem Vx {x:α} {cs:List Value} (h:d.M w base ok x cs) (hm:∀ k,ok k → k < w.heap.size → w1.heap[k]? = w.heap[k]?):d.M w1 base ok x cs :=
  d.kC (fun _ hk=>hk.1) (d.mG (fun k hk=>hm k hk.1 hk.2.2.1) (d.kD h))
theorem kE (h:d.R e w base ok v xs) (hb:Below w.heap.size w w1):d.R e w1 base ok v xs:=MO h (fun k _ hk=>hb.block k hk)
theorem uj (h:d.R e w base ok v xs) {p:Addr} (hok:∀ k,ok k → k ≠ p.block) (u:Value):d.R e (w.setCell p u) base ok v xs:=MO h (fun k ho _=>Below.heap_setCell w p u k (hok k ho))
theorem um (h:d.R e w base ok v xs) {g t:Nat} {cells:Array Value} (hb:w.heap[g]? = some (.cells cells t (0,0))) (ht:∀ q,q ∈ e :: d.E → q ≠ t):d.R e w base (fun k=>ok k ∧ k ≠ g) v xs :=
  pR (Cz h) (fun k hk=>⟨hk.1,by
    obtain ⟨_,_,_,q,hq,cells',hc⟩:=hk
    rintro rfl
    rw [hc] at hb
    injection hb with hb
    injection hb with _ hb
    exact ht q hq hb⟩)
theorem MP (h:d.R e w base ok v xs) {g t:Nat} {cells:Array Value} (hb:w.heap[g]? = some (.cells cells t (0,0))) (ht:∀ q,q ∈ e :: d.E → q ≠ t) (j:Nat) (u:Value):d.R e (w.setCell ⟨g,j,none⟩ u) base ok v xs :=
  pR (uj (p:=⟨g,j,none⟩) (um h hb ht) (fun _ hk=>hk.2) u) (fun _ hk=>hk.1)
theorem CB (h:d.R e w base ok v xs):∃ A c,v = .slice A xs.length c ∧ xs.length ≤ c ∧ d.C w A xs.length xs:=by
  obtain ⟨A,c,he,hl,hr⟩:=gu.reads h.2
  exact ⟨A,c,he,hl,hr.zP (Below.refl _ _) (fun _ _ hp=>d.jr hp)⟩
theorem xk (h:d.R e w base ok v xs):∃ A c,v = .slice A xs.length c:=by
  obtain ⟨A,c,he,_⟩:=CB h
  exact ⟨A,c,he⟩
theorem SH (h:d.R e w base ok v xs):∃ inner,w.ownsRow base e d.sz v xs.length inner:=by
  obtain ⟨_,inner,ho,_⟩:=h
  exact ⟨inner,ho⟩
theorem Qb (h:d.R e w base ok v xs) {g t:Nat} {cells:Array Value} (hb:w.heap[g]? = some (.cells cells t (0,0))) (ht:e ≠ t):some g ≠ v.ownBlock:=gu.MK h.2 hb ht
end
def scalar {α:Type} (enc:α → Value) (h1:∀ x,(enc x).oneCell' = true):Kd α where
  sz:=1
  E:=[]
  K:=fun _ x cs=>cs = [enc x]
  M:=fun _ _ _ x cs=>cs = [enc x]
  oH:=fun h=>by rw [h];rfl
  pQ:=fun h u hu=>by
    rw [h] at hu
    rw [List.mem_singleton.1 hu]
    exact h1 _
  lY:=fun _ h=>h
  jr:=fun h=>h
  kC:=fun _ h=>h
  kD:=fun h=>h
  mG:=fun _ h=>h
  lZ:=fun _ h=>h
def int (k:IntKind):Kd Int:=scalar (Value.int k) (fun _=>rfl)
def bool : Kd Bool:=scalar Value.bool (fun _=>rfl)
def string : Kd ByteArray:=scalar Value.string (fun _=>rfl)
def slice {α:Type} (e:Nat) (d:Kd α):Kd (List α) where
  sz:=1
  E:=e :: d.E
  K:=fun w xs cs=>∃ A c,cs = [.slice A xs.length c] ∧ xs.length ≤ c ∧ d.C w A xs.length xs
  M:=fun w base ok xs cs=>∃ v,cs = [v] ∧ d.R e w base ok v xs
  oH:=by
    rintro w x cs ⟨A,c,rfl,_⟩
    rfl
  pQ:=by
    rintro w x cs ⟨A,c,rfl,_⟩ u hu
    rw [List.mem_singleton.1 hu]
    rfl
  lY:=by
    rintro w w1 x cs hb ⟨A,c,rfl,hl,hr⟩
    exact ⟨A,c,rfl,hl,Qa hr hb⟩
  jr:=by
    rintro w base ok x cs ⟨v,rfl,h⟩
    obtain ⟨A,c,rfl,hl,hr⟩:=CB h
    exact ⟨A,c,rfl,hl,hr⟩
  kC:=by
    rintro w base ok ok' x cs hok ⟨v,rfl,h⟩
    exact ⟨v,rfl,pR h hok⟩
  kD:=by
    rintro w base ok x cs ⟨v,rfl,h⟩
    exact ⟨v,rfl,Cz h⟩
  mG:=by
    rintro w w1 base ok x cs hm ⟨v,rfl,h⟩
    exact ⟨v,rfl,MN h hm⟩
  lZ:=by
    rintro w base base' ok x cs hb ⟨v,rfl,h⟩
    exact ⟨v,rfl,uh h hb⟩
def bot {α:Type} (sz:Nat) (E:List Nat):Kd α where
  sz:=sz
  E:=E
  K:=fun _ _ _=>False
  M:=fun _ _ _ _ _=>False
  oH:=fun h=>h.elim
  pQ:=fun h=>h.elim
  lY:=fun _ h=>h
  jr:=fun h=>h
  kC:=fun _ h=>h
  kD:=fun h=>h
  mG:=fun _ h=>h
  lZ:=fun _ h=>h
def upto {α:Type} (F:Kd α → Kd α) (sz:Nat) (E:List Nat):Nat → Kd α
  | 0=>bot sz E
  | n + 1=>F (upto F sz E n)
theorem yQ {α:Type} {d:Kd α} {e base:Nat} {ok JO:Nat → Prop} {W w1:World} {v v1:Value} {xs:List α} {p:α} {inner cs:List Value} (h0:∀ k,v.ownBlock = some k → ok k) (hr:fP (d.M W base (fun k=>ok k ∧ some k ≠ v.ownBlock)) d.sz xs inner) (hp:d.M W base JO p cs) (MQ:∀ k,JO k → ok k ∧ some k ≠ v.ownBlock) (hfresh:∀ k,W.heap.size ≤ k → ok k)
    (hown:w1.ownsRow base e d.sz v1 (xs.length + 1) (inner ++ cs)) (hg:W.grownBy w1 v.ownBlock) (hat:v1.ownBlock = v.ownBlock ∨ ∃ b,v1.ownBlock = some b ∧ W.heap.size ≤ b):d.R e w1 base ok v1 (xs ++ [p]):=by
  have hne:∀ k,some k ≠ v.ownBlock → k < W.heap.size → some k ≠ v1.ownBlock:=by
    intro k hk hlt
    rcases hat with hat | ⟨b,hb,hle⟩
    · rw [hat];exact hk
    · rw [hb]
      intro he
      injection he with he
      omega
  have step:∀ {q:α} {c:List Value} {o:Nat → Prop},d.M W base o q c → (∀ k,o k → ok k ∧ some k ≠ v.ownBlock) → d.M w1 base (fun k=>ok k ∧ some k ≠ v1.ownBlock) q c:=by
    intro q c o hq ho
    have h1:=d.mG (w1:=w1) (fun k hk=>hg.block k hk.2.2.1 (ho k hk.1).2) (d.kD hq)
    exact d.kC (fun k hk=>⟨(ho k hk.1).1,hne k (ho k hk.1).2 hk.2.2.1⟩) h1
  refine ⟨fun k hk=>?_,inner ++ cs,by rw [List.length_append,List.length_singleton];exact hown,?_⟩
  · rcases hat with hat | ⟨b,hb,hle⟩
    · exact h0 k (hat ▸ hk)
    · rw [hb] at hk
      injection hk with hk
      exact hfresh k (by omega)
  · exact (hr.zP (fun _ _ hq=>step hq (fun _ hk=>hk))).snoc (step hp MQ) (d.oH (d.jr hp))
section
variable {P : Program} {ops:Array Oper} {rest:List Oper} {o:Oper} {a:Act} {Q:Exit → Act → World → Prop} {α:Type}
theorem yR (d:Kd α) {w0 W:World} (base:Nat) (hgd:o.guard = none) (s x:Operand) (t e:TypeId) (z:Value) (bytes:Nat)
    (ho:o.op = .call { callee:=.builtin .append,args:=#[s,x],argTypes:=#[t,t] })
    (ht:P.underlying t = some (.slice e)) (hinfo:(P.info? e).map (fun i=>(i.zero,i.size,i.bytes)) = some (some z,d.sz,bytes)) (hz:z.cells.size = d.sz) (hs0:0 < d.sz) (hb0:0 < bytes)
    (v:Value) (xs:List α) (p:α) (cs:List Value) (ok JO:Nat → Prop) (hs:a.eval s = v) (hx:a.eval x = .slice (some ⟨W.heap.size,0,none⟩) 1 1) (hp:d.M W base JO p cs) (MQ:∀ k,JO k → ok k ∧ some k ≠ v.ownBlock) (hfresh:∀ k,W.heap.size ≤ k → ok k)
    (HO:d.R e W base ok v xs) (HB:Below base w0 W) (hbase:base ≤ W.heap.size) (hl:(xs.length + 1) * bytes ≤ 140737488355328)
    (h:∀ v1 w1,d.R e w1 base ok v1 (xs ++ [p]) → Below base w0 w1 → W.grownBy w1 v.ownBlock → (v1.ownBlock = v.ownBlock ∨ ∃ b,v1.ownBlock = some b ∧ W.heap.size ≤ b) → wpList P ops Q rest (a.put o.dst v1) w1) :
    wpList P ops Q (o :: rest) a (W.alloc (.cells cs.toArray e)):=by
  obtain ⟨h0,inner,hown,hr⟩:=HO
  refine mF base hgd s x t e z d.sz bytes ho ht hinfo hz hs0 hb0 v xs.length inner cs hs hx (d.oH (d.jr hp)) (d.pQ (d.jr hp)) hown HB hbase hl ?_
  intro v1 w1 hown1 hb1 hg1 Gq
  exact h v1 w1 (yQ h0 hr hp MQ hfresh hown1 hg1 Gq) hb1 hg1 Gq
end
section
variable {P : Program} {ops:Array Oper} {o:Oper} {a:Act} {Q:Exit → Act → World → Prop} {Kc:Act → World → Prop} {α:Type}
theorem zR (d:Kd α) {w0 W:World} (base:Nat) (hw:Region.wanted o (yielded ops a.tmps) = true) (s x:Operand) (t e:TypeId) (z:Value) (bytes:Nat)
    (ho:o.op = .call { callee:=.builtin .append,args:=#[s,x],argTypes:=#[t,t] })
    (ht:P.underlying t = some (.slice e)) (hinfo:(P.info? e).map (fun i=>(i.zero,i.size,i.bytes)) = some (some z,d.sz,bytes)) (hz:z.cells.size = d.sz) (hs0:0 < d.sz) (hb0:0 < bytes)
    (v:Value) (xs:List α) (p:α) (cs:List Value) (ok JO:Nat → Prop) (hs:a.eval s = v) (hx:a.eval x = .slice (some ⟨W.heap.size,0,none⟩) 1 1) (hp:d.M W base JO p cs) (MQ:∀ k,JO k → ok k ∧ some k ≠ v.ownBlock) (hfresh:∀ k,W.heap.size ≤ k → ok k)
    (HO:d.R e W base ok v xs) (HB:Below base w0 W) (hbase:base ≤ W.heap.size) (hl:(xs.length + 1) * bytes ≤ 140737488355328)
    (h:∀ v1 w1,d.R e w1 base ok v1 (xs ++ [p]) → Below base w0 w1 → W.grownBy w1 v.ownBlock → (v1.ownBlock = v.ownBlock ∨ ∃ b,v1.ownBlock = some b ∧ W.heap.size ≤ b) → Kc (a.put o.dst v1) w1) :
    if Region.wanted o (yielded ops a.tmps) = true then Oper.wp P o a (W.alloc (.cells cs.toArray e)) Kc Q else Kc (a.put o.dst undef) (W.alloc (.cells cs.toArray e)):=by
  obtain ⟨h0,inner,hown,hr⟩:=HO
  refine uf base hw s x t e z d.sz bytes ho ht hinfo hz hs0 hb0 v xs.length inner cs hs hx (d.oH (d.jr hp)) (d.pQ (d.jr hp)) hown HB hbase hl ?_
  intro v1 w1 hown1 hb1 hg1 Gq
  exact h v1 w1 (yQ h0 hr hp MQ hfresh hown1 hg1 Gq) hb1 hg1 Gq
end
theorem EH {α:Type} {enc:α → Value} (xs:List α):fP (fun (x:α) (cs:List Value)=>cs = [enc x]) 1 xs (encs enc xs):=by
  refine ⟨by simp [encs],fun j p hj=>?_⟩
  obtain ⟨hl,hp⟩:=List.getElem?_eq_some_iff.1 hj
  have hl':j < (encs enc xs).length:=by rw [vZ];exact hl
  rw [Nat.mul_one,List.drop_eq_getElem_cons hl']
  simp [encs,hp]
theorem MR {α:Type} {enc:α → Value} {h1:∀ x,(enc x).oneCell' = true} {e:Nat} {w:World} {base:Nat} {ok:Nat → Prop} {v:Value} {xs:List α} (ho:w.ownsRow base e 1 v xs.length (encs enc xs)) (hok:∀ k,v.ownBlock = some k → ok k):(scalar enc h1).R e w base ok v xs:=⟨hok,encs enc xs,ho,EH xs⟩
theorem uo {α:Type} {enc:α → Value} {h1:∀ x,(enc x).oneCell' = true} {e:Nat} {w:World} {base:Nat} {ok:Nat → Prop} {v:Value} {xs:List α} (h:(scalar enc h1).R e w base ok v xs):w.ownsRow base e 1 v xs.length (encs enc xs):=by
  obtain ⟨_,inner,ho,hr⟩:=h
  have:inner = encs enc xs:=by
    apply List.ext_getElem?
    intro j
    rcases Nat.lt_or_ge j xs.length with hj | hj
    · have h2:=hr.2 j _ (List.getElem?_eq_getElem hj)
      have hl:j < inner.length:=by have:=hr.1;simp [scalar] at this;omega
      have h3:(inner.drop (j * 1)).take 1 = [enc xs[j]]:=h2
      rw [Nat.mul_one,List.drop_eq_getElem_cons hl] at h3
      have h4:inner[j] = enc xs[j]:=by
        have h5:=congrArg List.head? h3
        rw [List.take_succ_cons] at h5
        exact Option.some.inj h5
      rw [List.getElem?_eq_getElem hl,h4]
      simp [encs,List.getElem?_eq_getElem hj]
    · have h3:inner.length = xs.length:=by have:=hr.1;simp [scalar] at this;omega
      rw [List.getElem?_eq_none (by omega),List.getElem?_eq_none (by rw [vZ];omega)]
  rw [← this]
  exact ho
theorem Gr {α:Type} {enc:α → Value} {d:α} {h1:∀ x,(enc x).oneCell' = true} {w:World} {A:Option Addr} {n:Nat} {xs:List α} (h:(scalar enc h1).C w A n xs):gy enc d w A n xs:=by
  refine ⟨h.1,h.2.1,fun hn=>?_⟩
  obtain ⟨ad,e,hc⟩:=h.2.2 hn
  refine ⟨ad,e,fun j hj=>?_⟩
  have hl:j < xs.length:=by have:=h.1;omega
  obtain ⟨c,_,hK,hcell⟩:=hc j _ (List.getElem?_eq_getElem hl)
  have hK':c = [enc xs[j]]:=hK
  subst hK'
  have:=hcell 0 _ rfl
  simpa [scalar,List.getD_eq_getElem?_getD,List.getElem?_eq_getElem hl] using this
end Kd
namespace Kd
section
variable {α : Type} {F:Kd α → Kd α} {sz:Nat} {E:List Nat} {hs:∀ n,(upto F sz E n).sz = sz} {hE:∀ n q,q ∈ (upto F sz E n).E → q ∈ E}
end
end Kd
namespace Kd
end Kd
namespace Kd
section
variable {α β:Type} {d:Kd α} {d':Kd β} {e e':Nat} {w w1 W:World} {base b b':Nat} {ok ok' okv oku:Nat → Prop} {v u:Value} {xs:List α} {ys:List β}
theorem fu (h:d.R e w base ok v xs) (o:Obj):d.R e (w.alloc o) base ok v xs:=kE h (ak (Below.refl _ _) o)
theorem fU (h:d.R e w base ok v xs):d.R e w.drew base ok v xs:=kE h (jq (Below.refl _ _))
theorem fI (h:d.R e w base ok v xs) (m:Nat):d.R e (w.drewN m) base ok v xs:=kE h (ah (Below.refl _ _) m)
theorem ZE (d:Kd α) (w:World):d.C w none ([]:List α).length []:=⟨rfl,by simp,fun h=>absurd h (Nat.lt_irrefl 0)⟩
theorem ZF {A:Option Addr} {n:Nat} (h:d.C w A n xs):n ≤ 9223372036854775807:=h.2.1
theorem pU {A:Option Addr} {n c:Nat} (h:d.R e w base ok (.slice A n c) xs):n = xs.length ∧ n ≤ c ∧ d.C w A xs.length xs:=by
  obtain ⟨A',c',he,hl,hr⟩:=CB h
  injection he with h1 h2 h3
  subst h1
  exact ⟨h2,by omega,hr⟩
theorem Vy (h:d.R e w base ok v xs):∀ k,v.ownBlock = some k → base ≤ k:=by
  obtain ⟨inner,ho⟩:=SH h
  exact tY ho
theorem Vz (h:d.R e w base ok v xs) (hp:0 < xs.length):∃ g cap,v = .slice (some ⟨g,0,none⟩) xs.length cap ∧ base ≤ g ∧ g < w.heap.size ∧ ∃ cells,w.heap[g]? = some (.cells cells e (0,0)):=by
  obtain ⟨inner,ho⟩:=SH h
  obtain ⟨g,cap,he,hb,hl⟩:=ho.form hp
  obtain ⟨cells,hc⟩:=AL ho g (by rw [he];simp [Value.ownBlock])
  exact ⟨g,cap,he,hb,hl,cells,hc⟩
end
section
variable {w W:World} {A:Option Addr} {n:Nat}
theorem AO {xs:List ByteArray} (h:Kd.string.C w A n xs) (i:Int) (h0:0 ≤ i) (h1:i < n):∃ ad,A = some ad ∧ w.cell? (ad.add i.toNat) = some (.string (pO ByteArray.empty xs i)) :=
  gy.at_ (Gr (enc:=Value.string) (d:=ByteArray.empty) (h1:=fun _=>rfl) h) i h0 h1
variable {α : Type} {enc:α → Value} {h1:∀ x,(enc x).oneCell' = true} {e base g cap:Nat} {ok:Nat → Prop} {xs:List α}
theorem MS (d:α) (h:(scalar enc h1).R e W base ok (.slice (some ⟨g,0,none⟩) xs.length cap) xs) (i:Int) (h0:0 ≤ i) (hi:i < xs.length):W.cell? ⟨g,i.toNat,none⟩ = some (enc (pO d xs i)) ∧ W.frozen? ⟨g,i.toNat,none⟩ = false:=JN (uo h) i h0 hi
theorem ZG (h:(scalar enc h1).R e W base ok (.slice (some ⟨g,0,none⟩) xs.length cap) xs) (i:Int) (x:α):(scalar enc h1).R e (W.setCell ⟨g,i.toNat,none⟩ (enc x)) base ok (.slice (some ⟨g,0,none⟩) xs.length cap) (xs.set i.toNat x) ∧ W.grownBy (W.setCell ⟨g,i.toNat,none⟩ (enc x)) (some g):=by
  obtain ⟨ho,hg⟩:=Cy (uo h) i x
  exact ⟨MR (by rw [List.length_set];exact ho) h.1,hg⟩
end
section
variable {P : Program} {ops:Array Oper} {rest:List Oper} {o:Oper} {a:Act} {Q:Exit → Act → World → Prop}
theorem JQ {W w1:World} {v:Value} (hgd:o.guard = none) (hrun:(execOp a.eval o).run P W = .ok (.value v) w1) (h:wpList P ops Q rest (a.put o.dst v) w1):wpList P ops Q (o :: rest) a W:=by
  refine wpList_plain hgd fun K hK=>?_
  unfold Oper.wp
  rw [hrun]
  exact hK _ _ h
variable {α : Type}
end
end Kd
section
variable {P : Program}
end
def ZH (w:World) (base:Nat) (e:TypeId) (size:Nat) (v:Value) (n:Nat) (xs:List Value):Prop :=
  xs.length = n * size ∧
  ((n = 0 ∧ ∃ A,v = .slice A 0 0 ∧ ∀ a,A = some a → base ≤ a.block ∧ ∃ cur,w.heap[a.block]? = some (.cells cur e (0,0))) ∨
   ∃ g off cap cur,v = .slice (some ⟨g,off * size,none⟩) n cap ∧ base ≤ g ∧ w.heap[g]? = some (.cells cur e (0,0)) ∧ n ≤ cap ∧ off + cap ≤ maxLen ∧ cur.size = (off + cap) * size ∧ (cur.toList.drop (off * size)).take (n * size) = xs)
section
variable {w w1:World} {base n size:Nat} {e:TypeId} {v:Value} {xs:List Value}
theorem MU (h:w.ownsRow base e size v n xs):ZH w base e size v n xs:=by
  obtain ⟨h1,h2⟩:=h
  refine ⟨h1,?_⟩
  rcases h2 with ⟨rfl,h0⟩ | ⟨g,cap,cur,rfl,hb,hh,hnc,hcm,hcs,ht⟩
  · exact .inl ⟨h0,none,rfl,fun a ha=>by cases ha⟩
  · exact .inr ⟨g,0,cap,cur,by rw [Nat.zero_mul],hb,hh,hnc,by rw [Nat.zero_add];exact hcm,by rw [Nat.zero_add];exact hcs,by rw [Nat.zero_mul,List.drop_zero];exact ht⟩
end
section
variable {P : Program}
end
namespace Kd
def Q {α:Type} (d:Kd α) (e:Nat) (w:World) (base:Nat) (ok:Nat → Prop) (v:Value) (xs:List α):Prop :=
  (∀ k,v.ownBlock = some k → ok k) ∧ ∃ inner,ZH w base e d.sz v xs.length inner ∧ fP (d.M w base (fun k=>ok k ∧ some k ≠ v.ownBlock)) d.sz xs inner
section
variable {α : Type} {d:Kd α} {e:Nat} {w w1 W:World} {base:Nat} {ok ok':Nat → Prop} {v:Value} {xs:List α}
theorem VA (h:d.R e w base ok v xs):d.Q e w base ok v xs:=by
  obtain ⟨h0,inner,ho,hr⟩:=h
  exact ⟨h0,inner,MU ho,hr⟩
theorem lu (d:Kd α) (e:Nat) (w:World) (base:Nat) (ok:Nat → Prop):d.Q e w base ok (.slice none 0 0) []:=VA (jG d e w base ok)
end
section
variable {P : Program} {ops:Array Oper} {rest:List Oper} {o:Oper} {a:Act} {Q':Exit → Act → World → Prop} {Kc:Act → World → Prop} {α:Type}
end
end Kd
namespace Kd
section
variable {α : Type} {d:Kd α} {e e':Nat} {w w1 W:World} {base:Nat} {ok:Nat → Prop} {u v:Value} {xs:List α}
end
end Kd
namespace Kd
section
variable {α : Type} {d:Kd α} {e base g n cap:Nat} {ok JO:Nat → Prop} {W:World} {xs:List α}
end
end Kd
namespace Kd
section
variable {α : Type} {F:Kd α → Kd α} {sz:Nat} {E:List Nat} {hs:∀ n,(upto F sz E n).sz = sz} {hE:∀ n q,q ∈ (upto F sz E n).E → q ∈ E}
end
end Kd
namespace Kd
section
variable {P : Program} {ops:Array Oper} {rest:List Oper} {o:Oper} {a:Act} {Q:Exit → Act → World → Prop} {α:Type}
end
end Kd
namespace Kd
section
variable {P : Program} {ops:Array Oper} {rest:List Oper} {o:Oper} {a:Act} {Q:Exit → Act → World → Prop} {α:Type}
end
end Kd
namespace Kd
section
variable {α : Type} {k:Kd α} {w:World} {A:Option Addr} {xs:List α} {m c:Nat}
end
end Kd
section
variable {P : Program}
end
theorem bL {w W:World} (h:Below w.heap.size w W):w.heap.size ≤ W.heap.size:=h.size
theorem bE {w W w2:World} (h:Below w.heap.size w W) (k:Below W.heap.size W w2):Below w.heap.size w w2:=Gn h h.size k
theorem gH.nil (W:World) (k:IntKind):gH W k none ([]:List Int).length []:=⟨rfl,by simp,fun h=>absurd h (Nat.lt_irrefl 0)⟩
theorem gH.drewN {W:World} {k:IntKind} {A:Option Addr} {n:Nat} {xs:List Int} (h:gH W k A n xs) (m:Nat):gH (W.drewN m) k A n xs:=h
theorem aR {w W:World} {g j:Nat} {v:Value} (h:Below w.heap.size w W) (hg:w.heap.size ≤ g):Below w.heap.size w (W.setCell ⟨g,j,none⟩ v):=h.setCell hg _
theorem AP {w W:World} {g:Nat} (h:gW w W g none) {a:Addr} {v:Value} (hc:w.cell? a = some v) (hne:a.block ≠ g):W.cell? a = some v:=by
  have:=h.2 a.block (World.block_lt_of_cell? w a hc) hne (by simp)
  simpa [World.cell?,this] using hc
theorem add_block (a:Addr) (i:Nat):(a.add i).block = a.block:=by unfold Addr.add;split <;> rfl
theorem gy.nil {α:Type} (enc:α → Value) (d:α) (W:World):gy enc d W none ([]:List α).length []:=⟨rfl,by simp,fun h=>absurd h (Nat.lt_irrefl 0)⟩
theorem gy.drewN {α:Type} {enc:α → Value} {d:α} {W:World} {A:Option Addr} {n:Nat} {xs:List α} (h:gy enc d W A n xs) (m:Nat):gy enc d (W.drewN m) A n xs:=h
theorem gH.keep {w W:World} {k:IntKind} {A:Option Addr} {n g:Nat} {xs:List Int} (h:gH w k A n xs) (hk:gW w W g none) (hf:∀ ad,A = some ad → 0 < n → ad.block ≠ g):gH W k A n xs :=
  ⟨h.1,h.2.1,fun hn=>by
    obtain ⟨ad,e,hc⟩:=h.2.2 hn
    exact ⟨ad,e,fun j hj=>AP hk (hc j hj) (by rw [add_block];exact hf ad e hn)⟩⟩
theorem gy.keep {α:Type} {enc:α → Value} {d:α} {w W:World} {A:Option Addr} {n g:Nat} {xs:List α} (h:gy enc d w A n xs) (hk:gW w W g none) (hf:∀ ad,A = some ad → 0 < n → ad.block ≠ g):gy enc d W A n xs :=
  ⟨h.1,h.2.1,fun hn=>by
    obtain ⟨ad,e,hc⟩:=h.2.2 hn
    exact ⟨ad,e,fun j hj=>AP hk (hc j hj) (by rw [add_block];exact hf ad e hn)⟩⟩
theorem cell_far {W:World} {p a:Addr} (h:a.block ≠ p.block) (u:Value):(W.setCell p u).cell? a = W.cell? a:=by
  have:=Below.heap_setCell W p u a.block h
  simp [World.cell?,this]
theorem bU {w:World} {g:Nat} {t:TypeId} {cs cs':Array Value} (h:w.heap[g]? = some (.cells cs t (0,0))) (i:Nat) (u:Value) (e:cs.setIfInBounds i u = cs'):(w.setCell ⟨g,i,none⟩ u).heap[g]? = some (.cells cs' t (0,0)):=e ▸ P9 h i u
theorem sZ {W:World} {base n c:Nat} {e:TypeId} {size g:Nat} {ad:Addr} {xs:List Value} (_:W.ownsRow base e size (.slice (some ad) n c) n xs) (hne:some g ≠ (Value.slice (some ad) n c).ownBlock):ad.block ≠ g:=by
  rintro rfl
  exact hne (by simp [Value.ownBlock])
theorem au {base:Nat} {w W:World} (h:Below base w W):Below base w W.drew:=h.drew
namespace Kd
section
variable {α β:Type} {d:Kd α} {d':Kd β} {e e' base base' n:Nat} {ok ok':Nat → Prop} {w W w1 W1:World} {v u:Value} {xs:List α} {ys:List β} {A:Option Addr} {c:Nat}
theorem sZ {ad:Addr} {g:Nat} (hne:some g ≠ (Value.slice (some ad) n c).ownBlock):ad.block ≠ g:=by
  rintro rfl
  exact hne (by simp [Value.ownBlock])
end
section
variable {α : Type} {enc:α → Value} {h1:∀ x,(enc x).oneCell' = true} {w W:World} {A:Option Addr} {n g:Nat} {xs:List α}
end
end Kd
namespace Kd
section
variable {α : Type} {d:Kd α} {e base g:Nat} {ok:Nat → Prop} {w w1:World} {v:Value} {xs:List α} {o:Obj}
end
end Kd
section
variable {P : Program} {ops:Array Oper} {rest:List Oper} {o:Oper} {a:Act} {Q:Exit → Act → World → Prop}
theorem fQ {W:World} (hgd:o.guard = none) {N:Tmp} (_hd:o.dst = some N) {cs:Array Value} {t:TypeId}
    (hrun:(execOp a.eval o).run P W = .ok (.value (.pointer (some ⟨W.heap.size,0,none⟩))) (W.alloc (.cells cs t (0,0))))
    (h:∀ g,g = W.heap.size → ∀ w1,w1.heap[g]? = some (.cells cs t (0,0)) → Below W.heap.size W w1 → wpList P ops Q rest (a.put o.dst (.pointer (some ⟨g,0,none⟩))) w1):wpList P ops Q (o :: rest) a W :=
  Kd.JQ hgd hrun (h _ rfl _ (ug W _) (ak (Below.refl _ _) _))
end
namespace Kd
section
variable {α : Type} {enc:α → Value} {h1:∀ x,(enc x).oneCell' = true} {e base g n cap:Nat} {ok:Nat → Prop} {W:World} {xs:List α}
theorem CG (d:α) (h:(scalar enc h1).R e W base ok (.slice (some ⟨g,0,none⟩) n cap) xs) (i:Int) (h0:0 ≤ i) (hi:i < n):W.cell? ⟨g,i.toNat,none⟩ = some (enc (pO d xs i)) ∧ W.frozen? ⟨g,i.toNat,none⟩ = false:=by
  obtain ⟨rfl,_⟩:=pU h
  exact MS d h i h0 hi
end
end Kd
section
variable {P : Program} {ops:Array Oper} {rest:List Oper} {o:Oper} {a:Act} {Q:Exit → Act → World → Prop}
end
namespace Kd
section
variable {α : Type} {enc:α → Value} {h1:∀ x,(enc x).oneCell' = true} {e base g n cap:Nat} {ok:Nat → Prop} {W:World} {xs:List α}
theorem VB (h:(scalar enc h1).R e W base ok (.slice (some ⟨g,0,none⟩) n cap) xs) (i:Int) (x:α):(scalar enc h1).R e (W.setCell ⟨g,i.toNat,none⟩ (enc x)) base ok (.slice (some ⟨g,0,none⟩) n cap) (xs.set i.toNat x) ∧ W.grownBy (W.setCell ⟨g,i.toNat,none⟩ (enc x)) (some g):=by
  obtain ⟨rfl,_⟩:=pU h
  exact ZG h i x
end
end Kd
section
variable {P : Program} {ops:Array Oper} {rest:List Oper} {o:Oper} {a:Act} {Q:Exit → Act → World → Prop} {W:World}
theorem gI {N:Tmp} (_hN:o.dst = some N) (h:wpList P ops Q (o :: rest) a W):wpList P ops Q (o :: rest) a W:=h
end
section
variable {P : Program} {ops:Array Oper} {o:Oper} {a:Act} {Q:Exit → Act → World → Prop} {Kc:Act → World → Prop}
namespace Kd
variable {α : Type}
end Kd
end
section
variable {P : Program} {tmps:Array Value} {w:World}
end
namespace Kd
section
variable {P : Program} {α:Type}
end
section
variable {P : Program} {ops:Array Oper} {rest:List Oper} {o:Oper} {a:Act} {Q:Exit → Act → World → Prop} {Kc:Act → World → Prop} {α:Type}
end
end Kd
end Go.Proofs.YtdkkgecdhapfhaaW.bD
namespace Go.Proofs.YtdkkgecdhapfhaaW.dL
section
variable {P : Program} {ops:Array Oper} {Q:Exit → Act → World → Prop} {md:Region.Mode} {S:World → Prop} {ds:List Nat}
def Region.lN (md:Region.Mode) (ops:Array Oper) (i:Nat):Nat → Nat → Bool
  | 0,_=>false
  | fuel + 1,d=>match ops[d]? with
    | some o=>o.after.any fun e=>Region.binds md e && (e.on == i || Region.lN md ops i fuel e.on)
    | none=>false
def Region.uq (md:Region.Mode) (ops:Array Oper) (listed:Array Bool):Bool :=
  (List.range ops.size).all fun j=>!listed.getD j false || match ops[j]? with
    | some o=>o.after.all fun e=>!Region.binds md e || listed.getD e.on false
    | none=>true
def Region.lastB (md:Region.Mode) (ops:Array Oper) (listed:Array Bool) (ds:List Nat) (i:Nat):Bool :=
  ds.all fun d=>listed.getD d true || Region.lN md ops i ops.size d
def iO (md:Region.Mode) (ops:Array Oper) (listed:Array Bool):Prop :=
  ∀ j oj,ops[j]? = some oj → listed.getD j false = true → ∀ e ∈ oj.after,Region.binds md e = true → listed.getD e.on false = true
theorem Region.CJ {listed:Array Bool} (h:Region.uq md ops listed = true):iO md ops listed:=by
  intro j oj hj hl e he hb
  have hlt:j < ops.size:=(Array.getElem?_eq_some_iff.1 hj).1
  have h1:=List.all_eq_true.1 h j (List.mem_range.2 hlt)
  simp only [hl,hj,Bool.not_true,Bool.false_or] at h1
  have h2:=Array.all_eq_true_iff_forall_mem.1 h1 e he
  simpa [hb] using h2
theorem iO.set {listed:Array Bool} {i:Nat} (h:iO md ops listed) (hi:i ∈ Region.ready md ops listed):iO md ops (listed.setIfInBounds i true):=by
  obtain ⟨_,oi,hoi,hall⟩:=mem_ready.1 hi
  intro j oj hj hl e he hb
  by_cases hij:i = j
  · subst hij
    have:oj = oi:=Option.some.inj (hj.symm.trans hoi)
    subst this
    exact getD_set_true (hall e he hb)
  · rw [getD_set_ne false hij] at hl
    exact getD_set_true (h j oj hj hl e he hb)
theorem Region.uw {listed:Array Bool} {i:Nat} (hc:iO md ops listed):∀ (fuel d:Nat),Region.lN md ops i fuel d = true → listed.getD d false = true → listed.getD i false = true
  | 0,_,h,_=>by simp [Region.lN] at h
  | fuel + 1,d,h,hl=>by
    unfold Region.lN at h
    cases ho:ops[d]? with
    | none=>rw [ho] at h;simp at h
    | some o =>
      rw [ho] at h
      obtain ⟨e,he,h1⟩:=Array.any_eq_true'.1 h
      simp only [Bool.and_eq_true,Bool.or_eq_true,beq_iff_eq] at h1
      have hle:=hc d o ho hl e he h1.1
      rcases h1.2 with h2 | h2
      · rw [← h2];exact hle
      · exact Region.uw hc fuel e.on h2 hle
theorem Region.wI {listed:Array Bool} {i d fuel:Nat} (hc:iO md ops listed) (hr:Region.lN md ops i fuel d = true) (hun:listed.getD i true = false):d ∉ Region.ready md ops listed:=by
  intro hd
  obtain ⟨_,o,ho,hall⟩:=mem_ready.1 hd
  have hi:listed.getD i false = true:=by
    cases fuel with
    | zero=>simp [Region.lN] at hr
    | succ n =>
      unfold Region.lN at hr
      rw [ho] at hr
      obtain ⟨e,he,h1⟩:=Array.any_eq_true'.1 hr
      simp only [Bool.and_eq_true,Bool.or_eq_true,beq_iff_eq] at h1
      have hle:=hall e he h1.1
      rcases h1.2 with h2 | h2
      · rw [← h2];exact hle
      · exact Region.uw hc n e.on h2 hle
  rcases Nat.lt_or_ge i listed.size with h' | h'
  · simp [h'] at hun hi
    rw [hun] at hi
    cases hi
  · simp [Array.getElem?_eq_none h'] at hun
def dn (P:Program) (md:Region.Mode) (ops:Array Oper) (Q:Exit → Act → World → Prop) (S:World → Prop) (ds:List Nat):Nat → Array Bool → Act → World → Prop
  | 0,listed,a,w=>Region.ready md ops listed = [] ∧ Q .normal a w
  | fuel + 1,listed,a,w =>
    (Region.ready md ops listed = [] → Q .normal a w) ∧
    ∀ i ∈ Region.ready md ops listed,wpOp P ops Q i (fun a' w'=>(i ∉ ds → S w → S w') ∧ dn P md ops Q S ds fuel (listed.setIfInBounds i true) a' w') a w
theorem rz : ∀ (fuel:Nat) (listed:Array Bool) (a:Act) (w:World),dn P md ops Q S ds fuel listed a w → wpAny P md ops Q fuel listed a w
  | 0,_,_,_,h=>h
  | fuel + 1,_,_,_,h=>⟨h.1,fun i hi=>wpOp_mono (fun a' w' h'=>rz fuel _ a' w' h'.2) (h.2 i hi)⟩
theorem wJ {i:Nat} {oi:Oper} {v:Value} (hi:ops[i]? = some oi) (hsel:∀ (j:Nat) (o:Oper) cs b,ops[j]? = some o → o.op ≠ .select cs b)
    (hQ:∀ c a w,Q (.panic c) (a.put oi.dst v) w → Q (.panic c) a w) (n:Nat) :
    ∀ (fuel:Nat) (listed:Array Bool) (a:Act) (w:World),
      (∀ j oj,ops[j]? = some oj → j ≠ i → listed.getD j true = false → (∀ e ∈ oj.after,Region.binds md e = true → e.on ≠ i) → oi.apart ops oj = true) →
      iO md ops listed → (∀ d ∈ ds,listed.getD d true = false → Region.lN md ops i n d = true) →
      i ∈ Region.ready md ops listed → YieldsIf P ops S oi v a → S w →
      dn P md ops Q S ds fuel (listed.setIfInBounds i true) (a.put oi.dst v) w → dn P md ops Q S ds (fuel + 1) listed a w:=by
  intro fuel
  induction fuel with
  | zero =>
    intro listed a w _ _ _ hr hy hS H
    refine ⟨fun h=>(by rw [h] at hr;cases hr),fun j hj=>?_⟩
    by_cases hji:j = i
    · subst hji;exact hy.wpOp hi hS ⟨fun _ h=>h,H⟩
    · have:=ready_mono hj hji
      rw [H.1] at this
      cases this
  | succ fuel ih =>
    intro listed a w hfree hc hd hr hy hS H
    refine ⟨fun h=>(by rw [h] at hr;cases hr),fun j hj=>?_⟩
    by_cases hji:j = i
    · subst hji;exact hy.wpOp hi hS ⟨fun _ h=>h,H⟩
    · have h1:=H.2 j (ready_mono hj hji)
      obtain ⟨hjun,oj,hoj,hall⟩:=mem_ready.1 hj
      have JR:=(mem_ready.1 hr).1
      have hnot:∀ e ∈ oj.after,Region.binds md e = true → e.on ≠ i:=fun e he hb heq=>by
        have h1:=hall e he hb
        rw [heq] at h1
        rcases Nat.lt_or_ge i listed.size with h' | h'
        · simp [h'] at JR h1;rw [JR] at h1;cases h1
        · simp [Array.getElem?_eq_none h'] at h1
      have hjd:j ∉ ds:=fun hm=>Region.wI hc (hd j hm hjun) JR hj
      have h2:=wpOp_putIf hoj (hfree j oj hoj hji hjun hnot) (fun cs b=>hsel i oi cs b hi) (fun cs b=>hsel j oj cs b hoj) hQ hy h1
      have hfree':∀ k ok,ops[k]? = some ok → k ≠ i → (listed.setIfInBounds j true).getD k true = false →
          (∀ e ∈ ok.after,Region.binds md e = true → e.on ≠ i) → oi.apart ops ok = true:=fun k ok hk hki hun hno=>by
        refine hfree k ok hk hki ?_ hno
        by_cases hjk:j = k
        · subst hjk;exact hjun
        · rw [getD_set_ne true hjk] at hun;exact hun
      have hd':∀ d ∈ ds,(listed.setIfInBounds j true).getD d true = false → Region.lN md ops i n d = true:=fun d hm hun=>by
        refine hd d hm ?_
        by_cases hjk:j = d
        · subst hjk;exact hjun
        · rw [getD_set_ne true hjk] at hun;exact hun
      refine wpOp_mono (fun a' w' h3=>⟨h3.2.1,ih (listed.setIfInBounds j true) a' w' hfree' (hc.set hj) hd' (ready_mono hr (Ne.symm hji)) h3.1 (h3.2.1 hjd hS) ?_⟩) h2
      rw [Array.setIfInBounds_comm _ _ hji]
      exact h3.2.2
theorem zS {i:Nat} {oi:Oper} {v:Value} (hi:ops[i]? = some oi) (hsel:∀ (j:Nat) (o:Oper) cs b,ops[j]? = some o → o.op ≠ .select cs b)
    (hQ:∀ c a w,Q (.panic c) (a.put oi.dst v) w → Q (.panic c) a w) :
    ∀ (fuel:Nat) (listed:Array Bool) (a:Act) (w:World),
      (∀ j oj,ops[j]? = some oj → j ≠ i → listed.getD j true = false → (∀ e ∈ oj.after,Region.binds md e = true → e.on ≠ i) → oi.apart ops oj = true) →
      i ∈ Region.ready md ops listed → Yields P ops oi v a →
      dn P md ops Q S ds fuel (listed.setIfInBounds i true) (a.put oi.dst v) w → dn P md ops Q S ds (fuel + 1) listed a w:=by
  intro fuel
  induction fuel with
  | zero =>
    intro listed a w _ hr hy H
    refine ⟨fun h=>(by rw [h] at hr;cases hr),fun j hj=>?_⟩
    by_cases hji:j = i
    · subst hji;exact (hy.yieldsIf (S:=fun _=>True)).wpOp hi trivial ⟨fun _ h=>h,H⟩
    · have:=ready_mono hj hji
      rw [H.1] at this
      cases this
  | succ fuel ih =>
    intro listed a w hfree hr hy H
    refine ⟨fun h=>(by rw [h] at hr;cases hr),fun j hj=>?_⟩
    by_cases hji:j = i
    · subst hji;exact (hy.yieldsIf (S:=fun _=>True)).wpOp hi trivial ⟨fun _ h=>h,H⟩
    · have h1:=H.2 j (ready_mono hj hji)
      obtain ⟨hjun,oj,hoj,hall⟩:=mem_ready.1 hj
      have JR:=(mem_ready.1 hr).1
      have hnot:∀ e ∈ oj.after,Region.binds md e = true → e.on ≠ i:=fun e he hb heq=>by
        have h1:=hall e he hb
        rw [heq] at h1
        rcases Nat.lt_or_ge i listed.size with h' | h'
        · simp [h'] at JR h1;rw [JR] at h1;cases h1
        · simp [Array.getElem?_eq_none h'] at h1
      have h2:=wpOp_put hoj (hfree j oj hoj hji hjun hnot) (fun cs b=>hsel i oi cs b hi) (fun cs b=>hsel j oj cs b hoj) hQ hy h1
      have hfree':∀ k ok,ops[k]? = some ok → k ≠ i → (listed.setIfInBounds j true).getD k true = false →
          (∀ e ∈ ok.after,Region.binds md e = true → e.on ≠ i) → oi.apart ops ok = true:=fun k ok hk hki hun hno=>by
        refine hfree k ok hk hki ?_ hno
        by_cases hjk:j = k
        · subst hjk;exact hjun
        · rw [getD_set_ne true hjk] at hun;exact hun
      refine wpOp_mono (fun a' w' h3=>⟨h3.2.1,ih (listed.setIfInBounds j true) a' w' hfree' (ready_mono hr (Ne.symm hji)) h3.1 ?_⟩) h2
      rw [Array.setIfInBounds_comm _ _ hji]
      exact h3.2.2
theorem yS {i:Nat} {oi:Oper} {v:Value} {fuel:Nat} {listed:Array Bool} {a:Act} {w:World} (hi:ops[i]? = some oi)
    (hs:Region.noSelect ops = true) (hf:Region.free md ops listed i = true) (hr:(Region.ready md ops listed).contains i = true)
    (hc:Region.uq md ops listed = true) (hl:Region.lastB md ops listed ds i = true)
    (hQ:∀ c a w,Q (.panic c) (a.put oi.dst v) w → Q (.panic c) a w) (hy:YieldsIf P ops S oi v a) (hS:S w)
    (h:dn P md ops Q S ds fuel (listed.setIfInBounds i true) (a.put oi.dst v) w):dn P md ops Q S ds (fuel + 1) listed a w :=
  wJ hi (Region.noSelect_spec hs) hQ ops.size fuel listed a w (Region.free_spec hi hf) (Region.CJ hc)
    (fun d hm hun=>by have:=List.all_eq_true.1 hl d hm;rw [hun] at this;simpa using this) (by simpa using hr) hy hS h
theorem zT {rs:List Nat} {fuel:Nat} {listed:Array Bool} {a:Act} {w:World} (hr:Region.ready md ops listed = rs) (hne:rs ≠ [])
    (h:∀ i ∈ rs,wpOp P ops Q i (fun a' w'=>(i ∉ ds → S w → S w') ∧ dn P md ops Q S ds fuel (listed.setIfInBounds i true) a' w') a w):dn P md ops Q S ds (fuel + 1) listed a w :=
  ⟨fun h0=>absurd (hr ▸ h0) hne,hr ▸ h⟩
theorem yT {listed:Array Bool} {a:Act} {w:World} (hr:Region.ready md ops listed = []) (h:Q .normal a w) :
    ∀ fuel,dn P md ops Q S ds fuel listed a w
  | 0=>⟨hr,h⟩
  | _ + 1=>⟨fun _=>h,by rw [hr];simp⟩
theorem yU {id:Nat} {a:Act} {w:World} (hm:P.follows .mixedOrders = true)
    (h:dn P .any ops Q S ds ops.size (Array.replicate ops.size false) a { w with drawn:=w.drawn + 1 }):(Code.region id ops true).wp P Q a w :=
  wp_region_any hm (rz _ _ _ _ h)
end
section
variable {P : Program} {ops:Array Oper} {Q:Exit → Act → World → Prop} {md:Region.Mode} {S:World → Prop} {ds:List Nat}
def jZ (P:Program) (md:Region.Mode) (ops:Array Oper) (Q:Exit → Act → World → Prop) (S:World → Prop) (ds:List Nat) (fuel:Nat) (listed:Array Bool) (a:Act) (w:World) (rs:List Nat):Prop :=
  ∀ i ∈ rs,wpOp P ops Q i (fun a' w'=>(i ∉ ds → S w → S w') ∧ dn P md ops Q S ds fuel (listed.setIfInBounds i true) a' w') a w
theorem jZ.nil {fuel:Nat} {listed:Array Bool} {a:Act} {w:World}:jZ P md ops Q S ds fuel listed a w []:=fun _ h=>by cases h
theorem jZ.cons {fuel:Nat} {listed:Array Bool} {a:Act} {w:World} {i:Nat} {o:Oper} {rs:List Nat} (ho:ops[i]? = some o) (hd:i ∉ ds)
    (h:∀ K':Act → World → Prop,Shut (∀ a w,S w → (S w → dn P md ops Q S ds fuel (listed.setIfInBounds i true) a w) → K' a w) → if Region.wanted o (yielded ops a.tmps) = true then Oper.wp P o a w K' Q else K' (a.put o.dst undef) w)
    (hs:jZ P md ops Q S ds fuel listed a w rs):jZ P md ops Q S ds fuel listed a w (i :: rs):=fun j hj=>by
  rcases List.mem_cons.1 hj with rfl | hj
  · exact wpOp_step ho (fun K' hK=>h K' (fun a w hS hW=>hK a w ⟨fun _ _=>hS,hW hS⟩))
  · exact hs j hj
theorem wK {rs:List Nat} {fuel:Nat} {listed:Array Bool} {a:Act} {w:World} (hr:Region.ready md ops listed = rs) (hne:rs ≠ [])
    (h:jZ P md ops Q S ds fuel listed a w rs):dn P md ops Q S ds (fuel + 1) listed a w:=zT hr hne h
theorem MV {id n:Nat} {a:Act} {w:World} (l:Array Bool) (hm:P.follows .mixedOrders = true) (hn:ops.size = n) (hl:Array.replicate n false = l) (hS:S w.drew)
    (h:S w.drew → dn P .any ops Q S ds n l a w.drew):(Code.region id ops true).wp P Q a w:=by
  subst hn
  subst hl
  exact yU hm (h hS)
def takeB (md:Region.Mode) (ops:Array Oper) (ds:List Nat) (l l':Array Bool) (i:Nat):Bool :=
  Region.noSelect ops && Region.free md ops l i && (Region.ready md ops l).contains i && Region.uq md ops l && Region.lastB md ops l ds i && (l.setIfInBounds i true == l')
theorem EG {i:Nat} {N:Option Tmp} {oi:Oper} {v:Value} {fuel:Nat} {l:Array Bool} {a:Act} {w:World} (l':Array Bool) (hi:ops[i]? = some oi) (hN:oi.dst = N) (hc:takeB md ops ds l l' i = true)
    (hQ:∀ c a w,Q (.panic c) (a.put oi.dst v) w → Q (.panic c) a w) (hy:YieldsIf P ops S oi v a) (hS:S w) {a':Act} (ha:a.put N v = a')
    (h:dn P md ops Q S ds fuel l' a' w):dn P md ops Q S ds (fuel + 1) l a w:=by
  subst ha
  subst hN
  simp only [takeB,Bool.and_eq_true,beq_iff_eq] at hc
  obtain ⟨⟨⟨⟨⟨h1,h2⟩,h3⟩,h4⟩,h5⟩,h6⟩:=hc
  subst h6
  exact yS hi h1 h2 h3 h4 h5 hQ hy hS h
def Qc (md:Region.Mode) (ops:Array Oper) (l l':Array Bool) (i:Nat):Bool :=
  Region.noSelect ops && Region.free md ops l i && (Region.ready md ops l).contains i && (l.setIfInBounds i true == l')
theorem lS {i:Nat} {N:Option Tmp} {oi:Oper} {v:Value} {fuel:Nat} {l:Array Bool} {a:Act} {w:World} (l':Array Bool) (hi:ops[i]? = some oi) (hN:oi.dst = N) (hc:Qc md ops l l' i = true)
    (hQ:∀ c a w,Q (.panic c) (a.put oi.dst v) w → Q (.panic c) a w) (hy:Yields P ops oi v a) {a':Act} (ha:a.put N v = a')
    (h:dn P md ops Q S ds fuel l' a' w):dn P md ops Q S ds (fuel + 1) l a w:=by
  subst ha
  subst hN
  simp only [Qc,Bool.and_eq_true,beq_iff_eq] at hc
  obtain ⟨⟨⟨h1,h2⟩,h3⟩,h6⟩:=hc
  subst h6
  exact zS hi (Region.noSelect_spec h1) hQ fuel l a w (Region.free_spec hi h2) (by simpa using h3) hy h
def CK (md:Region.Mode) (ops:Array Oper) (l l':Array Bool) (i:Nat):Bool:=(Region.ready md ops l == [i]) && (l.setIfInBounds i true == l')
theorem VD {i:Nat} {N:Option Tmp} {oi:Oper} {fuel:Nat} {l:Array Bool} {a:Act} {w:World} (l':Array Bool) (hi:ops[i]? = some oi) (hN:oi.dst = N) (hc:CK md ops l l' i = true) (hd:i ∉ ds)
    (h:∀ K:Act → World → Prop,Shut (∀ a' w',S w' → (S w' → dn P md ops Q S ds fuel l' a' w') → K a' w') → if Region.wanted oi (yielded ops a.tmps) = true then Oper.wp P oi a w K Q else K (a.put N undef) w) :
    dn P md ops Q S ds (fuel + 1) l a w:=by
  subst hN
  simp only [CK,Bool.and_eq_true,beq_iff_eq] at hc
  obtain ⟨h1,h2⟩:=hc
  subst h2
  exact wK h1 (by simp) (jZ.cons hi hd (fun K hK=>h K hK) jZ.nil)
theorem SI {l:Array Bool} {a:Act} {w:World} {n:Nat} (hr:(Region.ready md ops l == []) = true) (h:Q .normal a w):dn P md ops Q S ds n l a w:=yT (by simpa using hr) h n
theorem SL {fuel:Nat} {l:Array Bool} {a a':Act} {w:World} (ha:a = a') (h:dn P md ops Q S ds fuel l a' w):dn P md ops Q S ds fuel l a w:=by
  subst ha
  exact h
theorem Qd {f:FuncId} {fn:Func} (hf:P.funcs[f]? = some fn) (hname:(fn.name == "runtime.NumGoroutine") = false) (hb:fn.body.isSome = true) (args:Array Value) (w:World):(callFunc f args).run P w = .ok (.enter f args) w:=by
  have h1:fn.name ≠ "runtime.NumGoroutine" := by simpa using hname
  obtain ⟨c,hc⟩:=Option.isSome_iff_exists.1 hb
  simp [callFunc,hf,h1,hc]
theorem bP {rest:List Oper} {oi:Oper} {a:Act} {w:World} (N:Option Tmp) (hd:oi.dst = N) (hg:oi.guard = none) {f:FuncId} {fn:Func} {ZZ9:Array Operand} {ts:Array TypeId} (hf:P.funcs[f]? = some fn) (hname:(fn.name == "runtime.NumGoroutine") = false) (hb:fn.body.isSome = true) (args:Array Value)
    (hop:oi.op = .call { callee:=.value (.func f),args:=ZZ9,argTypes:=ts }) (hargs:ZZ9.map a.eval = args)
    (h:Calls P f args w fun e w'=>∃ v,e = .returned v ∧ wpList P ops Q rest (a.put N v) w'):wpList P ops Q (oi :: rest) a w:=by
  refine wpList_plain hg fun K hK=>?_
  have he:=Qd hf hname hb args w
  have hrun:(execOp a.eval oi).run P w = .ok (.enter f args) w:=by
    unfold execOp
    simp [hop,resolve,Deferred.ofValue,invoke,Act.eval,hargs,he]
  unfold Oper.wp
  rw [hrun,Oper.upon_enter]
  refine h.mono fun e w'' hh=>?_
  obtain ⟨v,rfl,hk⟩:=hh
  subst hd
  exact hK _ _ hk
theorem VE {oi:Oper} {N:Option Tmp} {a:Act} {w w1:World} {v:Value} {K:Act → World → Prop} (hw:Region.wanted oi (yielded ops a.tmps) = true) (hN:oi.dst = N) (hrun:(execOp a.eval oi).run P w = .ok (.value v) w1)
    (h:K (a.put N v) w1):if Region.wanted oi (yielded ops a.tmps) = true then Oper.wp P oi a w K Q else K (a.put N undef) w:=by
  rw [if_pos hw]
  subst hN
  unfold Oper.wp
  rw [hrun]
  exact h
theorem ZI {oi:Oper} {a:Act} {w w1:World} {K:Act → World → Prop} (hw:Region.wanted oi (yielded ops a.tmps) = true) (hN:oi.dst = none) (hrun:(execOp a.eval oi).run P w = .ok .skip w1)
    (h:K a w1):if Region.wanted oi (yielded ops a.tmps) = true then Oper.wp P oi a w K Q else K (a.put none undef) w:=by
  rw [if_pos hw]
  unfold Oper.wp
  rw [hrun]
  show K (a.put oi.dst undef) w1
  rw [hN]
  exact h
theorem gP (n:Int):IntKind.i64.wrap n = Go.RowKit.wrap64 n:=by unfold Go.RowKit.wrap64;exact IntKind.wrap_i64 n
theorem iy (n:Int):IntKind.i32.wrap n = Go.RowKit.wrap32 n:=by unfold Go.RowKit.wrap32;exact IntKind.wrap_i32 n
end
end Go.Proofs.YtdkkgecdhapfhaaW.dL
namespace Go.Proofs.YtdkkgecdhapfhaaW.bD
open Go.RowKit
namespace Kd
def tag {α:Type} (f:Nat → Nat) (d:Kd α):Kd (α × Nat) where
  sz:=d.sz
  E:=d.E
  K:=fun w x cs=>d.K w x.1 cs
  M:=fun w base ok x cs=>d.M w base (fun k=>ok k ∧ f k = x.2) x.1 cs
  oH:=fun h=>d.oH h
  pQ:=fun h=>d.pQ h
  lY:=fun hb h=>d.lY hb h
  jr:=fun h=>d.jr h
  kC:=fun hok h=>d.kC (fun k hk=>⟨hok k hk.1,hk.2⟩) h
  kD:=fun h=>d.kC (fun _ hk=>⟨⟨hk.1.1,hk.2⟩,hk.1.2⟩) (d.kD h)
  mG:=fun hm h=>d.mG (fun k hk=>hm k hk.1) h
  lZ:=fun hb h=>d.lZ hb h
def raw (sz:Nat):Kd (List Value) where
  sz:=sz
  E:=[]
  K:=fun _ x cs=>cs = x ∧ cs.length = sz ∧ ∀ u ∈ cs,u.oneCell' = true
  M:=fun _ _ _ x cs=>cs = x ∧ cs.length = sz ∧ ∀ u ∈ cs,u.oneCell' = true
  oH:=fun h=>h.2.1
  pQ:=fun h=>h.2.2
  lY:=fun _ h=>h
  jr:=fun h=>h
  kC:=fun _ h=>h
  kD:=fun h=>h
  mG:=fun _ h=>h
  lZ:=fun _ h=>h
def S {α:Type} (d:Kd α) (e:Nat) (w:World) (base:Nat) (ok:Nat → Prop) (v:Value) (xs:List α):Prop:=∃ f,(tag f d).R e w base ok v xs.zipIdx
section
variable {α β:Type} {d:Kd α} {d':Kd β} {e e':Nat} {w w1 W:World} {base b:Nat} {ok ok' okv oku:Nat → Prop} {u v:Value} {xs:List α} {ys:List β}
theorem lC (d:Kd α) (e:Nat) (w:World) (base:Nat) (ok:Nat → Prop):S d e w base ok (.slice none 0 0) []:=⟨fun _=>0,jG _ _ _ _ _⟩
end
section
variable {α β:Type} {d:Kd α} {d':Kd β} {e e' g:Nat} {w w1 W:World} {base b:Nat} {ok ok' okv oku:Nat → Prop} {u v:Value} {xs:List α} {ys:List β}
end
section
open Classical in
variable {P : Program} {ops:Array Oper} {rest:List Oper} {o:Oper} {a:Act} {Q:Exit → Act → World → Prop} {Kc:Act → World → Prop} {α:Type}
end
def gap {α:Type} (f:Nat → Nat) (d:Kd α) (i:Nat) (c:List Value):Kd (α × Nat) where
  sz:=d.sz
  E:=d.E
  K:=fun w x cs=>(x.2 = i → cs = c ∧ cs.length = d.sz ∧ ∀ u ∈ cs,u.oneCell' = true) ∧ (x.2 ≠ i → d.K w x.1 cs)
  M:=fun w base ok x cs=>(x.2 = i → cs = c ∧ cs.length = d.sz ∧ ∀ u ∈ cs,u.oneCell' = true) ∧ (x.2 ≠ i → d.M w base (fun k=>ok k ∧ f k = x.2) x.1 cs)
  oH:=fun {w x cs} h=>by
    by_cases hx:x.2 = i
    · exact (h.1 hx).2.1
    · exact d.oH (h.2 hx)
  pQ:=fun {w x cs} h=>by
    by_cases hx:x.2 = i
    · exact (h.1 hx).2.2
    · exact d.pQ (h.2 hx)
  lY:=fun hb h=>⟨h.1,fun hx=>d.lY hb (h.2 hx)⟩
  jr:=fun h=>⟨h.1,fun hx=>d.jr (h.2 hx)⟩
  kC:=fun hok h=>⟨h.1,fun hx=>d.kC (fun k hk=>⟨hok k hk.1,hk.2⟩) (h.2 hx)⟩
  kD:=fun h=>⟨h.1,fun hx=>d.kC (fun _ hk=>⟨⟨hk.1.1,hk.2⟩,hk.1.2⟩) (d.kD (h.2 hx))⟩
  mG:=fun hm h=>⟨h.1,fun hx=>d.mG (fun k hk=>hm k hk.1) (h.2 hx)⟩
  lZ:=fun hb h=>⟨h.1,fun hx=>d.lZ hb (h.2 hx)⟩
def H {α:Type} (d:Kd α) (e:Nat) (w:World) (base:Nat) (ok:Nat → Prop) (v:Value) (xs:List α) (i:Int) (ZJ:Nat → Prop) (c:List Value):Prop :=
  (∀ k,ZJ k → ok k) ∧ ∃ f,(gap f d i.toNat c).R e w base (fun k=>ok k ∧ ¬ ZJ k) v xs.zipIdx
section
variable {α β:Type} {d:Kd α} {e e' g n cap:Nat} {w w1 W:World} {base:Nat} {ok ok' ZJ JO:Nat → Prop} {u v:Value} {xs:List α} {i:Int} {c:List Value}
open Classical in
end
section
variable {P : Program} {ops:Array Oper} {rest:List Oper} {o:Oper} {a:Act} {Q:Exit → Act → World → Prop} {α:Type}
end
end Kd
end Go.Proofs.YtdkkgecdhapfhaaW.bD
namespace Go.Proofs.YtdkkgecdhapfhaaW.bD
open Go.RowKit
namespace Kd
structure Heap {α:Type} (d:Kd α):Prop where
  K:∀ {w w1:World} {x:α} {cs:List Value},(∀ k,k < w.heap.size → w1.heap[k]? = w.heap[k]?) → d.K w x cs → d.K w1 x cs
theorem JU {w w1:World} (hb:∀ k,k < w.heap.size → w1.heap[k]? = w.heap[k]?) {a:Addr} {v:Value} (h:w.cell? a = some v):w1.cell? a = some v:=by
  have:=hb a.block (World.block_lt_of_cell? w a h)
  simpa [World.cell?,this] using h
theorem Heap.C {α:Type} {d:Kd α} (hd:Heap d) {w w1:World} {A:Option Addr} {n:Nat} {xs:List α} (hb:∀ k,k < w.heap.size → w1.heap[k]? = w.heap[k]?) (h:d.C w A n xs):d.C w1 A n xs :=
  ⟨h.1,h.2.1,fun hn=>by
    obtain ⟨ad,e,hc⟩:=h.2.2 hn
    refine ⟨ad,e,fun j p hj=>?_⟩
    obtain ⟨c,hs,hr,hcell⟩:=hc j p hj
    exact ⟨c,hs,hd.K hb hr,fun i u hu=>JU hb (hcell i u hu)⟩⟩
section
variable {α : Type} {d:Kd α} {e base g n c:Nat} {ok:Nat → Prop} {w w0 W:World} {A:Option Addr} {xs:List α}
end
end Kd
end Go.Proofs.YtdkkgecdhapfhaaW.bD
namespace Go.Proofs.YtdkkgecdhapfhaaW.bD
open Go.RowKit
def Kept (w W:World) (S:Nat → Prop):Prop:=w.heap.size ≤ W.heap.size ∧ ∀ i,i < w.heap.size → ¬ S i → W.heap[i]? = w.heap[i]?
section
variable {w W W2:World} {S S2 S':Nat → Prop}
theorem Kept.refl (w:World) (S:Nat → Prop):Kept w w S:=⟨Nat.le_refl _,fun _ _ _=>rfl⟩
theorem Kept.of_below (h:Below w.heap.size w W) (S:Nat → Prop):Kept w W S:=⟨h.size,fun i hi _=>h.block i hi⟩
theorem Kept.mono (h:Kept w W S) (hs:∀ k,S k → S' k):Kept w W S':=⟨h.1,fun i hi hn=>h.2 i hi (fun hk=>hn (hs i hk))⟩
theorem Kept.then_ (h:Kept w W S) (k:Kept W W2 S2) (hs:∀ k,S2 k → S k ∨ w.heap.size ≤ k):Kept w W2 S :=
  ⟨Nat.le_trans h.1 k.1,fun i hi hn=>(k.2 i (Nat.lt_of_lt_of_le hi h.1) (fun h2=>(hs i h2).elim hn (fun h3=>by omega))).trans (h.2 i hi hn)⟩
theorem Kept.below (h:Kept w W S) (hb:Below W.heap.size W W2):Kept w W2 S:=h.then_ (Kept.of_below hb (fun _=>False)) (fun _ hk=>hk.elim)
theorem Kept.alloc (h:Kept w W S) (o:Obj):Kept w (W.alloc o) S:=h.below (ak (Below.refl _ _) o)
theorem Kept.drew (h:Kept w W S):Kept w W.drew S:=h
theorem Kept.drewN (h:Kept w W S) (m:Nat):Kept w (W.drewN m) S:=h
theorem Kept.setCell (h:Kept w W S) {p:Addr} (hp:S p.block ∨ w.heap.size ≤ p.block) (u:Value):Kept w (W.setCell p u) S :=
  h.then_ (S2:=fun k=>k = p.block) ⟨by simp [World.setCell],fun i _ hn=>Below.heap_setCell W p u i hn⟩ (fun k hk=>by rw [hk];exact hp)
theorem Kept.keep {g:Nat} (h:gW w W g none) (k:Kept W W2 S2) (hs:∀ k,S2 k → w.heap.size ≤ k):gW w W2 g none :=
  ⟨Nat.le_trans h.1 k.1,fun i hi hg hr=>(k.2 i (Nat.lt_of_lt_of_le hi h.1) (fun h2=>by have:=hs i h2;omega)).trans (h.2 i hi hg hr)⟩
end
namespace Kd
section
variable {α : Type} {d:Kd α} {e base n c:Nat} {ok ZJ S S2:Nat → Prop} {w w0 W W1 W2:World} {v:Value} {A:Option Addr} {xs:List α} {i:Int} {cs:List Value}
end
end Kd
end Go.Proofs.YtdkkgecdhapfhaaW.bD
namespace Go.Proofs.YtdkkgecdhapfhaaW.bD
open Go.RowKit
def rY (P:World → Prop) (W:World) (ok:Nat → Prop):Prop:=∀ W':World,(∀ k,ok k → k < W.heap.size → W'.heap[k]? = W.heap[k]?) → P W'
theorem Qe {W W1:World} {k:Nat} (h:W1.heap[k]? = W.heap[k]?) (hlt:k < W.heap.size):k < W1.heap.size:=by
  rw [Array.getElem?_eq_getElem hlt] at h
  exact (Array.getElem?_eq_some_iff.1 h).1
namespace rY
variable {P Q:World → Prop} {W W1:World} {ok ok':Nat → Prop}
theorem now (h:rY P W ok):P W:=h W (fun _ _ _=>rfl)
theorem mono (h:rY P W ok) (hok:∀ k,ok k → ok' k):rY P W ok':=fun W' hW=>h W' (fun k hk hlt=>hW k (hok k hk) hlt)
theorem bound (h:rY P W ok):rY P W (fun k=>ok k ∧ k < W.heap.size):=fun W' hW=>h W' (fun k hk hlt=>hW k ⟨hk,hlt⟩ hlt)
theorem step (h:rY P W ok) (hm:∀ k,ok k → k < W.heap.size → W1.heap[k]? = W.heap[k]?):rY P W1 ok:=fun W' hW=>h W' (fun k hk hlt=>(hW k hk (Qe (hm k hk hlt) hlt)).trans (hm k hk hlt))
theorem imp (h:rY P W ok) (hi:∀ W',P W' → Q W'):rY Q W ok:=fun W' hW=>hi W' (h W' hW)
theorem old (h:rY P W ok) (hb:Below W.heap.size W W1):rY P W1 (fun k=>ok k ∧ k < W.heap.size):=(h.bound).step (fun k _ hlt=>hb.block k hlt)
end rY
namespace Kd
def F {α:Type} (d:Kd α) (W:World) (ok:Nat → Prop) (A:Option Addr) (n:Nat) (xs:List α):Prop:=rY (fun W=>d.C W A n xs) W ok
def FK {α:Type} (d:Kd α) (W:World) (ok:Nat → Prop) (x:α) (c:List Value):Prop:=rY (fun W=>d.K W x c) W ok
section
variable {α β:Type} {d:Kd α} {e base n n' cc g N:Nat} {ok ok' JO S:Nat → Prop} {w w0 w1 W W1:World} {A A':Option Addr} {u v v1:Value} {xs:List α} {xs':List β} {d':Kd β} {x:α} {c:List Value}
theorem ZK (d:Kd α) (W:World) (ok:Nat → Prop):F d W ok none ([]:List α).length []:=fun W' _=>ZE d W'
theorem Qf (h:d.M W base ok x c):FK d W ok x c:=fun _ hW=>d.jr (Vx h hW)
end
end Kd
end Go.Proofs.YtdkkgecdhapfhaaW.bD
namespace Go.Proofs.YtdkkgecdhapfhaaW.bD
open Go.RowKit
namespace Kd
def chunks (sz:Nat) (n:Nat) (inner:List Value):List (List Value):=(List.range n).map fun j=>(inner.drop (j * sz)).take sz
theorem jR (sz n:Nat) (inner:List Value):(chunks sz n inner).length = n:=by simp [chunks]
theorem JV {sz n:Nat} {inner:List Value} {j:Nat} (hj:j < n):(chunks sz n inner)[j]? = some ((inner.drop (j * sz)).take sz):=by simp [chunks,hj]
theorem yV {sz n:Nat} {inner:List Value} {j:Nat} {c:List Value} (h:(chunks sz n inner)[j]? = some c):c = (inner.drop (j * sz)).take sz:=by
  have hj:j < n:=by have:=(List.getElem?_eq_some_iff.1 h).1;rwa [jR] at this
  rw [JV hj] at h
  injection h with h
  exact h.symm
theorem MW {α:Type} {Rr:α → List Value → Prop} {sz:Nat} {xs:List α} {inner:List Value} (h:fP Rr sz xs inner) (hR:∀ x c,Rr x c → c.length = sz ∧ ∀ u ∈ c,u.oneCell' = true):fP (fun x cs=>cs = x ∧ cs.length = sz ∧ ∀ u ∈ cs,u.oneCell' = true) sz (chunks sz xs.length inner) inner:=by
  refine ⟨by rw [jR];exact h.1,fun j p hj=>?_⟩
  have hjl:j < xs.length:=by have:=(List.getElem?_eq_some_iff.1 hj).1;rwa [jR] at this
  have hp:=yV hj
  exact ⟨hp.symm,hR _ _ (h.2 j _ (List.getElem?_eq_getElem hjl))⟩
section
variable {α : Type} {d:Kd α} {e base n cc g:Nat} {ok ok' JO S:Nat → Prop} {w w1 W W1:World} {A:Option Addr} {u v v1:Value} {xs:List α} {x:α} {c:List Value}
def N {α:Type} (d:Kd α) (e:Nat) (w:World) (base:Nat) (ok:Nat → Prop) (v:Value) (xs:List α):Prop :=
  (∀ k,v.ownBlock = some k → ok k) ∧ ∃ rows:List (List Value),rows.length = xs.length ∧ (raw d.sz).R e w base (fun k=>some k = v.ownBlock) v rows ∧ ∀ (j:Nat) (x:α) (c:List Value),xs[j]? = some x → rows[j]? = some c → FK d w (fun k=>ok k ∧ some k ≠ v.ownBlock) x c
theorem R_N (h:d.R e w base ok v xs):N d e w base ok v xs:=by
  obtain ⟨h0,inner,ho,hr⟩:=h
  refine ⟨h0,chunks d.sz xs.length inner,jR _ _ _,⟨fun k hk=>hk.symm,inner,by rw [jR];exact ho,MW hr (fun x c hp=>⟨d.oH (d.jr hp),d.pQ (d.jr hp)⟩)⟩,fun j x c hx hc=>?_⟩
  rw [yV hc]
  exact Qf (hr.2 j x hx)
theorem lD (d:Kd α) (e:Nat) (w:World) (base:Nat) (ok:Nat → Prop):N d e w base ok (.slice none 0 0) []:=R_N (jG _ _ _ _ _)
end
end Kd
end Go.Proofs.YtdkkgecdhapfhaaW.bD
namespace Go.Proofs.YtdkkgecdhapfhaaW.eP
open Go.RowKit Go.Proofs.YtdkkgecdhapfhaaW.bD
namespace Kd
open Go.Proofs.YtdkkgecdhapfhaaW.bD.Kd
end Kd
namespace Kd
open Go.Proofs.YtdkkgecdhapfhaaW.bD.Kd
section
variable {α : Type} {d:Kd α} {e base g N:Nat} {ok:Nat → Prop} {W w1:World} {u v:Value} {xs:List α}
end
end Kd
theorem jv (k k':IntKind) (x y:Int):Builtin.max2 (.int k x) (.int k' y) = pure (.int k (if x < y then y else x)):=by simp only [Builtin.max2,gt_iff_lt]
theorem jw (k k':IntKind) (x y:Int):Builtin.min2 (.int k x) (.int k' y) = pure (.int k (if y < x then y else x)):=by simp only [Builtin.min2]
theorem kF (ats:Array TypeId) (ty:TypeId) (a b:Value):Builtin.max_ ats ty #[a,b] = (Builtin.max2 a b >>= fun s=>pure s):=by simp only [Builtin.max_,List.foldlM_cons,List.foldlM_nil]
theorem kG (ats:Array TypeId) (ty:TypeId) (a b:Value):Builtin.min_ ats ty #[a,b] = (Builtin.min2 a b >>= fun s=>pure s):=by simp only [Builtin.min_,List.foldlM_cons,List.foldlM_nil]
theorem iG (ats:Array TypeId) (ty:TypeId) (a b c:Value):Builtin.max_ ats ty #[a,b,c] = (Builtin.max2 a b >>= fun s=>Builtin.max2 s c >>= fun s=>pure s):=by simp only [Builtin.max_,List.foldlM_cons,List.foldlM_nil]
theorem iH (ats:Array TypeId) (ty:TypeId) (a b c:Value):Builtin.min_ ats ty #[a,b,c] = (Builtin.min2 a b >>= fun s=>Builtin.min2 s c >>= fun s=>pure s):=by simp only [Builtin.min_,List.foldlM_cons,List.foldlM_nil]
theorem jy (ats:Array TypeId) (ty:TypeId) (a b c d:Value):Builtin.max_ ats ty #[a,b,c,d] = (Builtin.max2 a b >>= fun s=>Builtin.max2 s c >>= fun s=>Builtin.max2 s d >>= fun s=>pure s):=by simp only [Builtin.max_,List.foldlM_cons,List.foldlM_nil]
theorem jA (ats:Array TypeId) (ty:TypeId) (a b c d:Value):Builtin.min_ ats ty #[a,b,c,d] = (Builtin.min2 a b >>= fun s=>Builtin.min2 s c >>= fun s=>Builtin.min2 s d >>= fun s=>pure s):=by simp only [Builtin.min_,List.foldlM_cons,List.foldlM_nil]
end Go.Proofs.YtdkkgecdhapfhaaW.eP
namespace Go.Proofs.YtdkkgecdhapfhaaW.bD
open Go.RowKit
section
variable {P : Program} {ops:Array Oper} {rest:List Oper} {o:Oper} {a:Act} {Q:Exit → Act → World → Prop} {W:World}
theorem aQ {f:FuncId} {ZZ9:Array Operand} {ts:Array TypeId} (_ho:o.op = .call { callee:=.value (.func f),args:=ZZ9,argTypes:=ts }) (h:wpList P ops Q (o :: rest) a W):wpList P ops Q (o :: rest) a W:=h
theorem oh {b:Builtin} {xs:Array Operand} {ts:Array TypeId} (_ho:o.op = .call { callee:=.builtin b,args:=xs,argTypes:=ts }) (h:wpList P ops Q (o :: rest) a W):wpList P ops Q (o :: rest) a W:=h
end
def mx (a b:Int):Int:=if a < b then b else a
def mn (a b:Int):Int:=if b < a then b else a
def shl (k:IntKind) (x y:Int):Int:=k.wrap (x * 2 ^ min y.toNat k.bits)
def shr (k:IntKind) (x y:Int):Int:=x / 2 ^ min y.toNat k.bits
namespace Kd
section
variable {α : Type} {d:Kd α} {e base:Nat} {ok:Nat → Prop} {W w1:World} {v:Value} {xs:List α}
end
section
variable {α : Type} {d:Kd α} {e base g n cap:Nat} {ok ZJ JO:Nat → Prop} {W:World} {xs:List α} {i:Int} {c:List Value}
end
section
variable {α : Type} {d:Kd α} {e base b b' g N:Nat} {ok ok1:Nat → Prop} {W W2 w1:World} {u v:Value} {xs ys:List α} {S:Nat → Prop}
end
end Kd
end Go.Proofs.YtdkkgecdhapfhaaW.bD
namespace Go.Proofs.YtdkkgecdhapfhaaW.bD
open Go.RowKit
namespace Kd
def V {α:Type} (d:Kd α) (_e:Nat) (W:World) (_base:Nat) (ok:Nat → Prop) (v:Value) (xs:List α):Prop:=∃ A c,v = .slice A xs.length c ∧ xs.length ≤ c ∧ F d W ok A xs.length xs
section
variable {α β:Type} {d:Kd α} {e base base' n m c g N' lo hi:Nat} {ok ok' S:Nat → Prop} {w W w1:World} {A:Option Addr} {ad:Addr} {u v v1:Value} {xs:List α}
theorem bZ (h:V d e W base ok v xs) (hF:∀ A,F d W ok A xs.length xs → F d w1 ok' A xs.length xs):V d e w1 base' ok' v xs:=by
  obtain ⟨A,c,hv,hl,hf⟩:=h
  exact ⟨A,c,hv,hl,hF A hf⟩
theorem lF (d:Kd α) (e:Nat) (W:World) (base:Nat) (ok:Nat → Prop):V d e W base ok (.slice none 0 0) []:=⟨none,0,rfl,Nat.le_refl _,ZK d W ok⟩
end
end Kd
end Go.Proofs.YtdkkgecdhapfhaaW.bD
namespace Go.Proofs.Ytdkkgecdhapfhaa.B
open Go.RowKit Go.Proofs.YtdkkgecdhapfhaaW.bD
theorem dQ {n:Int} (h0:-9223372036854775808 ≤ n) (h1:n ≤ 9223372036854775807):wrap64 n = n:=by unfold wrap64;omega
theorem toList_inj {s t:ByteArray}:s.toList = t.toList ↔ s = t:=by
  constructor
  · intro h
    rw [Lib.toList_data,Lib.toList_data] at h
    exact ByteArray.ext (Array.toList_inj.mp h)
  · rintro rfl;rfl
theorem toList_nil {s:ByteArray}:s.toList = ([]:List UInt8) ↔ s.size = 0:=by
  rw [Lib.toList_data]
  constructor
  · intro h
    show s.data.size = 0
    rw [← Array.length_toList,h];rfl
  · intro h
    have h':s.data.size = 0:=h
    rw [← Array.length_toList] at h'
    exact List.eq_nil_of_length_eq_zero h'
theorem eq_empty {s:ByteArray} (h:s.size = 0):s = ⟨#[]⟩:=toList_inj.mp ((toList_nil.mpr h).trans (toList_nil.mpr rfl).symm)
theorem oo (s:ByteArray) (i:Int):bt s i = ((s.data.toList[i.toNat]?.getD 0).toNat:Int):=by
  unfold bt
  by_cases h:i.toNat < s.size
  · rw [dif_pos h]
    have h':i.toNat < s.data.toList.length:=by rw [Array.length_toList];exact h
    rw [List.getElem?_eq_getElem h']
    rfl
  · rw [dif_neg h]
    have h':¬ i.toNat < s.data.toList.length:=by rw [Array.length_toList];exact h
    rw [List.getElem?_eq_none (by omega)]
    rfl
theorem yX {a b:ByteArray} {i:Int} (h0:0 ≤ i) (h:i < (a.size:Int)):bt (a ++ b) i = bt a i:=by
  rw [oo,oo,ByteArray.data_append,Array.toList_append,List.getElem?_append_left]
  rw [Array.length_toList];show i.toNat < a.size;omega
theorem mH {s:ByteArray} {a b:Nat} {j:Int} (hj:0 ≤ j) (h:j < ((s.extract a b).size:Int)):bt (s.extract a b) j = bt s (a + j):=by
  have h':=h
  simp only [ByteArray.size_extract] at h'
  rw [oo,oo,Lib.extract_data,List.getElem?_take,if_pos (by omega),List.getElem?_drop]
  rw [show a + j.toNat = ((a:Int) + j).toNat from by omega]
theorem Gs {s t:ByteArray} (hz:s.size = t.size) (h:∀ i:Int,0 ≤ i → i < (s.size:Int) → bt s i = bt t i):s = t:=by
  have es:s.data.toList.length = s.size:=by rw [Array.length_toList];rfl
  have et:t.data.toList.length = t.size:=by rw [Array.length_toList];rfl
  refine ByteArray.ext (Array.toList_inj.mp (List.ext_getElem (by omega) fun i h1 h2=>?_))
  have:=h i (by omega) (by omega)
  rw [oo,oo] at this
  have e:((i:Int)).toNat = i:=by omega
  rw [e,List.getElem?_eq_getElem h1,List.getElem?_eq_getElem h2] at this
  exact UInt8.toNat_inj.mp (Int.ofNat.inj this)
theorem Qg (xs:List Int) (i:Int) (h:∀ x ∈ xs,0 ≤ x ∧ x ≤ 255):bt (strOfNums xs) i = xs[i.toNat]?.getD 0:=by
  rw [oo,strOfNums_data,List.getElem?_map]
  by_cases hi:i.toNat < xs.length
  · rw [List.getElem?_eq_getElem hi]
    have:=h _ (List.getElem_mem hi)
    simp [UInt8.toNat_ofNat']
    omega
  · rw [List.getElem?_eq_none (by omega)]
    rfl
theorem uy (a b:ByteArray):(a ++ b).extract a.size (a ++ b).size = b:=by
  rw [ByteArray.extract_append]
  have e:a.extract a.size (a ++ b).size = ⟨#[]⟩:=eq_empty (by simp only [ByteArray.size_extract];omega)
  rw [e,ByteArray.size_append,show a.size - a.size = 0 from by omega,show a.size + b.size - a.size = b.size from by omega,ByteArray.extract_zero_size]
  exact ByteArray.ext (by rw [ByteArray.data_append];simp)
theorem empty_append (s:ByteArray):(⟨#[]⟩:ByteArray) ++ s = s:=by
  refine ByteArray.ext ?_
  rw [ByteArray.data_append];simp
theorem append_empty (s:ByteArray):s ++ (⟨#[]⟩:ByteArray) = s:=by
  refine ByteArray.ext ?_
  rw [ByteArray.data_append];simp
theorem EI : (⟨#[]⟩:ByteArray).size = 0:=rfl
theorem size_ext {s:ByteArray} {i n:Int} (h0:0 ≤ i) (hn:0 ≤ n) (hs:i + n ≤ (s.size:Int)):((s.extract i.toNat (i + n).toNat).size:Int) = n:=by
  simp only [ByteArray.size_extract];omega
theorem MX {s:ByteArray} {i n j:Int} (h0:0 ≤ i) (hj:0 ≤ j) (hn:j < n) (hs:i + n ≤ (s.size:Int)):bt (s.extract i.toNat (i + n).toNat) j = bt s (i + j):=by
  rw [mH hj (by rw [size_ext h0 (by omega) hs];exact hn)]
  congr 1
  omega
theorem aV (a b:Bool):(a == !b) = (a != b):=by cases a <;> cases b <;> rfl
theorem aW (a b:Bool):(a != !b) = (a == b):=by cases a <;> cases b <;> rfl
section
open Go
variable {P : Program} {d c j:Nat} {e:TypeId} {xs ys:Array Value} {js:List Nat} {a b:Value} {r s:Bool} {w:World}
theorem MZ (ha:(part e xs (j * c)).run P w = .ok a w) (hb:(part e ys (j * c)).run P w = .ok b w) (he:(Op.equalIn d e a b).run P w = .ok r w):(Op.eqItems d e c xs ys [j]).run P w = .ok r w:=by
  simp only [Op.eqItems,Sem.run_bind,ha,hb,he,Result.andThen_ok]
  cases r <;> simp
theorem EJ (ha:(part e xs (j * c)).run P w = .ok a w) (hb:(part e ys (j * c)).run P w = .ok b w) (he:(Op.equalIn d e a b).run P w = .ok r w) (hr:(Op.eqItems d e c xs ys js).run P w = .ok s w):(Op.eqItems d e c xs ys (j :: js)).run P w = .ok (r && s) w:=by
  rw [Op.eqItems]
  simp only [Sem.run_bind,ha,hb,he,Result.andThen_ok]
  cases r
  · simp
  · simpa using hr
theorem M0 {t:TypeId} {n:Nat} (hu:P.underlying t = some (.array n e)) (hi:(P.info? e).isSome = true) (hc:P.cellsOf e = 1) (h:(Op.eqItems d e 1 xs ys (List.range n)).run P w = .ok r w):(Op.equalIn (d + 1) t (.agg xs) (.agg ys)).run P w = .ok r w:=by
  obtain ⟨i,hi⟩:=Option.isSome_iff_exists.mp hi
  rw [run_equalIn_array (P:=P) w d xs ys hu hi,hc]
  exact h
end
end Go.Proofs.Ytdkkgecdhapfhaa.B
namespace Go.Proofs.Ytdkkgecdhapfhaa.B
open Go.RowKit Go.Proofs.YtdkkgecdhapfhaaW.bD
def wh (w:World) (g:Nat) (xs:List Int):Prop:=∀ j,j < xs.length → w.cell? ⟨g,j,none⟩ = some (.int .u8 (xs.getD j 0)) ∧ w.frozen? ⟨g,j,none⟩ = false
def iP (c:Int):Int:=if 65 ≤ c ∧ c ≤ 90 then c + 32 else c
def numsOf (s:ByteArray):List Int:=s.data.toList.map fun b=>(b.toNat:Int)
theorem numsOf_length (s:ByteArray):(numsOf s).length = s.size:=by simp [numsOf]
theorem numsOf_at (s:ByteArray) (j:Nat):(numsOf s).getD j 0 = bt s j:=by
  rw [oo,numsOf,List.getD_eq_getElem?_getD,List.getElem?_map]
  rw [show ((j:Int)).toNat = j from by omega]
  cases s.data.toList[j]? <;> rfl
def oK (s:ByteArray):ByteArray:=strOfNums ((numsOf s).map iP)
def iV (k:Nat) (xs:List Int):List Int:=(xs.take k).map iP ++ xs.drop k
theorem gL (k:Nat) (xs:List Int):(iV k xs).length = xs.length:=by simp [iV];omega
theorem yY (xs:List Int):iV 0 xs = xs:=by simp [iV]
theorem AQ (xs:List Int):iV xs.length xs = xs.map iP:=by simp [iV]
theorem EK (k:Nat) (xs:List Int) (h:k < xs.length):(iV k xs).getD k 0 = xs.getD k 0:=by
  simp only [iV,List.getD_eq_getElem?_getD]
  rw [List.getElem?_append_right (by simp;omega)]
  simp only [List.length_map,List.length_take,List.getElem?_drop]
  congr 2
  omega
theorem vG (k:Nat) (xs:List Int) (h:k < xs.length):(iV k xs).set k (iP (xs.getD k 0)) = iV (k + 1) xs:=by
  apply List.ext_getElem?
  intro i
  rw [List.getElem?_set]
  have hl:=gL k xs
  by_cases e:k = i
  · subst e
    rw [if_pos rfl,if_pos (by omega)]
    simp only [iV]
    rw [List.getElem?_append_left (by simp;omega),List.getElem?_map,List.getElem?_take,if_pos (by omega),List.getD_eq_getElem?_getD,List.getElem?_eq_getElem h]
    rfl
  · rw [if_neg e]
    simp only [iV]
    by_cases h2:i < k
    · rw [List.getElem?_append_left (by simp;omega),List.getElem?_append_left (by simp;omega),List.getElem?_map,List.getElem?_map,List.getElem?_take,List.getElem?_take,if_pos h2,if_pos (by omega)]
    · by_cases h3:i < xs.length
      · rw [List.getElem?_append_right (by simp;omega),List.getElem?_append_right (by simp;omega),List.getElem?_drop,List.getElem?_drop]
        congr 1
        simp only [List.length_map,List.length_take]
        omega
      · rw [List.getElem?_eq_none (by simp;omega),List.getElem?_eq_none (by simp;omega)]
theorem AU (s:ByteArray) (k:Nat):0 ≤ bt s k ∧ bt s k ≤ 255:=gB s k
theorem yZ (w:World) (e:TypeId) (s:ByteArray):wh (Lib.bytesWorld w e s) w.heap.size (numsOf s):=by
  intro j hj
  rw [numsOf_length] at hj
  refine ⟨?_,?_⟩
  · rw [Lib.bytesWorld_cell w e s j hj,numsOf_at,oo,List.getD_eq_getElem?_getD]
    rfl
  · have hlt:j < (Lib.bytesCells w e s).size:=by
      have:s.size ≤ (Lib.bytesCells w e s).size:=by simp [Lib.bytesCells]
      omega
    simp [World.frozen?,Lib.bytesWorld_at_new]
    omega
theorem rowAt_set {w:World} {g:Nat} {xs:List Int} (h:wh w g xs) (k:Nat) (v:Int) (hk:k < xs.length):wh (w.setCell ⟨g,k,none⟩ (.int .u8 v)) g (xs.set k v):=by
  intro j hj
  rw [List.length_set] at hj
  obtain ⟨h1,h2⟩:=h j hj
  refine ⟨?_,by rw [World.frozen?_setCell];exact h2⟩
  by_cases e:j = k
  · subst e
    rw [World.cell?_setCell_same w _ _ h1]
    simp [List.getD_eq_getElem?_getD,hj]
  · rw [World.cell?_setCell_other w _ _ _ (by intro hc;injection hc with _ h3 _;exact e h3.symm),h1]
    simp [List.getD_eq_getElem?_getD,List.getElem?_set,Ne.symm e]
theorem y5 {B:Nat} {a w:World} (h:Below B a w) (hB:B ≤ w.heap.size) (e:TypeId) (s:ByteArray):Below B a (Lib.bytesWorld w e s) :=
  ⟨h.os,h.tape,h.output,by rw [Lib.bytesWorld_size];have:=h.size;omega,fun k hk=>(Lib.bytesWorld_at_old w e s k (by omega)).trans (h.block k hk)⟩
end Go.Proofs.Ytdkkgecdhapfhaa.B
namespace Go.Proofs.Ytdkkgecdhapfhaa.B
open Go.RowKit Go.Proofs.YtdkkgecdhapfhaaW.bD
def sg (b:Int):ByteArray:=strOfNums [b]
def root : ByteArray:=⟨#[0]⟩
theorem qz (b:Int):(sg b).size = 1:=by unfold sg;rw [strOfNums_size];rfl
theorem kX : root.size = 1:=rfl
theorem M4 (b:Int) (h:0 ≤ b ∧ b ≤ 255):bt (sg b) 0 = b:=by
  unfold sg;rw [Qg [b] 0 (by simpa using h)];rfl
theorem Il : bt root 0 = 0:=by decide
def zU : List ByteArray → ByteArray
  | []=>⟨#[]⟩
  | x :: l=>sg x.size ++ x ++ zU l
def enc (l:List ByteArray):ByteArray:=zU l ++ root
def JW (x:ByteArray):Prop:=1 ≤ x.size ∧ x.size ≤ 63
instance (x : ByteArray):Decidable (JW x):=by unfold JW;infer_instance
theorem Im : enc [] = root:=empty_append _
theorem y7 (x:ByteArray) (l:List ByteArray):enc (x :: l) = sg x.size ++ x ++ enc l:=by unfold enc;rw [zU,ByteArray.append_assoc]
theorem EL (l m:List ByteArray):zU (l ++ m) = zU l ++ zU m:=by
  induction l with
  | nil=>simp only [List.nil_append,zU];exact (empty_append _).symm
  | cons x l ih=>simp only [List.cons_append,zU,ih,ByteArray.append_assoc]
theorem oq (l:List ByteArray):1 ≤ (enc l).size:=by unfold enc;rw [ByteArray.size_append,kX];omega
theorem VF {b:Int} {x r:ByteArray} (h:0 ≤ b ∧ b ≤ 255):bt (sg b ++ x ++ r) 0 = b:=by
  rw [ByteArray.append_assoc,yX (by omega) (by rw [qz];omega),M4 b h]
theorem JX {b:Int} {x r:ByteArray}:(sg b ++ x ++ r).extract 1 (1 + x.size) = x:=by
  rw [ByteArray.append_assoc,show (1:Nat) = (sg b).size + 0 from by rw [qz],show (sg b).size + 0 + x.size = (sg b).size + x.size from by omega,ByteArray.extract_append_size_add,ByteArray.extract_append_eq_left rfl]
theorem M5 {b:Int} {x r:ByteArray}:(sg b ++ x ++ r).extract (1 + x.size) (sg b ++ x ++ r).size = r:=by
  have:(sg b ++ x).size = 1 + x.size:=by rw [ByteArray.size_append,qz]
  have h:=uy (sg b ++ x) r
  rw [this] at h
  exact h
theorem pV {b:Int} {x r:ByteArray}:(sg b ++ x ++ r).size = 1 + x.size + r.size:=by simp only [ByteArray.size_append,qz]
theorem ZL (n:ByteArray) (k:Nat) (hk:(k:Int) = bt n 0) (hlt:1 + k ≤ n.size):n = sg k ++ n.extract 1 (1 + k) ++ n.extract (1 + k) n.size:=by
  have h1:n.extract 0 1 = sg k:=by
    have hz:(n.extract 0 1).size = 1:=by rw [ByteArray.size_extract];omega
    refine Gs (by rw [hz,qz]) fun i h0 hi=>?_
    have:i = 0:=by omega
    subst this
    have hr:=gB n 0
    rw [mH (by omega) (by rw [hz];omega),M4 _ (by omega),hk]
    rfl
  rw [← h1,ByteArray.extract_append_extract,show min 0 1 = 0 from rfl,show max 1 (1 + k) = 1 + k from by omega,ByteArray.extract_append_extract]
  rw [show min 0 (1 + k) = 0 from by omega,show max (1 + k) n.size = n.size from by omega,ByteArray.extract_zero_size]
def jS : Nat → ByteArray → Option (List ByteArray)
  | 0,_=>none
  | k + 1,n =>
    if n.size = 0 then none
    else if n = root then some []
    else if 1 ≤ bt n 0 ∧ bt n 0 ≤ 63 ∧ bt n 0 + 1 < (n.size:Int) then
      (jS k (n.extract (1 + (bt n 0).toNat) n.size)).map (n.extract 1 (1 + (bt n 0).toNat) :: ·)
    else none
theorem lG : ∀ (k:Nat) (n:ByteArray) (l:List ByteArray),jS k n = some l → n = enc l ∧ ∀ x ∈ l,JW x
  | 0,_,_,h=>by simp [jS] at h
  | k + 1,n,l,h=>by
    rw [jS] at h
    split at h
    · cases h
    · split at h
      · rename_i hr
        cases h
        exact ⟨by rw [Im];exact hr,by simp⟩
      · split at h
        · rename_i hc
          obtain ⟨m,hm,rfl⟩:=zmm h
          obtain ⟨e,hok⟩:=lG k _ m hm
          have hz:(n.extract 1 (1 + (bt n 0).toNat)).size = (bt n 0).toNat:=by rw [ByteArray.size_extract];omega
          refine ⟨?_,?_⟩
          · rw [y7,hz,← e]
            exact ZL n _ (by omega) (by omega)
          · intro x hx
            rcases List.mem_cons.mp hx with rfl | hx
            · unfold JW;omega
            · exact hok x hx
        · cases h
theorem EM (x:ByteArray) (l:List ByteArray) (h:JW x):enc (x :: l) ≠ root:=by
  intro e
  have:=congrArg ByteArray.size e
  have h2:=oq l
  have h1:=h.1
  rw [y7,pV,kX] at this
  omega
theorem qA : ∀ (k:Nat) (l:List ByteArray),(∀ x ∈ l,JW x) → (enc l).size ≤ k → jS k (enc l) = some l
  | 0,l,_,hk=>by have:=oq l;omega
  | k + 1,[],_,_=>by
    rw [jS,Im,if_neg (by rw [kX];omega),if_pos rfl]
  | k + 1,x :: l,hok,hk=>by
    have hx:=hok x (by simp)
    have h1:=oq l
    have hr:=EM x l hx
    obtain ⟨hx1,hx2⟩:=hx
    rw [y7] at hk hr ⊢
    rw [pV] at hk
    rw [jS,if_neg (by rw [pV];omega),if_neg hr,VF (by omega),pV,if_pos (by omega)]
    have e:((x.size:Int)).toNat = x.size:=by omega
    have hc:=@M5 (x.size:Int) x (enc l)
    rw [pV] at hc
    rw [e,JX,hc,qA k l (fun y hy=>hok y (by simp [hy])) (by omega)]
    rfl
def uz (n:ByteArray):Option (List ByteArray):=if n.size ≤ 255 then jS 255 n else none
theorem JY {n:ByteArray} {l:List ByteArray} (h:uz n = some l):n = enc l ∧ (∀ x ∈ l,JW x) ∧ n.size ≤ 255:=by
  unfold uz at h
  split at h
  · exact ⟨(lG _ _ _ h).1,(lG _ _ _ h).2,by assumption⟩
  · cases h
theorem M6 {l:List ByteArray} (hok:∀ x ∈ l,JW x) (hz:(enc l).size ≤ 255):uz (enc l) = some l:=by
  unfold uz
  rw [if_pos hz,qA _ _ hok hz]
theorem y8 : ∀ (k:Nat) (n:ByteArray),n.size ≤ k → jS k n = jS n.size n:=by
  intro k n hk
  cases h:jS k n with
  | some l =>
    obtain ⟨e,hok⟩:=lG _ _ _ h
    subst e
    exact (qA _ _ hok (Nat.le_refl _)).symm
  | none =>
    cases h2:jS n.size n with
    | none=>rfl
    | some l =>
      obtain ⟨e,hok⟩:=lG _ _ _ h2
      rw [e] at h hk
      rw [qA k l hok hk] at h
      cases h
theorem y9 {n:ByteArray} (h:1 ≤ n.size):jS n.size n = if n = root then some [] else if 1 ≤ bt n 0 ∧ bt n 0 ≤ 63 ∧ bt n 0 + 1 < (n.size:Int) then
      (jS (n.extract (1 + (bt n 0).toNat) n.size).size (n.extract (1 + (bt n 0).toNat) n.size)).map (n.extract 1 (1 + (bt n 0).toNat) :: ·) else none:=by
  obtain ⟨k,hk⟩:∃ k,n.size = k + 1:=⟨n.size - 1,by omega⟩
  conv=>lhs;rw [hk,jS]
  rw [if_neg (by omega)]
  split
  · rfl
  · split
    · rw [y8 k _ (by rw [ByteArray.size_extract];omega)]
    · rfl
def jM (n:ByteArray):Bool:=(uz n).isSome
def up (n:ByteArray):ByteArray × Bool:=match uz n with
  | some (_ :: l)=>(enc l,true)
  | _=>(⟨#[]⟩,false)
def same (a b:ByteArray):Bool:=jM a && jM b && decide (oK a = oK b)
theorem Io {n:ByteArray}:jM n = true ↔ ∃ l,n = enc l ∧ (∀ x ∈ l,JW x) ∧ n.size ≤ 255:=by
  unfold jM
  constructor
  · intro h
    obtain ⟨l,hl⟩:=Option.isSome_iff_exists.mp h
    exact ⟨l,JY hl⟩
  · rintro ⟨l,rfl,h1,h2⟩
    rw [M6 h1 h2];rfl
end Go.Proofs.Ytdkkgecdhapfhaa.B
namespace Go.Proofs.YtdkkgecdhapfhaaW.dL
open Go.Proofs.YtdkkgecdhapfhaaW.bD (aj)
def qB (md:Region.Mode) (o:Oper):List Nat:=(o.after.toList.filter (fun e=>Region.binds md e)).map (fun e=>e.on)
def CO (md:Region.Mode) (ops:Array Oper) (i:Nat) (oi:Oper):List Nat:=(List.range ops.size).filter fun j=>!(j == i) && match ops[j]? with
  | some oj=>!(oj.after.any (fun e=>Region.binds md e && e.on == i) || oi.apart ops oj)
  | none=>false
def mQ (md:Region.Mode) (ops:Array Oper):Bool × List (List Nat × List Nat):=(Region.noSelect ops,(List.range ops.size).map fun i=>match ops[i]? with
  | some o=>(qB md o,CO md ops i o)
  | none=>([],[]))
def mW (T:List (List Nat × List Nat)) (l:List Bool) (i:Nat):Bool:=!l.getD i true && match T[i]? with
  | some r=>r.1.all (fun j=>l.getD j false)
  | none=>false
def za (T:List (List Nat × List Nat)) (l:List Bool):List Nat:=(List.range T.length).filter (mW T l)
def EN (T:List (List Nat × List Nat)) (l:List Bool) (i:Nat):Bool:=match T[i]? with
  | some r=>r.2.all (fun j=>l.getD j true)
  | none=>false
def xq (T:List (List Nat × List Nat)) (l:List Bool):Bool:=(List.range T.length).all fun j=>!l.getD j false || match T[j]? with
  | some r=>r.1.all (fun k=>l.getD k false)
  | none=>true
def vH (T:List (List Nat × List Nat)) (i:Nat):Nat → Nat → Bool
  | 0,_=>false
  | fuel + 1,d=>match T[d]? with
    | some r=>r.1.any fun j=>j == i || vH T i fuel j
    | none=>false
def lastT (T:List (List Nat × List Nat)) (l:List Bool) (ds:List Nat) (i:Nat):Bool:=ds.all fun d=>l.getD d true || vH T i T.length d
section
variable {md : Region.Mode} {ops:Array Oper} {T:Bool × List (List Nat × List Nat)} {l l' li lj lk:Array Bool} {ds:List Nat} {i j k:Nat}
theorem gd (l:Array Bool) (j:Nat) (b:Bool):l.getD j b = l.toList.getD j b:=by simp [Array.getD_eq_getD_getElem?,List.getD_eq_getElem?_getD]
theorem AX (o:Oper) (p:Nat → Bool):o.after.all (fun e=>!Region.binds md e || p e.on) = (qB md o).all p:=by
  unfold qB
  rw [← Array.all_toList]
  induction o.after.toList with
  | nil=>rfl
  | cons e r ih =>
    rw [List.all_cons,ih,List.filter_cons]
    cases h:Region.binds md e <;> simp
theorem JZ (o:Oper) (p:Nat → Bool):o.after.any (fun e=>Region.binds md e && p e.on) = (qB md o).any p:=by
  unfold qB
  rw [← Array.any_toList]
  induction o.after.toList with
  | nil=>rfl
  | cons e r ih =>
    rw [List.any_cons,ih,List.filter_cons]
    cases h:Region.binds md e <;> simp
theorem mX : (mQ md ops).2.length = ops.size:=by simp [mQ]
theorem qC {o:Oper} (h:ops[i]? = some o):(mQ md ops).2[i]? = some (qB md o,CO md ops i o):=by
  have hi:=(Array.getElem?_eq_some_iff.1 h).1
  unfold mQ
  rw [List.getElem?_map,List.getElem?_range hi,Option.map_some,h]
theorem qD (h:ops[i]? = none):(mQ md ops).2[i]? = none:=by
  have hi:ops.size ≤ i:=Array.getElem?_eq_none_iff.1 h
  exact List.getElem?_eq_none (by rw [mX];exact hi)
theorem Gt : mW (mQ md ops).2 l.toList i = (!l.getD i true && ((ops[i]?).map (·.after.all fun e=>!Region.binds md e || l.getD e.on false)).getD false):=by
  unfold mW
  rw [gd]
  cases h:ops[i]? with
  | none=>rw [qD h];rfl
  | some o =>
    rw [qC h]
    simp only [Option.map_some,Option.getD_some]
    rw [← AX]
    simp only [gd]
theorem ready_eq : Region.ready md ops l = za (mQ md ops).2 l.toList:=by
  unfold Region.ready za
  rw [mX]
  refine List.filter_congr (fun i _=>?_)
  rw [Gt]
theorem free_eq : Region.free md ops l i = EN (mQ md ops).2 l.toList i:=by
  unfold Region.free EN
  cases h:ops[i]? with
  | none=>rw [qD h]
  | some oi =>
    rw [qC h]
    simp only [CO]
    rw [List.all_filter]
    congr 1
    funext j
    rw [gd]
    cases hj:ops[j]? with
    | none=>cases (j == i) <;> cases (l.toList.getD j true) <;> simp
    | some oj =>
      cases (j == i) <;> cases (l.toList.getD j true) <;> cases (oj.after.any (fun e=>Region.binds md e && e.on == i) || oi.apart ops oj) <;> simp_all
theorem J2 : Region.uq md ops l = xq (mQ md ops).2 l.toList:=by
  unfold Region.uq xq
  rw [mX]
  congr 1
  funext j
  rw [gd]
  cases h:ops[j]? with
  | none=>rw [qD h]
  | some o =>
    rw [qC h]
    simp only
    rw [← AX]
    simp only [gd]
theorem EO : ∀ (fuel d:Nat),Region.lN md ops i fuel d = vH (mQ md ops).2 i fuel d
  | 0,_=>rfl
  | fuel + 1,d=>by
    unfold Region.lN vH
    cases h:ops[d]? with
    | none=>rw [qD h]
    | some o =>
      rw [qC h]
      simp only
      rw [← JZ]
      congr 1
      funext e
      rw [EO fuel]
theorem Qh : Region.lastB md ops l ds i = lastT (mQ md ops).2 l.toList ds i:=by
  unfold Region.lastB lastT
  rw [mX]
  congr 1
  funext d
  rw [gd,EO]
theorem wm (h:mW T.2 l.toList i = true) (hT:mQ md ops = T):(Region.ready md ops l).contains i = true:=by
  subst hT
  rw [ready_eq]
  unfold za
  rw [List.contains_iff_mem,List.mem_filter,List.mem_range]
  refine ⟨?_,h⟩
  unfold mW at h
  rw [Bool.and_eq_true] at h
  cases hq:(mQ md ops).2[i]? with
  | none=>rw [hq] at h;simp at h
  | some r=>exact (List.getElem?_eq_some_iff.1 hq).1
theorem Gu (h:(l.toList.set i true == l'.toList) = true):(l.setIfInBounds i true == l') = true:=by
  rw [beq_iff_eq] at h ⊢
  apply Array.ext'
  rw [Array.toList_setIfInBounds]
  exact h
def ZM (T:Bool × List (List Nat × List Nat)) (l l':List Bool) (i:Nat):Bool:=T.1 && EN T.2 l i && mW T.2 l i && (l.set i true == l')
theorem jL (hT:mQ md ops = T) (h:ZM T l.toList l'.toList i = true):Qc md ops l l' i = true:=by
  simp only [ZM,Bool.and_eq_true] at h
  obtain ⟨⟨⟨h1,h2⟩,h3⟩,h4⟩:=h
  have h5:=wm h3 hT
  have h6:=Gu h4
  subst hT
  simp only [Qc,Bool.and_eq_true]
  exact ⟨⟨⟨h1,by rw [free_eq];exact h2⟩,h5⟩,h6⟩
def M7 (T:Bool × List (List Nat × List Nat)) (ds:List Nat) (l l':List Bool) (i:Nat):Bool:=T.1 && EN T.2 l i && mW T.2 l i && xq T.2 l && lastT T.2 l ds i && (l.set i true == l')
theorem Qi (hT:mQ md ops = T) (h:M7 T ds l.toList l'.toList i = true):takeB md ops ds l l' i = true:=by
  simp only [M7,Bool.and_eq_true] at h
  obtain ⟨⟨⟨⟨⟨h1,h2⟩,h3⟩,h4⟩,h5⟩,h6⟩:=h
  have h7:=wm h3 hT
  have h8:=Gu h6
  subst hT
  simp only [takeB,Bool.and_eq_true]
  exact ⟨⟨⟨⟨⟨h1,by rw [free_eq];exact h2⟩,h7⟩,by rw [J2];exact h4⟩,by rw [Qh];exact h5⟩,h8⟩
theorem Gv (hT:mQ md ops = T) (h:(za T.2 l.toList == [i] && l.toList.set i true == l'.toList) = true):CK md ops l l' i = true:=by
  simp only [Bool.and_eq_true] at h
  obtain ⟨h1,h2⟩:=h
  subst hT
  simp only [CK,Bool.and_eq_true]
  exact ⟨by rw [ready_eq];exact h1,Gu h2⟩
theorem Ip (hT:mQ md ops = T) (h:(za T.2 l.toList == []) = true):(Region.ready md ops l == []) = true:=by
  subst hT
  rw [ready_eq]
  exact h
def VG (B:List Nat) (d:Nat):List Nat → Nat
  | []=>0
  | n :: r=>(2 ^ n ||| (if n < d then B.getD n 0 else 0)) ||| VG B d r
def qE (T:List (List Nat × List Nat)) (B:List Nat):Bool:=(List.range T.length).all fun d=>match T[d]? with
  | some r=>(B.getD d 0 ||| VG B d r.1) == VG B d r.1
  | none=>false
theorem Iq {B:List Nat} {d i:Nat}:∀ {ns:List Nat},(VG B d ns).testBit i = true → ∃ n ∈ ns,n = i ∨ (n < d ∧ (B.getD n 0).testBit i = true)
  | [],h=>by simp [VG] at h
  | n :: r,h=>by
    unfold VG at h
    rw [Nat.testBit_or,Nat.testBit_or,Bool.or_eq_true,Bool.or_eq_true] at h
    rcases h with (h | h) | h
    · rw [Nat.testBit_two_pow] at h
      exact ⟨n,List.mem_cons_self,.inl (by simpa using h)⟩
    · by_cases hn:n < d
      · rw [if_pos hn] at h
        exact ⟨n,List.mem_cons_self,.inr ⟨hn,h⟩⟩
      · rw [if_neg hn] at h
        simp at h
    · obtain ⟨m,hm,h2⟩:=Iq h
      exact ⟨m,List.mem_cons_of_mem _ hm,h2⟩
theorem AY {T:List (List Nat × List Nat)} {B:List Nat} (hB:qE T B = true):∀ (fuel d:Nat),d < fuel → d < T.length → (B.getD d 0).testBit i = true → vH T i fuel d = true
  | 0,d,h,_,_=>by omega
  | fuel + 1,d,h,hd,hb=>by
    have h1:=List.all_eq_true.1 hB d (List.mem_range.2 hd)
    cases hr:T[d]? with
    | none=>rw [hr] at h1;simp at h1
    | some r =>
      rw [hr] at h1
      simp only [beq_iff_eq] at h1
      have h2:(VG B d r.1).testBit i = true:=by rw [← h1,Nat.testBit_or,hb,Bool.true_or]
      obtain ⟨n,hn,h3⟩:=Iq h2
      unfold vH
      rw [hr]
      simp only
      rw [List.any_eq_true]
      refine ⟨n,hn,?_⟩
      rcases h3 with rfl | ⟨h4,h5⟩
      · simp
      · rw [AY hB fuel n (by omega) (by omega) h5,Bool.or_true]
def SN (T:List (List Nat × List Nat)) (B:List Nat) (l:List Bool) (ds:List Nat) (i:Nat):Bool:=ds.all fun d=>l.getD d true || (decide (d < T.length) && (B.getD d 0).testBit i)
def SQ (T:Bool × List (List Nat × List Nat)) (B:List Nat) (ds:List Nat) (l l':List Bool) (i:Nat):Bool:=T.1 && EN T.2 l i && mW T.2 l i && xq T.2 l && SN T.2 B l ds i && (l.set i true == l')
theorem ze {B:List Nat} (hT:mQ md ops = T) (hB:qE T.2 B = true) (h:SQ T B ds l.toList l'.toList i = true):takeB md ops ds l l' i = true:=by
  refine Qi hT ?_
  simp only [SQ,M7,Bool.and_eq_true] at h ⊢
  obtain ⟨⟨⟨⟨⟨h1,h2⟩,h3⟩,h4⟩,h5⟩,h6⟩:=h
  refine ⟨⟨⟨⟨⟨h1,h2⟩,h3⟩,h4⟩,?_⟩,h6⟩
  unfold SN at h5
  unfold lastT
  rw [List.all_eq_true] at h5 ⊢
  intro d hd
  have h7:=h5 d hd
  rw [Bool.or_eq_true,Bool.and_eq_true,decide_eq_true_eq] at h7
  rcases h7 with h7 | ⟨h8,h9⟩
  · rw [h7,Bool.true_or]
  · rw [AY hB _ d h8 h8 h9,Bool.or_true]
theorem AZ {P:Program} {Q:Exit → Act → World → Prop} {S:World → Prop} {n:Nat} {a:Act} {w:World} {B:List Nat} (hT:mQ md ops = T) (hB:qE T.2 B = true) (h:aj (mQ md ops = T) → aj (qE T.2 B = true) → dn P md ops Q S ds n l a w):dn P md ops Q S ds n l a w:=h ⟨hT⟩ ⟨hB⟩
end
def rD : Code → Nat → Option (Array Oper)
  | .region id ops _,k=>if id == k then some ops else none
  | .seq a b,k=>match rD a k with
    | some o=>some o
    | none=>rD b k
  | .cond _ a b,k=>match rD a k with
    | some o=>some o
    | none=>rD b k
  | .block _ c,k=>rD c k
  | .loop c,k=>rD c k
  | .scope c,k=>rD c k
  | .rangeFunc _ _ a b,k=>match rD a k with
    | some o=>some o
    | none=>rD b k
  | _,_=>none
def opsOf (f:Func) (k:Nat):Array Oper:=((f.body.bind fun c=>rD c k)).getD #[]
end Go.Proofs.YtdkkgecdhapfhaaW.dL
namespace Go.Proofs.YtdkkgecdhapfhaaW.bD
theorem fP.one {α:Type} {R:α → List Value → Prop} {ps:List α} {cs:List Value} {p:α} {v:Value} (hp:R p [v]) (h:fP R 1 ps cs):fP R 1 (p :: ps) (v :: cs):=by
  refine ⟨by simp [h.1],fun j q hq=>?_⟩
  cases j with
  | zero =>
    simp only [List.getElem?_cons_zero,Option.some.injEq] at hq
    subst hq
    simpa using hp
  | succ j =>
    simp only [List.getElem?_cons_succ] at hq
    have h1:=h.2 j q hq
    simpa [Nat.mul_one] using h1
theorem fP.front {α:Type} {R:α → List Value → Prop} {size:Nat} {ps:List α} {cs c all:List Value} {p:α} (hp:R p c) (hc:c.length = size) (h:fP R size ps cs) (ha:c ++ cs = all):fP R size (p :: ps) all:=by
  subst ha
  refine ⟨by rw [List.length_append,hc,h.1,List.length_cons,Nat.succ_mul,Nat.add_comm],fun j q hq=>?_⟩
  cases j with
  | zero =>
    simp only [List.getElem?_cons_zero,Option.some.injEq] at hq
    subst hq
    rw [Nat.zero_mul,List.drop_zero,List.take_append_of_le_length (by omega),List.take_of_length_le (by omega)]
    exact hp
  | succ j =>
    simp only [List.getElem?_cons_succ] at hq
    have h1:=h.2 j q hq
    rw [Nat.succ_mul,List.drop_append,List.drop_of_length_le (by rw [hc];exact Nat.le_add_left _ _),List.nil_append,hc,Nat.add_sub_cancel]
    exact h1
theorem fP.c2 {α:Type} {R:α → List Value → Prop} {ps:List α} {cs:List Value} {p:α} {va vb:Value} (hp:R p [va,vb]) (h:fP R 2 ps cs):fP R 2 (p :: ps) (va :: vb :: cs):=fP.front hp rfl h rfl
theorem fP.c3 {α:Type} {R:α → List Value → Prop} {ps:List α} {cs:List Value} {p:α} {va vb vc:Value} (hp:R p [va,vb,vc]) (h:fP R 3 ps cs):fP R 3 (p :: ps) (va :: vb :: vc :: cs):=fP.front hp rfl h rfl
theorem fP.c4 {α:Type} {R:α → List Value → Prop} {ps:List α} {cs:List Value} {p:α} {va vb vc vd:Value} (hp:R p [va,vb,vc,vd]) (h:fP R 4 ps cs):fP R 4 (p :: ps) (va :: vb :: vc :: vd :: cs):=fP.front hp rfl h rfl
theorem fP.c5 {α:Type} {R:α → List Value → Prop} {ps:List α} {cs:List Value} {p:α} {va vb vc vd ve:Value} (hp:R p [va,vb,vc,vd,ve]) (h:fP R 5 ps cs):fP R 5 (p :: ps) (va :: vb :: vc :: vd :: ve :: cs):=fP.front hp rfl h rfl
theorem fP.c6 {α:Type} {R:α → List Value → Prop} {ps:List α} {cs:List Value} {p:α} {va vb vc vd ve vf:Value} (hp:R p [va,vb,vc,vd,ve,vf]) (h:fP R 6 ps cs):fP R 6 (p :: ps) (va :: vb :: vc :: vd :: ve :: vf :: cs):=fP.front hp rfl h rfl
theorem fP.c7 {α:Type} {R:α → List Value → Prop} {ps:List α} {cs:List Value} {p:α} {va vb vc vd ve vf vg:Value} (hp:R p [va,vb,vc,vd,ve,vf,vg]) (h:fP R 7 ps cs):fP R 7 (p :: ps) (va :: vb :: vc :: vd :: ve :: vf :: vg :: cs):=fP.front hp rfl h rfl
theorem fP.c8 {α:Type} {R:α → List Value → Prop} {ps:List α} {cs:List Value} {p:α} {va vb vc vd ve vf vg vh:Value} (hp:R p [va,vb,vc,vd,ve,vf,vg,vh]) (h:fP R 8 ps cs):fP R 8 (p :: ps) (va :: vb :: vc :: vd :: ve :: vf :: vg :: vh :: cs):=fP.front hp rfl h rfl
theorem fP.c9 {α:Type} {R:α → List Value → Prop} {ps:List α} {cs:List Value} {p:α} {va vb vc vd ve vf vg vh vi:Value} (hp:R p [va,vb,vc,vd,ve,vf,vg,vh,vi]) (h:fP R 9 ps cs):fP R 9 (p :: ps) (va :: vb :: vc :: vd :: ve :: vf :: vg :: vh :: vi :: cs):=fP.front hp rfl h rfl
theorem fP.c10 {α:Type} {R:α → List Value → Prop} {ps:List α} {cs:List Value} {p:α} {va vb vc vd ve vf vg vh vi vj:Value} (hp:R p [va,vb,vc,vd,ve,vf,vg,vh,vi,vj]) (h:fP R 10 ps cs):fP R 10 (p :: ps) (va :: vb :: vc :: vd :: ve :: vf :: vg :: vh :: vi :: vj :: cs):=fP.front hp rfl h rfl
end Go.Proofs.YtdkkgecdhapfhaaW.bD
namespace Go.Proofs.YtdkkgecdhapfhaaW.dL
def up (b:Nat → Bool) (i:Nat):Nat → Bool:=fun j=>if j = i then true else b j
section
variable {P : Program} {ops:Array Oper} {Q:Exit → Act → World → Prop} {md:Region.Mode} {T:Bool × List (List Nat × List Nat)} {B:List Nat} {O:List Nat} {b:Nat → Bool} {i j n:Nat}
end
end Go.Proofs.YtdkkgecdhapfhaaW.dL
namespace Go.Proofs.YtdkkgecdhapfhaaW.bD
open Go.RowKit
section
variable {P : Program} {ops:Array Oper} {rest:List Oper} {o:Oper} {a:Act} {Q:Exit → Act → World → Prop} {W:World}
theorem jB (hw:Region.wanted o (yielded ops a.tmps) = true) (h:wpList P ops Q ({ o with guard:=none } :: rest) a W):wpList P ops Q (o :: rest) a W:=by
  have h1:Region.wanted { o with guard:=none } (yielded ops a.tmps) = true:=rfl
  unfold wpList at h ⊢
  rw [if_pos h1] at h
  rw [if_pos hw]
  exact h
end
end Go.Proofs.YtdkkgecdhapfhaaW.bD
namespace Go.Proofs.Ytdkkgecdhapfhaa.ZQ
open Go.RowKit Go.Proofs.YtdkkgecdhapfhaaW.bD Go.Proofs.YtdkkgecdhapfhaaW.dL Go.Proofs.YtdkkgecdhapfhaaW.eP
attribute [local go_sem] jv jw kF kG iG iH jy jA
def ZN : Option Int → Value
  | none=>.nilIface
  | some c=>.iface 0 (.int .i64 c)
theorem aJ : ZN none = .nilIface:=rfl
theorem aK (c:Int):ZN (some c) = .iface 0 (.int .i64 c):=rfl
theorem Ir : (Try.prog.info? 9).map (fun i=>(i.zero,i.size,i.bytes)) = some (some (.string ⟨#[]⟩),1,16):=by kernel_rfl
end Go.Proofs.Ytdkkgecdhapfhaa.ZQ
namespace Go.Proofs.Ytdkkgecdhapfhaa.ZQ
open Go.RowKit Go.Proofs.YtdkkgecdhapfhaaW.bD Go.Proofs.YtdkkgecdhapfhaaW.dL Go.Proofs.YtdkkgecdhapfhaaW.eP
attribute [local go_sem] jv jw kF kG iG iH jy jA
mutual
def bN.l0 : Nat → ByteArray → List ByteArray → Option (List ByteArray × Bool)
  | 0,_,_=>none
  | k + 1,x0,x4=>if (x0.size:Int) > 0 then (bN.j1 k x0 x4 (x0.toList != ([0]:List UInt8))) else (bN.j1 k x0 x4 false)
def bN.j1 : Nat → ByteArray → List ByteArray → Bool → Option (List ByteArray × Bool)
  | 0,_,_,_=>none
  | k + 1,x0,x4,x15=>if x15 = true then (if 0 < (x0.size:Int) then (if (wrap64 (bt x0 0)) < 1 then (some (([]:List ByteArray),false)) else (if (wrap64 (bt x0 0)) > 63 then (some (([]:List ByteArray),false)) else (if (wrap64 ((wrap64 (bt x0 0)) + 1)) ≥ (x0.size:Int) then (some (([]:List ByteArray),false)) else (if 1 ≤ (wrap64 (1 + (wrap64 (bt x0 0)))) then (if (wrap64 (1 + (wrap64 (bt x0 0)))) ≤ (x0.size:Int) then (if x4.length < 8796093022208 then (if 0 ≤ (wrap64 (1 + (wrap64 (bt x0 0)))) then (bN.l0 k (x0.extract ((wrap64 (1 + (wrap64 (bt x0 0)))):Int).toNat x0.size) (x4 ++ [x0.extract 1 ((wrap64 (1 + (wrap64 (bt x0 0)))):Int).toNat])) else (none)) else (none)) else (none)) else (none))))) else (none)) else (some (x4,(x0.toList == ([0]:List UInt8))))
end
def bN.f (k:Nat) (a0:ByteArray):Option (List ByteArray × Bool):=if (a0.size:Int) > 255 then (some (([]:List ByteArray),false)) else (bN.l0 k a0 ([]:List ByteArray))
def bN.T8 : Bool × List (List Nat × List Nat):=(true,[([],[]),([],[]),([],[]),([2],[2]),([1,3],[1,3]),([4],[4]),([0,5],[0,5]),([],[]),([],[]),([8],[8]),([7,9],[7,9]),([6,6,0,1,2,3,4,5,6],[0,6]),([10,11,0,1,2,3,4,5,6,7,8,9,10,11],[1,7,10])])
def bN.B8 : List Nat:=[0,0,0,4,14,30,63,0,0,256,896,127,4095]
theorem bN.afb : mQ .any (opsOf Try.f109 8) = bN.T8:=by kernel_rfl
theorem bN.ZO : qE bN.T8.2 bN.B8 = true:=by kernel_rfl
set_option maxHeartbeats 8000000 in
set_option maxRecDepth 100000 in
theorem bN.calls (k:Nat) (a0:ByteArray) (r1:List ByteArray) (r2:Bool) (w:World) (h:bN.f k a0 = some (r1,r2)) :
    Calls Try.prog 109 #[.string a0] w fun e w'=>∃ SS:Value,e = .returned (.tuple #[SS,.bool r2]) ∧ Kd.R Kd.string 9 w' w.heap.size (fun _=>True) SS r1 ∧ Below w.heap.size w w':=by
  have HB:=aj.mk (Below.refl w.heap.size w)
  have H:(if (a0.size:Int) > 255 then (some (([]:List ByteArray),false)) else (bN.l0 k a0 ([]:List ByteArray))) = some (r1,r2):=h
  clear h
  by_cases c2:(a0.size:Int) > 255
  · rw [if_pos c2] at H
    have wL:decide (255 < (a0.size:Int)) = true:=decide_eq_true c2
    have J3:decide (255 < a0.size) = true:=decide_eq_true (by omega)
    clear c2
    simp only [Option.some.injEq,Prod.mk.injEq] at H
    obtain ⟨rfl,rfl⟩:=H
    go_enter Try.func109,Try.ntmps109
    go_wp2
    go_ret2
    exact ⟨_,by first | rfl | (simp [aJ,aK] <;> rfl) | (simp [*,aJ,aK] <;> rfl),by first | exact Kd.jG _ _ _ _ _ | exact Kd.lD _ _ _ _ _ | exact Kd.lF _ _ _ _ _ | exact Kd.lu _ _ _ _ _ | exact Kd.lC _ _ _ _ _,by repeat (first | (with_reducible first | exact HB.out | apply ak | apply ah | apply au) | exact HB.out)⟩
  · rw [if_neg c2] at H
    have wL:decide (255 < (a0.size:Int)) = false:=decide_eq_false c2
    have J3:decide (255 < a0.size) = false:=decide_eq_false (by omega)
    clear c2
    have H':=aj.mk H
    clear H
    go_enter Try.func109,Try.ntmps109
    go_wp2
    go_loopg [0,4] k (fun kq v0 v4 w'=>∃ (bM:ByteArray) (qN:List ByteArray),v0 = .string bM ∧ aj (bN.l0 kq bM qN = some (r1,r2)) ∧ aj (kq ≤ k) ∧ aj (Kd.R Kd.string 9 w' w.heap.size (fun _=>True) v4 qN) ∧ aj (Below w.heap.size w w'))
    case atStart=>exact ⟨(a0),(([]:List ByteArray)),(by first | rfl | (simp;done) | (simp [*];done) | (simp [B.aV];done) | (simp [B.aW];done)),H',⟨Nat.le_refl _⟩,⟨by first | exact Kd.jG _ _ _ _ _ | exact Kd.lD _ _ _ _ _ | exact Kd.lF _ _ _ _ _ | exact Kd.lu _ _ _ _ _ | exact Kd.lC _ _ _ _ _⟩,⟨by repeat (first | (with_reducible first | exact HB.out | apply ak | apply ah | apply au) | exact HB.out)⟩⟩
    case round =>
      clear H'
      try clear c1
      try clear c2
      try clear wL
      try clear J3
      try clear p2
      obtain ⟨bM,qN,rfl,HA,uD,qO,HB⟩:=hrel
      cases gk with
      | zero=>exact absurd HA.out (by simp [bN.l0])
      | succ k1 =>
        have H:=HA.out
        clear HA
        simp only [bN.l0] at H
        have HC3:=aj.mk H
        clear H
        go_upto_region 4 with (fail)
        go_cut [15] (fun v15 wc=>∃ (kq:Nat) (Iu:Bool),v15 = .bool Iu ∧ aj (bN.j1 kq bM qN Iu = some (r1,r2)) ∧ aj (kq ≤ k1) ∧ aj (Kd.R Kd.string 9 wc w.heap.size (fun _=>True) u4 qN) ∧ aj (Below w.heap.size w wc))
        case first =>
          have H:=HC3.out
          clear HC3
          by_cases c4:(bM.size:Int) > 0
          · rw [if_pos c4] at H
            have qP:decide (0 < (bM.size:Int)) = true:=decide_eq_true c4
            have J4:decide (0 < bM.size) = true:=decide_eq_true (by omega)
            clear c4
            (first | rw [qP] | rw [M8] | (simp only [gP,iy];rw [qP]) | skip)
            have H':=aj.mk H
            clear H
            go_wp2
            go_meet
            case rel=>exact ⟨_,((bM.toList != ([0]:List UInt8))),(by first | rfl | (simp;done) | (simp [*];done) | (simp [B.aV];done) | (simp [B.aW];done)),H',⟨by have:=uD.out;first | omega | exact Nat.le_refl _⟩,⟨by (with_reducible repeat (first | apply Kd.fu | apply Kd.fI | apply Kd.fU));exact qO.out⟩,⟨by repeat (first | (with_reducible first | exact HB.out | apply ak | apply ah | apply au) | exact HB.out)⟩⟩
          · rw [if_neg c4] at H
            have qP:decide (0 < (bM.size:Int)) = false:=decide_eq_false c4
            have J4:decide (0 < bM.size) = false:=decide_eq_false (by omega)
            clear c4
            (first | rw [qP] | rw [M8] | (simp only [gP,iy];rw [qP]) | skip)
            have H':=aj.mk H
            clear H
            go_wp2
            go_meet
            case rel=>exact ⟨_,(false),(by first | rfl | (simp;done) | (simp [*];done) | (simp [B.aV];done) | (simp [B.aW];done)),H',⟨by have:=uD.out;first | omega | exact Nat.le_refl _⟩,⟨by (with_reducible repeat (first | apply Kd.fu | apply Kd.fI | apply Kd.fU));exact qO.out⟩,⟨by repeat (first | (with_reducible first | exact HB.out | apply ak | apply ah | apply au) | exact HB.out)⟩⟩
        case rest =>
          clear HC3
          try clear c1
          try clear c2
          try clear wL
          try clear J3
          try clear p2
          try clear c4
          try clear qP
          try clear J4
          try clear M8
          try clear p2
          obtain ⟨kq,Iu,rfl,HA,HJ2,qO,HB⟩:=hcut
          cases kq with
          | zero=>exact absurd HA.out (by simp [bN.j1])
          | succ kj2 =>
            have H:=HA.out
            clear HA
            simp only [bN.j1] at H
            by_cases c5:Iu = true
            · subst c5
              have H1:(if 0 < (bM.size:Int) then (if (wrap64 (bt bM 0)) < 1 then (some (([]:List ByteArray),false)) else (if (wrap64 (bt bM 0)) > 63 then (some (([]:List ByteArray),false)) else (if (wrap64 ((wrap64 (bt bM 0)) + 1)) ≥ (bM.size:Int) then (some (([]:List ByteArray),false)) else (if 1 ≤ (wrap64 (1 + (wrap64 (bt bM 0)))) then (if (wrap64 (1 + (wrap64 (bt bM 0)))) ≤ (bM.size:Int) then (if qN.length < 8796093022208 then (if 0 ≤ (wrap64 (1 + (wrap64 (bt bM 0)))) then (bN.l0 kj2 (bM.extract ((wrap64 (1 + (wrap64 (bt bM 0)))):Int).toNat bM.size) (qN ++ [bM.extract 1 ((wrap64 (1 + (wrap64 (bt bM 0)))):Int).toNat])) else (none)) else (none)) else (none)) else (none))))) else (none)) = some (r1,r2):=by rw [if_pos rfl] at H;exact H
              clear H
              have H:=H1
              clear H1
              by_cases c6:0 < (bM.size:Int)
              · rw [if_pos c6] at H
                have zV:decide (0 < (bM.size:Int)) = true:=decide_eq_true c6
                have M9:decide (0 < bM.size) = true:=decide_eq_true (by omega)
                clear c6
                by_cases c8:(wrap64 (bt bM 0)) < 1
                · rw [if_pos c8] at H
                  have rZ:decide ((wrap64 (bt bM 0)) < 1) = true:=decide_eq_true c8
                  (try (have r9:decide (((bt bM 0)) < 1) = true:=by have h_:decide ((wrap64 (bt bM 0)) < 1) = true:=decide_eq_true c8;rw [B.dQ (by omega) (by omega)] at h_;exact h_))
                  clear c8
                  simp only [Option.some.injEq,Prod.mk.injEq] at H
                  obtain ⟨rfl,rfl⟩:=H
                  have p7:0 ≤ (0:Int):=(by omega)
                  have q7:0 < bM.size:=(by have:(0:Int) < (bM.size:Int):=of_decide_eq_true (by first | (with_reducible assumption) | assumption);omega)
                  have hx7:∀ h:0 < bM.size,((bM[0]'h).toNat:Int) = bt bM 0:=nL bM 0
                  clear p7
                  have qi7:(0 < (bM.size:Int)) = True:=eq_true (of_decide_eq_true (by first | (with_reducible assumption) | assumption))
                  replace q7:=eq_true q7
                  go_wp2
                  go_ret2
                  exact ⟨_,by first | rfl | (simp [aJ,aK] <;> rfl) | (simp [*,aJ,aK] <;> rfl),by first | exact Kd.jG _ _ _ _ _ | exact Kd.lD _ _ _ _ _ | exact Kd.lF _ _ _ _ _ | exact Kd.lu _ _ _ _ _ | exact Kd.lC _ _ _ _ _,by repeat (first | (with_reducible first | exact HB.out | apply ak | apply ah | apply au) | exact HB.out)⟩
                · rw [if_neg c8] at H
                  have rZ:decide ((wrap64 (bt bM 0)) < 1) = false:=decide_eq_false c8
                  (try (have r9:decide (((bt bM 0)) < 1) = false:=by have h_:decide ((wrap64 (bt bM 0)) < 1) = false:=decide_eq_false c8;rw [B.dQ (by omega) (by omega)] at h_;exact h_))
                  clear c8
                  by_cases c9:(wrap64 (bt bM 0)) > 63
                  · rw [if_pos c9] at H
                    have uE:decide (63 < (wrap64 (bt bM 0))) = true:=decide_eq_true c9
                    (try (have EP:decide (63 < ((bt bM 0))) = true:=by have h_:decide (63 < (wrap64 (bt bM 0))) = true:=decide_eq_true c9;rw [B.dQ (by omega) (by omega)] at h_;exact h_))
                    clear c9
                    simp only [Option.some.injEq,Prod.mk.injEq] at H
                    obtain ⟨rfl,rfl⟩:=H
                    have p7:0 ≤ (0:Int):=(by omega)
                    have q7:0 < bM.size:=(by have:(0:Int) < (bM.size:Int):=of_decide_eq_true (by first | (with_reducible assumption) | assumption);omega)
                    have hx7:∀ h:0 < bM.size,((bM[0]'h).toNat:Int) = bt bM 0:=nL bM 0
                    clear p7
                    have qi7:(0 < (bM.size:Int)) = True:=eq_true (of_decide_eq_true (by first | (with_reducible assumption) | assumption))
                    replace q7:=eq_true q7
                    go_wp2
                    go_ret2
                    exact ⟨_,by first | rfl | (simp [aJ,aK] <;> rfl) | (simp [*,aJ,aK] <;> rfl),by first | exact Kd.jG _ _ _ _ _ | exact Kd.lD _ _ _ _ _ | exact Kd.lF _ _ _ _ _ | exact Kd.lu _ _ _ _ _ | exact Kd.lC _ _ _ _ _,by repeat (first | (with_reducible first | exact HB.out | apply ak | apply ah | apply au) | exact HB.out)⟩
                  · rw [if_neg c9] at H
                    have uE:decide (63 < (wrap64 (bt bM 0))) = false:=decide_eq_false c9
                    (try (have EP:decide (63 < ((bt bM 0))) = false:=by have h_:decide (63 < (wrap64 (bt bM 0))) = false:=decide_eq_false c9;rw [B.dQ (by omega) (by omega)] at h_;exact h_))
                    clear c9
                    by_cases c10:(wrap64 ((wrap64 (bt bM 0)) + 1)) ≥ (bM.size:Int)
                    · rw [if_pos c10] at H
                      have rE:decide ((bM.size:Int) ≤ (wrap64 ((wrap64 (bt bM 0)) + 1))) = true:=decide_eq_true c10
                      (try (have A8:decide ((bM.size:Int) ≤ ((((bt bM 0)) + 1))) = true:=by have h_:decide ((bM.size:Int) ≤ (wrap64 ((wrap64 (bt bM 0)) + 1))) = true:=decide_eq_true c10;rw [B.dQ (by omega) (by omega)] at h_;rw [B.dQ (by omega) (by omega)] at h_;exact h_))
                      clear c10
                      simp only [Option.some.injEq,Prod.mk.injEq] at H
                      obtain ⟨rfl,rfl⟩:=H
                      have p7:0 ≤ (0:Int):=(by omega)
                      have q7:0 < bM.size:=(by have:(0:Int) < (bM.size:Int):=of_decide_eq_true (by first | (with_reducible assumption) | assumption);omega)
                      have hx7:∀ h:0 < bM.size,((bM[0]'h).toNat:Int) = bt bM 0:=nL bM 0
                      clear p7
                      have qi7:(0 < (bM.size:Int)) = True:=eq_true (of_decide_eq_true (by first | (with_reducible assumption) | assumption))
                      replace q7:=eq_true q7
                      go_wp2
                      go_ret2
                      exact ⟨_,by first | rfl | (simp [aJ,aK] <;> rfl) | (simp [*,aJ,aK] <;> rfl),by first | exact Kd.jG _ _ _ _ _ | exact Kd.lD _ _ _ _ _ | exact Kd.lF _ _ _ _ _ | exact Kd.lu _ _ _ _ _ | exact Kd.lC _ _ _ _ _,by repeat (first | (with_reducible first | exact HB.out | apply ak | apply ah | apply au) | exact HB.out)⟩
                    · rw [if_neg c10] at H
                      have rE:decide ((bM.size:Int) ≤ (wrap64 ((wrap64 (bt bM 0)) + 1))) = false:=decide_eq_false c10
                      (try (have A8:decide ((bM.size:Int) ≤ ((((bt bM 0)) + 1))) = false:=by have h_:decide ((bM.size:Int) ≤ (wrap64 ((wrap64 (bt bM 0)) + 1))) = false:=decide_eq_false c10;rw [B.dQ (by omega) (by omega)] at h_;rw [B.dQ (by omega) (by omega)] at h_;exact h_))
                      clear c10
                      by_cases c11:1 ≤ (wrap64 (1 + (wrap64 (bt bM 0))))
                      · rw [if_pos c11] at H
                        have Na:=eq_true c11
                        have ZP:decide (1 ≤ (wrap64 (1 + (wrap64 (bt bM 0))))) = true:=decide_eq_true c11
                        by_cases c12:(wrap64 (1 + (wrap64 (bt bM 0)))) ≤ (bM.size:Int)
                        · rw [if_pos c12] at H
                          have uF:=eq_true c12
                          have uG:decide ((wrap64 (1 + (wrap64 (bt bM 0)))) ≤ (bM.size:Int)) = true:=decide_eq_true c12
                          by_cases c13:qN.length < 8796093022208
                          · rw [if_pos c13] at H
                            have ZR:=aj.mk c13
                            clear c13
                            obtain ⟨y101,hy101⟩:∃ y_:List ByteArray,y_ = (qN ++ [bM.extract 1 ((wrap64 (1 + (wrap64 (bt bM 0)))):Int).toNat]):=⟨_,rfl⟩
                            replace H:(if 0 ≤ (wrap64 (1 + (wrap64 (bt bM 0)))) then (bN.l0 kj2 (bM.extract ((wrap64 (1 + (wrap64 (bt bM 0)))):Int).toNat bM.size) y101) else (none)) = some (r1,r2):=by first | (rw [hy101];with_reducible exact H) | (have Gw:=(Option.bind_some _ _).symm.trans H;rw [hy101];with_reducible exact Gw) | (have Gw:=(Option.bind_some _ _).symm.trans H;with_reducible exact Gw) | with_reducible exact H | (rw [hy101];exact H) | exact H
                            have SX:=aj.mk hy101
                            clear hy101
                            obtain ⟨CP,pW⟩:∃ j_:Int,(wrap64 (1 + (wrap64 (bt bM 0)))) = j_:=⟨_,rfl⟩
                            replace H:(if 0 ≤ (CP) then (bN.l0 kj2 (bM.extract ((CP):Int).toNat bM.size) y101) else (none)) = some (r1,r2):=by first | (rw [pW] at H;exact H) | (simp only [pW] at H ⊢;exact H)
                            (try rw [pW] at Na)
                            (try rw [pW] at ZP)
                            (try rw [pW] at c11)
                            (try rw [pW] at uF)
                            (try rw [pW] at uG)
                            (try rw [pW] at c12)
                            (try rw [pW] at SX)
                            have afc:(IntKind.i64.wrap (1 + (wrap64 (bt bM 0)))) = CP:=(gP _).trans pW
                            by_cases c15:0 ≤ (CP)
                            · rw [if_pos c15] at H
                              have ZT:=eq_true c15
                              have agz:decide (0 ≤ (CP)) = true:=decide_eq_true c15
                              clear c15
                              have Iw:=eq_true (of_decide_eq_true (by first | (with_reducible assumption) | assumption):(CP) ≤ (bM.size:Int))
                              have H':=aj.mk H
                              clear H
                              have p7:0 ≤ (0:Int):=(by omega)
                              have q7:0 < bM.size:=(by have:(0:Int) < (bM.size:Int):=of_decide_eq_true (by first | (with_reducible assumption) | assumption);omega)
                              have hx7:∀ h:0 < bM.size,((bM[0]'h).toNat:Int) = bt bM 0:=nL bM 0
                              clear p7
                              have qi7:(0 < (bM.size:Int)) = True:=eq_true (of_decide_eq_true (by first | (with_reducible assumption) | assumption))
                              replace q7:=eq_true q7
                              try go_wp2
                              have d9:=aj.mk (Kd.fU qO.out)
                              have gX:=aj.mk (au HB.out)
                              clear qO
                              clear HB
                              have qO:=d9
                              have HB:=gX
                              clear d9 gX
                              refine MV (n:=13) (S:=fun w'=>True) (ds:=[]) #[false,false,false,false,false,false,false,false,false,false,false,false,false] (by kernel_rfl) rfl rfl trivial (fun hHeld=>?_);refine AZ bN.afb bN.ZO (fun wM HW_=>?_)
                              generalize wc.drew = w17 at qO HB hHeld ⊢
                              refine lS (i:=0) (N:=some 32) (v:=?_) (a':=?_) #[true,false,false,false,false,false,false,false,false,false,false,false,false] rfl rfl (jL wM.out (by kernel_rfl)) (fun _ _ _ h=>h) (Or.inl ⟨by rfl,?_⟩) ?_ ?_
                              rotate_left
                              · intro w'
                                go_simp
                                with_reducible rfl
                              rotate_left
                              · simp only [Act.put,List.setIfInBounds_toArray,List.set_cons_zero,List.set_cons_succ,gP,iy]
                                rfl
                              refine lS (i:=1) (N:=some 33) (v:=?_) (a':=?_) #[true,true,false,false,false,false,false,false,false,false,false,false,false] rfl rfl (jL wM.out (by kernel_rfl)) (fun _ _ _ h=>h) (Or.inl ⟨by rfl,?_⟩) ?_ ?_
                              rotate_left
                              · intro w'
                                go_simp
                                with_reducible rfl
                              rotate_left
                              · simp only [Act.put,List.setIfInBounds_toArray,List.set_cons_zero,List.set_cons_succ,gP,iy]
                                rfl
                              refine lS (i:=2) (N:=some 34) (v:=?_) (a':=?_) #[true,true,true,false,false,false,false,false,false,false,false,false,false] rfl rfl (jL wM.out (by kernel_rfl)) (fun _ _ _ h=>h) (Or.inl ⟨by rfl,?_⟩) ?_ ?_
                              rotate_left
                              · intro w'
                                go_simp
                                with_reducible rfl
                              rotate_left
                              · simp only [Act.put,List.setIfInBounds_toArray,List.set_cons_zero,List.set_cons_succ,gP,iy]
                                rfl
                              refine lS (i:=3) (N:=some 35) (v:=?_) (a':=?_) #[true,true,true,true,false,false,false,false,false,false,false,false,false] rfl rfl (jL wM.out (by kernel_rfl)) (fun _ _ _ h=>h) (Or.inl ⟨by rfl,?_⟩) ?_ ?_
                              rotate_left
                              · intro w'
                                go_simp
                                with_reducible rfl
                              rotate_left
                              · simp only [Act.put,List.setIfInBounds_toArray,List.set_cons_zero,List.set_cons_succ,gP,iy]
                                rfl
                              refine lS (i:=4) (N:=some 36) (v:=?_) (a':=?_) #[true,true,true,true,true,false,false,false,false,false,false,false,false] rfl rfl (jL wM.out (by kernel_rfl)) (fun _ _ _ h=>h) (Or.inl ⟨by rfl,?_⟩) ?_ ?_
                              rotate_left
                              · intro w'
                                go_simp
                                with_reducible rfl
                              rotate_left
                              · simp only [Act.put,List.setIfInBounds_toArray,List.set_cons_zero,List.set_cons_succ,gP,iy]
                                rfl
                              refine lS (i:=7) (N:=some 39) (v:=?_) (a':=?_) #[true,true,true,true,true,false,false,true,false,false,false,false,false] rfl rfl (jL wM.out (by kernel_rfl)) (fun _ _ _ h=>h) (Or.inl ⟨by rfl,?_⟩) ?_ ?_
                              rotate_left
                              · intro w'
                                go_simp
                                with_reducible rfl
                              rotate_left
                              · simp only [Act.put,List.setIfInBounds_toArray,List.set_cons_zero,List.set_cons_succ,gP,iy]
                                rfl
                              refine lS (i:=8) (N:=some 40) (v:=?_) (a':=?_) #[true,true,true,true,true,false,false,true,true,false,false,false,false] rfl rfl (jL wM.out (by kernel_rfl)) (fun _ _ _ h=>h) (Or.inl ⟨by rfl,?_⟩) ?_ ?_
                              rotate_left
                              · intro w'
                                go_simp
                                with_reducible rfl
                              rotate_left
                              · simp only [Act.put,List.setIfInBounds_toArray,List.set_cons_zero,List.set_cons_succ,gP,iy]
                                rfl
                              refine lS (i:=9) (N:=some 41) (v:=?_) (a':=?_) #[true,true,true,true,true,false,false,true,true,true,false,false,false] rfl rfl (jL wM.out (by kernel_rfl)) (fun _ _ _ h=>h) (Or.inl ⟨by rfl,?_⟩) ?_ ?_
                              rotate_left
                              · intro w'
                                go_simp
                                with_reducible rfl
                              rotate_left
                              · simp only [Act.put,List.setIfInBounds_toArray,List.set_cons_zero,List.set_cons_succ,gP,iy]
                                rfl
                              refine lS (i:=10) (N:=some 42) (v:=?_) (a':=?_) #[true,true,true,true,true,false,false,true,true,true,true,false,false] rfl rfl (jL wM.out (by kernel_rfl)) (fun _ _ _ h=>h) (Or.inl ⟨by rfl,?_⟩) ?_ ?_
                              rotate_left
                              · intro w'
                                go_simp
                                with_reducible rfl
                              rotate_left
                              · simp only [Act.put,List.setIfInBounds_toArray,List.set_cons_zero,List.set_cons_succ,gP,iy]
                                rfl
                              refine VD (i:=5) (N:=some 37) #[true,true,true,true,true,true,false,true,true,true,true,false,false] rfl rfl (Gv wM.out (by kernel_rfl)) (by decide) (fun K hK=>?_)
                              refine VE (w1:=?_) (v:=?_) (by rfl) rfl ?_ ?_
                              rotate_left 2
                              · go_simp
                                constructor
                                · rfl
                                · rfl
                              refine hK.out _ _ trivial (fun hHeld=>?_)
                              clear hK K
                              refine SL (a':=?_) ?_ ?_
                              rotate_left
                              · show Act.put _ (some 37) _ = _
                                simp only [Act.put,List.setIfInBounds_toArray,List.set_cons_zero,List.set_cons_succ,gP,iy]
                                rfl
                              refine VD (i:=6) (N:=some 38) #[true,true,true,true,true,true,true,true,true,true,true,false,false] rfl rfl (Gv wM.out (by kernel_rfl)) (by decide) (fun K hK=>?_)
                              refine Kd.zR Kd.string (w0:=w) w.heap.size (by rfl) (.tmp 32) (.tmp 37) 33 9 (.string ⟨#[]⟩) 16 rfl Try.underlying33 Ir rfl (by decide) (by omega) u4 qN (bM.extract 1 ((CP):Int).toNat) [.string (bM.extract 1 ((CP):Int).toNat)] (fun _=>True) (fun _=>False) rfl rfl ?aP (fun _ hk=>hk.elim) ?aF ?aO ?aB ?aS ?aL ?_
                              (case aP=>exact rfl)
                              (case aB=>exact (by repeat (first | (with_reducible first | exact HB.out | apply ak | apply ah | apply au) | exact HB.out)))
                              (case aF=>exact (fun _ _=>trivial))
                              (case aO=>exact (by (with_reducible repeat (first | apply Kd.fu | apply Kd.fI | apply Kd.fU));exact qO.out))
                              (case aS=>exact (bL (by repeat (first | (with_reducible first | exact HB.out | apply ak | apply ah | apply au) | exact HB.out))))
                              (case aL=>have:=ZR.out;omega)
                              intro ahK w18 ho hb hg hat
                              rw [← SX.out] at ho
                              have d9:=aj.mk (hb)
                              have gX:=aj.mk (ho)
                              clear HB
                              clear qO
                              have HB:=d9
                              have ZU:=gX
                              clear d9 gX
                              clear ho hb hg hat
                              refine hK.out _ _ trivial (fun hHeld=>?_)
                              clear hK K
                              refine SL (a':=?_) ?_ ?_
                              rotate_left
                              · show Act.put _ (some 38) _ = _
                                simp only [Act.put,List.setIfInBounds_toArray,List.set_cons_zero,List.set_cons_succ,gP,iy]
                                rfl
                              refine lS (i:=11) (N:=some 4) (v:=?_) (a':=?_) #[true,true,true,true,true,true,true,true,true,true,true,true,false] rfl rfl (jL wM.out (by kernel_rfl)) (fun _ _ _ h=>h) (Or.inl ⟨by rfl,?_⟩) ?_ ?_
                              rotate_left
                              · intro w'
                                go_simp
                                with_reducible rfl
                              rotate_left
                              · simp only [Act.put,List.setIfInBounds_toArray,List.set_cons_zero,List.set_cons_succ,gP,iy]
                                rfl
                              refine lS (i:=12) (N:=some 0) (v:=?_) (a':=?_) #[true,true,true,true,true,true,true,true,true,true,true,true,true] rfl rfl (jL wM.out (by kernel_rfl)) (fun _ _ _ h=>h) (Or.inl ⟨by rfl,?_⟩) ?_ ?_
                              rotate_left
                              · intro w'
                                go_simp
                                with_reducible rfl
                              rotate_left
                              · simp only [Act.put,List.setIfInBounds_toArray,List.set_cons_zero,List.set_cons_succ,gP,iy]
                                rfl
                              refine SI (Ip wM.out (by kernel_rfl)) ?_
                              try go_wp2
                              go_roundg kj2
                              case measure=>have:=uD.out;have:=HJ2.out;omega
                              case rel=>exact ⟨(bM.extract ((CP):Int).toNat bM.size),(y101),(by first | rfl | (simp;done) | (simp only [← pW] <;> (first | rfl | simp)) | (simp [*];done)),H',⟨by have:=uD.out;have:=HJ2.out;omega⟩,⟨by (with_reducible repeat (first | apply Kd.fu | apply Kd.fI | apply Kd.fU));exact ZU.out⟩,⟨by repeat (first | (with_reducible first | exact HB.out | apply ak | apply ah | apply au) | exact HB.out)⟩⟩
                            · rw [if_neg c15] at H
                              exact absurd H (by simp)
                          · rw [if_neg c13] at H
                            exact absurd H (by simp)
                        · rw [if_neg c12] at H
                          exact absurd H (by simp)
                      · rw [if_neg c11] at H
                        exact absurd H (by simp)
              · rw [if_neg c6] at H
                exact absurd H (by simp)
            · replace c5:=Bool.eq_false_iff.mpr c5
              subst c5
              have H1:(some (qN,(bM.toList == ([0]:List UInt8)))) = some (r1,r2):=by rw [if_neg (show ¬ (false = true) by decide)] at H;exact H
              clear H
              have H:=H1
              clear H1
              simp only [Option.some.injEq,Prod.mk.injEq] at H
              obtain ⟨rfl,rfl⟩:=H
              go_wp2
              go_ret2
              exact ⟨_,by first | rfl | (simp [aJ,aK] <;> rfl) | (simp [*,aJ,aK] <;> rfl),by (with_reducible repeat (first | apply Kd.fu | apply Kd.fI | apply Kd.fU));exact qO.out,by repeat (first | (with_reducible first | exact HB.out | apply ak | apply ah | apply au) | exact HB.out)⟩
def iQ.f (k:Nat) (a0:ByteArray):Option (Bool):=(bN.f k a0).bind fun Nb=>(some Nb.2)
set_option maxHeartbeats 8000000 in
set_option maxRecDepth 100000 in
theorem iQ.calls (k:Nat) (a0:ByteArray) (r:Bool) (w:World) (h:iQ.f k a0 = some r) :
    Calls Try.prog 91 #[.string a0] w fun e w'=>e = .returned (.bool r) ∧ Below w.heap.size w w':=by
  have HB:=aj.mk (Below.refl w.heap.size w)
  have H:((bN.f k a0).bind fun Nb=>(some Nb.2)) = some r:=h
  clear h
  replace H:=zbm H
  obtain ⟨⟨afd,t105⟩,Nc,H⟩:=H
  replace H:(some t105) = some r:=H
  have A2:=aj.mk Nc
  clear Nc
  obtain rfl:=Option.some.inj H
  go_enter Try.func91,Try.ntmps91
  go_wp2_with (first | ((with_reducible refine aQ (f:=109) rfl ?_);refine bP (some 7) rfl rfl Try.func109 (by kernel_rfl) rfl #[.string a0] rfl (by (try simp only [List.map_toArray,List.map_cons,List.map_nil]);first | done | rfl | (simp only [List.length_drop,List.length_take];rfl) | (simp only [ByteArray.size_append,Int.natCast_add];rfl) | (rw [B.dQ] <;> first | rfl | omega | (simp only [decide_eq_false_iff_not,decide_eq_true_eq,Int.not_lt,Nat.not_lt,gt_iff_lt] at * <;> omega))) ?_;(with_reducible refine (bN.calls k a0 afd t105 _ A2.out).mono ?_);rintro e w3 ⟨ahL,rfl,ho0,hb⟩;refine ⟨_,rfl,?_⟩;have d9:=aj.mk (Kd.uh ho0 (bL (by repeat (first | (with_reducible first | exact HB.out | apply ak | apply ah | apply au) | exact HB.out))));have gX:=aj.mk (bE (by repeat (first | (with_reducible first | exact HB.out | apply ak | apply ah | apply au) | exact HB.out)) hb);clear HB;have agA:=d9;have HB:=gX;clear d9 gX;(try clear hb);(try clear hb2);(try clear hk);(try clear hi);(try clear ho0)))
  go_ret
  exact ⟨by first | rfl | (simp [aJ,aK] <;> rfl) | (simp [*,aJ,aK] <;> rfl),by repeat (first | (with_reducible first | exact HB.out | apply ak | apply ah | apply au) | exact HB.out)⟩
def mI.f (a0:Int):Option (Int):=if a0 ≥ 65 then (if a0 ≤ 90 then (some ((a0 + 32) % 256)) else (some a0)) else (some a0)
set_option maxHeartbeats 8000000 in
set_option maxRecDepth 100000 in
theorem mI.calls (a0:Int) (r:Int) (w:World) (h:mI.f a0 = some r) :
    Calls Try.prog 119 #[.int .u8 a0] w fun e w'=>e = .returned (.int .u8 r) ∧ aY w w':=by
  have H:(if a0 ≥ 65 then (if a0 ≤ 90 then (some ((a0 + 32) % 256)) else (some a0)) else (some a0)) = some r:=h
  clear h
  by_cases c2:a0 ≥ 65
  · rw [if_pos c2] at H
    have wL:decide (65 ≤ a0) = true:=decide_eq_true c2
    clear c2
    by_cases c3:a0 ≤ 90
    · rw [if_pos c3] at H
      have qQ:decide (a0 ≤ 90) = true:=decide_eq_true c3
      clear c3
      obtain rfl:=Option.some.inj H
      go_enter Try.func119,Try.ntmps119
      go_wp2
      go_ret
      exact ⟨by first | rfl | (simp;done) | (simp [*];done),by repeat (first | exact aY.refl _ | apply aY.step)⟩
    · rw [if_neg c3] at H
      have qQ:decide (a0 ≤ 90) = false:=decide_eq_false c3
      clear c3
      obtain rfl:=Option.some.inj H
      go_enter Try.func119,Try.ntmps119
      go_wp2
      go_ret
      exact ⟨by first | rfl | (simp;done) | (simp [*];done),by repeat (first | exact aY.refl _ | apply aY.step)⟩
  · rw [if_neg c2] at H
    have wL:decide (65 ≤ a0) = false:=decide_eq_false c2
    clear c2
    obtain rfl:=Option.some.inj H
    go_enter Try.func119,Try.ntmps119
    go_wp2
    go_ret
    exact ⟨by first | rfl | (simp;done) | (simp [*];done),by repeat (first | exact aY.refl _ | apply aY.step)⟩
def iW.f (a0:ByteArray):Option ByteArray:=if a0.size ≤ 140737488355328 then some (B.oK a0) else none
theorem iW.small (c:Int) (h0:0 ≤ c) (h1:c ≤ 255):mI.f c = some (B.iP c):=by
  unfold mI.f B.iP
  by_cases h2:65 ≤ c
  · by_cases h3:c ≤ 90
    · rw [if_pos (by omega),if_pos h3,if_pos ⟨h2,h3⟩];congr 1;omega
    · rw [if_pos (by omega),if_neg h3,if_neg (by omega)]
  · rw [if_neg (by omega),if_neg (by omega)]
set_option maxHeartbeats 8000000 in
set_option maxRecDepth 100000 in
theorem iW.calls (a0:ByteArray) (r:ByteArray) (w:World) (h:iW.f a0 = some r) :
    Calls Try.prog 110 #[.string a0] w fun e w'=>e = .returned (.string r) ∧ Below w.heap.size w w':=by
  unfold iW.f at h
  by_cases hs:a0.size ≤ 140737488355328
  · rw [if_pos hs] at h
    obtain rfl:=Option.some.inj h
    clear h
    have kc:=fun (W:World)=>Lib.run_convert_string_bytes (P:=Try.prog) W 9 119 5 a0 Try.underlying9 Try.underlying119 Try.underlying5
    have hb0:=aj.mk (B.y5 (Below.refl w.heap.size w) (Nat.le_refl _) 5 a0)
    have hr0:=aj.mk (B.yZ w 5 a0)
    go_enter Try.func110,Try.ntmps110
    go_wp2
    generalize Lib.bytesWorld w 5 a0 = w1 at hb0 hr0 ⊢
    generalize grownCap w a0.size 0 5 = C
    have hz:=aj.mk (B.numsOf_length a0)
    have hg:=aj.mk (Nat.le_refl w.heap.size)
    generalize hgg:w.heap.size = g at hb0 hr0 hg ⊢
    have hg':=aj.mk hgg
    clear hgg
    go_loopw [10] (fun v wr=>∃ k:Nat,k ≤ a0.size ∧ v = .int .i64 k ∧ aj (B.wh wr g (B.iV k (B.numsOf a0))) ∧ aj (Below g w wr)) (fun v _=>a0.size - (intOf v).toNat)
    case atStart=>exact ⟨0,Nat.zero_le _,rfl,⟨by rw [B.yY];exact hr0.out⟩,hb0⟩
    case round =>
      obtain ⟨k,hk,rfl,hrow,hbel⟩:=hrel
      clear hr0 hb0 kc
      by_cases hlt:k < a0.size
      · have hkl:k < (B.numsOf a0).length:=by rw [hz.out];exact hlt
        have hc:=(hrow.out k (by rw [B.gL];exact hkl))
        rw [B.EK k _ hkl,B.numsOf_at] at hc
        obtain ⟨hc1,hc2⟩:=hc
        have hrange:=B.AU a0 k
        have hsm:=aj.mk (iW.small (bt a0 k) hrange.1 hrange.2)
        have hset:=aj.mk (B.rowAt_set hrow.out k (B.iP (bt a0 k)) (by rw [B.gL];exact hkl))
        have hset':=aj.mk (show B.wh (wr.setCell ⟨g,k,none⟩ (.int .u8 (B.iP (bt a0 k)))) g (B.iV (k + 1) (B.numsOf a0)) by
          have h1:=hset.out
          rw [← B.numsOf_at,B.vG k _ hkl] at h1
          rw [← B.numsOf_at]
          exact h1)
        have lH:=aj.mk (hbel.out.setCell (p:=⟨g,k,none⟩) (Nat.le_refl _) (.int .u8 (B.iP (bt a0 k))))
        clear hset hrow hbel hkl
        generalize bt a0 k = c at *
        go_wp2_with (go_at_call 119;(with_reducible refine (mI.calls c _ _ hsm.out).mono ?_);rintro e w' ⟨rfl,⟨nd,rfl⟩⟩)
        go_roundw
        case rel=>exact ⟨k + 1,by omega,by go_num,⟨fun j hj=>hset'.out j hj⟩,⟨by first | exact lH.out | exact ⟨lH.out.os,lH.out.tape,lH.out.output,lH.out.size,lH.out.block⟩⟩⟩
        case measure=>simp [intOf];omega
      · obtain rfl:k = a0.size:=by omega
        have hl:(B.iV a0.size (B.numsOf a0)).length = a0.size:=by rw [B.gL];exact hz.out
        have kd:=fun (dst:TypeId) (hd:Try.prog.underlying dst = some .string)=>run_convert_bytes_arg (P:=Try.prog) wr 119 5 Try.underlying119 Try.underlying5 g 0 a0.size C (B.iV a0.size (B.numsOf a0)) hl (fun i hi=>by rw [Nat.zero_add];exact (hrow.out i (by rw [hl];exact hi)).1) dst hd
        replace kd:=kd 9 Try.underlying9
        have he:=aj.mk (show strOfNums (B.iV a0.size (B.numsOf a0)) = B.oK a0 by
          have:=B.AQ (B.numsOf a0)
          rw [hz.out] at this
          rw [this];rfl)
        generalize strOfNums (B.iV a0.size (B.numsOf a0)) = q at kd he
        clear hrow hl hlt
        have he':=he.out
        clear he
        subst he'
        go_wp2
        go_ret
        exact ⟨rfl,by rw [hg'.out];exact hbel.out⟩
  · rw [if_neg hs] at h
    exact absurd h (by simp)
def mJ.f (k:Nat) (a0:ByteArray):Option (ByteArray):=(iQ.f k a0).bind fun J5=>(if J5 = true then ((iW.f a0).bind fun t109=>(some t109)) else (some (⟨#[]⟩:ByteArray)))
set_option maxHeartbeats 8000000 in
set_option maxRecDepth 100000 in
theorem mJ.calls (k:Nat) (a0:ByteArray) (r:ByteArray) (w:World) (h:mJ.f k a0 = some r) :
    Calls Try.prog 92 #[.string a0] w fun e w'=>e = .returned (.string r) ∧ Below w.heap.size w w':=by
  have HB:=aj.mk (Below.refl w.heap.size w)
  have H:((iQ.f k a0).bind fun J5=>(if J5 = true then ((iW.f a0).bind fun t109=>(some t109)) else (some (⟨#[]⟩:ByteArray)))) = some r:=h
  clear h
  replace H:=zbm H
  obtain ⟨J5,Nc,H⟩:=H
  replace H:(if J5 = true then ((iW.f a0).bind fun t109=>(some t109)) else (some (⟨#[]⟩:ByteArray))) = some r:=H
  have A2:=aj.mk Nc
  clear Nc
  by_cases c3:J5 = true
  · subst c3
    have H1:((iW.f a0).bind fun t109=>(some t109)) = some r:=by rw [if_pos rfl] at H;exact H
    clear H
    have H:=H1
    clear H1
    replace H:=zbm H
    obtain ⟨t109,ER,H⟩:=H
    replace H:(some t109) = some r:=H
    have A4:=aj.mk ER
    clear ER
    obtain rfl:=Option.some.inj H
    go_enter Try.func92,Try.ntmps92
    go_wp2_with (first | ((with_reducible refine aQ (f:=91) rfl ?_);refine bP (some 4) rfl rfl Try.func91 (by kernel_rfl) rfl #[.string a0] rfl (by (try simp only [List.map_toArray,List.map_cons,List.map_nil]);first | done | rfl | (simp only [List.length_drop,List.length_take];rfl) | (simp only [ByteArray.size_append,Int.natCast_add];rfl) | (rw [B.dQ] <;> first | rfl | omega | (simp only [decide_eq_false_iff_not,decide_eq_true_eq,Int.not_lt,Nat.not_lt,gt_iff_lt] at * <;> omega))) ?_;(with_reducible refine (iQ.calls k a0 true _ A2.out).mono ?_);rintro e w5 ⟨rfl,hb⟩;refine ⟨_,rfl,?_⟩;have d9:=aj.mk (bE (by repeat (first | (with_reducible first | exact HB.out | apply ak | apply ah | apply au) | exact HB.out)) hb);clear HB;have HB:=d9;clear d9;(try clear hb);(try clear hb2);(try clear hk);(try clear hi)) | ((with_reducible refine aQ (f:=110) rfl ?_);refine bP (some 7) rfl rfl Try.func110 (by kernel_rfl) rfl #[.string a0] rfl (by (try simp only [List.map_toArray,List.map_cons,List.map_nil]);first | done | rfl | (simp only [List.length_drop,List.length_take];rfl) | (simp only [ByteArray.size_append,Int.natCast_add];rfl) | (rw [B.dQ] <;> first | rfl | omega | (simp only [decide_eq_false_iff_not,decide_eq_true_eq,Int.not_lt,Nat.not_lt,gt_iff_lt] at * <;> omega))) ?_;(with_reducible refine (iW.calls a0 t109 _ A4.out).mono ?_);rintro e w6 ⟨rfl,hb⟩;refine ⟨_,rfl,?_⟩;have d9:=aj.mk (bE (by repeat (first | (with_reducible first | exact HB.out | apply ak | apply ah | apply au) | exact HB.out)) hb);clear HB;have HB:=d9;clear d9;(try clear hb);(try clear hb2);(try clear hk);(try clear hi)))
    go_ret
    exact ⟨by first | rfl | (simp [aJ,aK] <;> rfl) | (simp [*,aJ,aK] <;> rfl),by repeat (first | (with_reducible first | exact HB.out | apply ak | apply ah | apply au) | exact HB.out)⟩
  · replace c3:=Bool.eq_false_iff.mpr c3
    subst c3
    have H1:(some (⟨#[]⟩:ByteArray)) = some r:=by rw [if_neg (show ¬ (false = true) by decide)] at H;exact H
    clear H
    have H:=H1
    clear H1
    obtain rfl:=Option.some.inj H
    go_enter Try.func92,Try.ntmps92
    go_wp2_with (first | ((with_reducible refine aQ (f:=91) rfl ?_);refine bP (some 4) rfl rfl Try.func91 (by kernel_rfl) rfl #[.string a0] rfl (by (try simp only [List.map_toArray,List.map_cons,List.map_nil]);first | done | rfl | (simp only [List.length_drop,List.length_take];rfl) | (simp only [ByteArray.size_append,Int.natCast_add];rfl) | (rw [B.dQ] <;> first | rfl | omega | (simp only [decide_eq_false_iff_not,decide_eq_true_eq,Int.not_lt,Nat.not_lt,gt_iff_lt] at * <;> omega))) ?_;(with_reducible refine (iQ.calls k a0 false _ A2.out).mono ?_);rintro e w7 ⟨rfl,hb⟩;refine ⟨_,rfl,?_⟩;have d9:=aj.mk (bE (by repeat (first | (with_reducible first | exact HB.out | apply ak | apply ah | apply au) | exact HB.out)) hb);clear HB;have HB:=d9;clear d9;(try clear hb);(try clear hb2);(try clear hk);(try clear hi)))
    go_ret
    exact ⟨by first | rfl | (simp [aJ,aK] <;> rfl) | (simp [*,aJ,aK] <;> rfl),by repeat (first | (with_reducible first | exact HB.out | apply ak | apply ah | apply au) | exact HB.out)⟩
end Go.Proofs.Ytdkkgecdhapfhaa.ZQ

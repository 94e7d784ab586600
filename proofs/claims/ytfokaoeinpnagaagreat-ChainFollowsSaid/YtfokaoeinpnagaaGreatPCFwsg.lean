/- A part of the proof of ChainFollows: cut, joined and given short names by a program of this session (wip/tools/pack.py); Lean checks it. No condition. -/
import Derived.Below
import Derived.Deep.Draws
import Derived.Deep.AppendLies
import Derived.Maps.AppendAt
import Derived.OwnWalk
import Derived.Laws.BytesArg
import Derived.Laws.MakeOwn
import Derived.Laws.OwnMore
import Derived.Deep.OwnRows
import Derived.Tactics
import Derived.Lib.ConvBytes
import Derived.Laws.Slices
import Derived.WalkKit
import Derived.KernelRfl
import Derived.RowKit3
import Derived.Deep.LoopGhost
import Derived.Deep.QuietTactic
import Derived.BigQuiet
import Derived.WideLaws
import Derived.Deep.DeepCutAuto
import Derived.Deep.CutBlock
import Derived.Deep.RegionHeld3
import Derived.Laws.Rows
import Derived.Lib.AppendStr
import Derived.ArgAppend
import Derived.Laws.IdiomCopy
import Derived.RowKit
import Derived.OrdersHeld
import Derived.Laws.BitsLemmas
import Derived.ChangeKeysEq
import Derived.Lib.Strings
import Derived.Laws.World
import Derived.Laws.Entries
import Derived.Test.YtfokaoeinpnagaaGreatProg
import Derived.Laws.StructEq
import Derived.WalkSpells
import Derived.Lib.Builder
import Derived.Lib.UnsafeStr
import Derived.Test.YtfokaoeinpnagaaGreatPCFwsd
set_option linter.unusedSectionVars false
set_option linter.unusedSimpArgs false
set_option linter.unusedVariables false
set_option maxHeartbeats 16000000
set_option maxRecDepth 100000
namespace Go.Proofs.YtfokaoeinpnagaaGreatW.bI
open Go.RowKit
structure aj (p:Prop):Prop where mk :: (out:p)
structure bA (w w':World):Prop where mk :: (out:∃ n,w' = w.drewN n)
theorem bA.refl (w:World):bA w w:=⟨⟨0,rfl⟩⟩
theorem bA.step {w w':World} (h:bA w w') (n:Nat):bA w (w'.drewN n):=by
 obtain ⟨m,rfl⟩:=h
 exact ⟨⟨m + n,World.drewN_drewN ..⟩⟩
theorem bA.grown {w w':World} (h:bA w w'):Grown w w':=by
 obtain ⟨n,rfl⟩:=h
 induction n with
 | zero=>exact Grown.refl _
 | succ n ih=>rw [← World.drew_drewN];exact Grown.drew ih
theorem bA.below {w w':World} (h:bA w w'):Below w.heap.size w w':=by
 obtain ⟨n,rfl⟩:=h
 induction n with
 | zero=>exact Below.refl _ _
 | succ n ih=>rw [← World.drew_drewN];exact ih.drew
def rd (xs:List Int) (i:Int):Int:=xs.getD i.toNat 0
def bt (s:ByteArray) (i:Int):Int:=if h:i.toNat < s.size then ((s[i.toNat]'h).toNat:Int) else 0
theorem pW (s:ByteArray) (i:Int):∀ h:i.toNat < s.size,((s[i.toNat]'h).toNat:Int) = bt s i:=fun h=>by simp [bt,h]
theorem iA (s:ByteArray) (i:Int):0 ≤ bt s i ∧ bt s i ≤ 255:=by
 unfold bt
 split
 ·rename_i h
  have:=(s[i.toNat]'h).toNat_lt
  omega
 ·omega
theorem ak {w W:World} (h:Below w.heap.size w W) (o:Obj):Below w.heap.size w (W.alloc o):=h.alloc h.size o
theorem jY {B:Nat} {w W:World} (h:Below B w W):Below B w W.drew:=⟨h.os,h.tape,h.output,h.size,h.block⟩
theorem ah {B:Nat} {w W:World} (h:Below B w W) (n:Nat):Below B w (W.drewN n):=⟨h.os,h.tape,h.output,h.size,h.block⟩
theorem Jb {B:Nat} {w w1 w2:World} (h:Below B w w1) (hB:B ≤ w1.heap.size) (k:Below w1.heap.size w1 w2):Below B w w2 :=
 h.trans ⟨k.os,k.tape,k.output,k.size,fun i hi=>k.block i (amk hi hB)⟩
theorem Ab {w w1:World} (h:Below w.heap.size w w1) (row:Option Nat):w.grownBy w1 row:=⟨h.os,h.tape,h.output,h.size,fun i hi _=>h.block i hi⟩
theorem pq {w w1:World} (h:Below w.heap.size w w1) {a:Addr} {v:Value} (hc:w.cell? a = some v):w1.cell? a = some v:=(h.cell (World.block_lt_of_cell? w a hc)).trans hc
theorem add_plain (g j:Nat):(⟨g,0,none⟩:Addr).add j = ⟨g,j,none⟩:=by unfold Addr.add;split <;> simp_all
def iG (w:World) (k:IntKind) (A:Option Addr) (n:Nat) (xs:List Int):Prop :=
 xs.length = n ∧ n ≤ 9223372036854775807 ∧ (0 < n → ∃ ad,A = some ad ∧ ∀ j,j < n → w.cell? (ad.add j) = some (.int k (xs.getD j 0)))
theorem iG.at_ {w:World} {k:IntKind} {A:Option Addr} {n:Nat} {xs:List Int} (h:iG w k A n xs) (i:Int) (h0:0 ≤ i) (h1:i < n):∃ ad,A = some ad ∧ w.cell? (ad.add i.toNat) = some (.int k (rd xs i)):=by
 obtain ⟨ad,e,hc⟩:=h.2.2 (by omega)
 exact ⟨ad,e,hc _ (by omega)⟩
theorem iG.below {w w1:World} {k:IntKind} {A:Option Addr} {n:Nat} {xs:List Int} (h:iG w k A n xs) (hb:Below w.heap.size w w1):iG w1 k A n xs :=
 ⟨h.1,h.2.1,fun hn=>by
  obtain ⟨ad,e,hc⟩:=h.2.2 hn
  exact ⟨ad,e,fun j hj=>pq hb (hc j hj)⟩⟩
theorem TW (W:World) (base:Nat) (e:TypeId) (size:Nat):W.ownsRow base e size (.slice none 0 0) 0 []:=⟨by simp,.inl ⟨rfl,rfl⟩⟩
theorem vL {w:World} {base:Nat} {e:TypeId} {size n:Nat} {v:Value} {xs:List Value} (h:w.ownsRow base e size v n xs) (k:Nat) (hk:v.ownBlock = some k):base ≤ k:=by
 rcases h.2 with ⟨rfl,_⟩ | ⟨g,cap,cur,rfl,hb,_⟩
 ·simp [Value.ownBlock] at hk
 ·have:g = k:=by simpa [Value.ownBlock] using hk
  omega
theorem YT {w:World} {base:Nat} {e:TypeId} {size n:Nat} {v:Value} {xs:List Value} (h:w.ownsRow base e size v n xs) (k:Nat) (hk:v.ownBlock = some k):k < w.heap.size:=by
 rcases h.2 with ⟨rfl,_⟩ | ⟨g,cap,cur,rfl,hb,hh,_⟩
 ·simp [Value.ownBlock] at hk
 ·have:g = k:=by simpa [Value.ownBlock] using hk
  subst this
  exact (amI.1 hh).1
theorem vM {w w1:World} {base:Nat} {e:TypeId} {size n:Nat} {v:Value} {xs:List Value} (h:w.ownsRow base e size v n xs) (hb:Below w.heap.size w w1):w1.ownsRow base e size v n xs :=
 h.kept (Ab hb none) (by cases v.ownBlock <;> simp)
theorem Ma {w w1:World} {base:Nat} {e:TypeId} {size n:Nat} {v:Value} {xs:List Value} (h:w.ownsRow base e size v n xs) {row:Option Nat} (hg:w.grownBy w1 row) (hne:v.ownBlock = none ∨ v.ownBlock ≠ row):w1.ownsRow base e size v n xs:=h.kept hg hne
section
variable {P : Program} {ops:Array Oper} {rest:List Oper} {o:Oper} {a:Act} {Q:Exit → Act → World → Prop}
end
section
variable {P : Program}
end
section
variable {P : Program} {ops:Array Oper} {rest:List Oper} {o:Oper} {a:Act} {Q:Exit → Act → World → Prop}
end
def bytesOf (s:ByteArray):List Int:=s.data.toList.map fun b=>(b.toNat:Int)
theorem iG.Gz {w:World} {k:IntKind} {A:Option Addr} {n:Nat} {xs:List Int} (h:iG w k A n xs) (i:Nat) (hi:i ≤ n):iG w k A i (xs.take i):=by
 refine ⟨by rw [alP,h.1];omega,by have:=h.2.1;omega,fun hp=>?_⟩
 obtain ⟨ad,e,hc⟩:=h.2.2 (by omega)
 refine ⟨ad,e,fun j hj=>?_⟩
 rw [hc j (by omega)]
 simp [al8,hj]
def oH {α:Type} (a b:Option α):Prop:=∀ r,a = some r → b = some r
theorem oH.refl {α:Type} (a:Option α):oH a a:=fun _ h=>h
theorem oH.none {α:Type} (b:Option α):oH Option.none b:=fun _ h=>by cases h
theorem oH.trans {α:Type} {a b c:Option α} (h:oH a b) (k:oH b c):oH a c:=fun r hr=>k r (h r hr)
theorem oH.ite {α:Type} {c:Prop} [Decidable c] {a a' b b':Option α} (h:oH a a') (k:oH b b'):oH (if c then a else b) (if c then a' else b'):=by
 split
 ·exact h
 ·exact k
theorem oH.bind {α β:Type} {a a':Option α} {f f':α → Option β} (h:oH a a') (k:∀ x,oH (f x) (f' x)):oH (a.bind f) (a'.bind f'):=by
 intro r hr
 obtain ⟨x,hx,hf⟩:=Option.bind_eq_some_iff.1 hr
 exact Option.bind_eq_some_iff.2 ⟨x,h x hx,k x r hf⟩
theorem oH.map {α β:Type} {a a':Option α} (f:α → β) (h:oH a a'):oH (a.map f) (a'.map f):=by
 intro r hr
 obtain ⟨x,hx,hf⟩:=ane.1 hr
 exact ane.2 ⟨x,h x hx,hf⟩
theorem xV {α:Type} {g:Nat → Option α} (h:∀ k,oH (g k) (g (k + 1))) (k:Nat):∀ j,oH (g k) (g (k + j))
 | 0=>oH.refl _
 | j + 1=>(xV h k j).trans (h (k + j))
theorem xk {α:Type} {g:Nat → Option α} (h:∀ k,oH (g k) (g (k + 1))) {k k':Nat} (hk:k ≤ k') {r:α} (hr:g k = some r):g k' = some r:=by
 have:=xV h k (k' - k) r hr
 rwa [Nat.add_sub_cancel' hk] at this
def gU {α:Type} (R:α → List Value → Prop) (size:Nat) (ps:List α) (cs:List Value):Prop :=
 cs.length = ps.length * size ∧ ∀ j p,ps[j]? = some p → R p ((cs.drop (j * size)).take size)
theorem gU.none {α:Type} (R:α → List Value → Prop) (size:Nat):gU R size [] []:=⟨by simp,fun j p h=>by simp at h⟩
theorem gU.snoc {α:Type} {R:α → List Value → Prop} {size:Nat} {ps:List α} {cs c:List Value} {p:α} (h:gU R size ps cs) (hp:R p c) (hc:c.length = size):gU R size (ps ++ [p]) (cs ++ c):=by
 refine ⟨by rw [alX,h.1,hc,alX,List.length_singleton,Nat.add_mul,Nat.one_mul],fun j q hq=>?_⟩
 rcases amV j ps.length with hj | hj
 ·rw [am3 hj] at hq
  have h1:j * size + size ≤ cs.length:=by rw [h.1,← ams];exact am8 _ hj
  have h2:=h.2 j q hq
  rw [List.drop_append_of_le_length (by omega),anG (by rw [al5];omega)]
  exact h2
 ·have hj':j = ps.length:=by
   have:=(amm.1 hq).1
   rw [alX,List.length_singleton] at this
   omega
  subst hj'
  have hq':p = q:=by simpa using hq
  subst hq'
  rw [← h.1,List.drop_left,← hc,al3]
  exact hp
theorem gU.BA {α:Type} {R R':α → List Value → Prop} {size:Nat} {ps:List α} {cs:List Value} (h:gU R size ps cs) (hR:∀ p c,R p c → R' p c):gU R' size ps cs:=⟨h.1,fun j p hj=>hR _ _ (h.2 j p hj)⟩
def nY {α:Type} (R:α → List Value → Prop) (size:Nat) (w:World) (A:Option Addr) (n:Nat) (ps:List α):Prop :=
 ps.length = n ∧ n ≤ 9223372036854775807 ∧ (0 < n → ∃ ad,A = some ad ∧ ∀ j p,ps[j]? = some p → ∃ c,c.length = size ∧ R p c ∧ ∀ i u,c[i]? = some u → w.cell? (ad.add (j * size + i)) = some u)
theorem nY.BA {α:Type} {R R':α → List Value → Prop} {size:Nat} {w w1:World} {A:Option Addr} {n:Nat} {ps:List α} (h:nY R size w A n ps) (hb:Below w.heap.size w w1) (hR:∀ p c,R p c → R' p c):nY R' size w1 A n ps :=
 ⟨h.1,h.2.1,fun hn=>by
  obtain ⟨ad,e,hc⟩:=h.2.2 hn
  refine ⟨ad,e,fun j p hj=>?_⟩
  obtain ⟨c,hs,hr,hcell⟩:=hc j p hj
  exact ⟨c,hs,hR _ _ hr,fun i u hu=>pq hb (hcell i u hu)⟩⟩
theorem BD {α:Type} {R:α → List Value → Prop} {w:World} {base n size:Nat} {e:TypeId} {v:Value} {ps:List α} {cs:List Value} (h:w.ownsRow base e size v n cs) (hR:gU R size ps cs) (hn:ps.length = n) :
  ∃ A c,v = .slice A n c ∧ nY R size w A n ps:=by
 rcases Nat.eq_zero_or_pos n with h0 | h0
 ·rcases h.2 with ⟨rfl,rfl⟩ | ⟨g,cap,cur,rfl,_⟩
  ·exact ⟨none,0,rfl,hn,by omega,fun hp=>absurd hp (by omega)⟩
  ·exact ⟨_,cap,rfl,hn,by omega,fun hp=>absurd hp (by omega)⟩
 ·obtain ⟨g,cap,rfl,_,_⟩:=h.form h0
  have hm:n ≤ 9223372036854775807:=by
   rcases h.2 with ⟨_,h1⟩ | ⟨g',cap',cur,he,_,_,h1,h2,_⟩
   ·omega
   ·simp only [maxLen] at h2
    omega
  refine ⟨_,cap,rfl,hn,hm,fun _=>⟨_,rfl,fun j p hj=>⟨(cs.drop (j * size)).take size,?_,hR.2 j p hj,fun i u hu=>?_⟩⟩⟩
  ·have hjl:=(amm.1 hj).1
   have h1:j * size + size ≤ cs.length:=by rw [hR.1,← ams];exact am8 _ hjl
   rw [alP,al5]
   omega
  ·refine h.cells (g:=g) rfl _ u ?_
   rw [amr] at hu
   split at hu
   ·rw [amB] at hu
    exact hu
   ·cases hu
section
variable {P : Program} {ops:Array Oper} {rest:List Oper} {o:Oper} {a:Act} {Q:Exit → Act → World → Prop}
theorem nZ {w0 W:World} (base:Nat) (hgd:o.guard = none) (s x:Operand) (t e:TypeId) (z:Value) (size bytes:Nat)
  (ho:o.op = .call { callee:=.builtin .append,args:=#[s,x],argTypes:=#[t,t] })
  (ht:P.underlying t = some (.slice e)) (hinfo:(P.info? e).map (fun i=>(i.zero,i.size,i.bytes)) = some (some z,size,bytes)) (hz:z.cells.size = size) (hs0:0 < size) (hb0:0 < bytes)
  (v:Value) (n:Nat) (xs ys:List Value) (hs:a.eval s = v) (hx:a.eval x = .slice (some ⟨W.heap.size,0,none⟩) 1 1) (hys:ys.length = size) (h1:∀ u ∈ ys,u.oneCell' = true)
  (HO:W.ownsRow base e size v n xs) (HB:Below base w0 W) (hbase:base ≤ W.heap.size) (hl:(n + 1) * bytes ≤ 140737488355328)
  (h:∀ v1 w1,w1.ownsRow base e size v1 (n + 1) (xs ++ ys) → Below base w0 w1 → W.grownBy w1 v.ownBlock → (v1.ownBlock = v.ownBlock ∨ ∃ b,v1.ownBlock = some b ∧ W.heap.size ≤ b) → wpList P ops Q rest (a.put o.dst v1) w1) :
  wpList P ops Q (o :: rest) a (W.alloc (.cells ys.toArray e)):=by
 obtain ⟨i0,hi,hzz⟩:=ane.1 hinfo
 simp only [alK] at hzz
 obtain ⟨hz0,hz1,hz2⟩:=hzz
 have hlen:n + 1 ≤ 140737488355328:=alU (Nat.le_mul_of_pos_right _ hb0) hl
 refine wpList_append_own_at (W.alloc (.cells ys.toArray e)) hgd s x t ho base e i0 z size bytes ht hi hz0 hz1 hz2 hz hs0 v n xs hs (HO.alloc _) ⟨W.heap.size,0,none⟩ 1 1 ys hx (by rw [hys];simp)
  (by simpa using World.news_of_block (cs:=ys.toArray) (t:=e) (fr:=(0,0)) (heap_alloc_new W (.cells ys.toArray e))) h1 (by simp only [maxLen];omega) hl (by simp;omega) ?_
 intro v1 w1 hown hg _ hat
 refine h v1 w1 hown ((HB.alloc hbase _).grown hg (by simp;omega) (vL HO)) (World.grownBy.trans (World.grownBy_alloc W _ _) hg) ?_
 rcases hat with hat | hat
 ·exact .inl hat
 ·exact .inr ⟨_,hat,by simp⟩
end
theorem own_ne {w:World} {base:Nat} {e t:TypeId} {size n g:Nat} {v:Value} {xs:List Value} {cs:Array Value} (h:w.ownsRow base e size v n xs) (hg:w.heap[g]? = some (.cells cs t (0,0))) (hne:e ≠ t):some g ≠ v.ownBlock:=by
 rcases h.2 with ⟨rfl,_⟩ | ⟨g',cap,cur,rfl,_,hh,_⟩
 ·simp [Value.ownBlock]
 ·intro he
  have:g = g':=by simpa [Value.ownBlock] using he
  subst this
  rw [hg] at hh
  injection hh with hh
  injection hh with _ ht
  exact hne ht.symm
theorem TY {w:World} {g:Nat} {t:TypeId} {cs:Array Value} (h:w.heap[g]? = some (.cells cs t (0,0))) (i:Nat) (u:Value):(w.setCell ⟨g,i,none⟩ u).heap[g]? = some (.cells (cs.setIfInBounds i u) t (0,0)):=by
 simp [World.setCell,Array.getElem?_modify,h]
theorem qy {w:World} {g:Nat} {t:TypeId} {cs:Array Value} (h:w.heap[g]? = some (.cells cs t (0,0))) {p:Addr} (hp:g ≠ p.block) (u:Value):(w.setCell p u).heap[g]? = some (.cells cs t (0,0)):=(Below.heap_setCell w p u g hp).trans h
theorem kH {w:World} {g:Nat} {o:Obj} (h:w.heap[g]? = some o):g < w.heap.size:=(amI.1 h).1
theorem aX {w:World} {g:Nat} {t:TypeId} {cs:Array Value} (h:w.heap[g]? = some (.cells cs t (0,0))) (i:Nat):w.cell? ⟨g,i,none⟩ = cs[i]?:=cell_of_row w g i cs t (0,0) h
theorem aJ {w:World} {g:Nat} {t:TypeId} {cs:Array Value} (h:w.heap[g]? = some (.cells cs t (0,0))) (i:Nat):w.frozen? ⟨g,i,none⟩ = false:=by simp [World.frozen?,h]
theorem sH {w w1:World} {g:Nat} {o:Obj} {row:Option Nat} (h:w.heap[g]? = some o) (hg:w.grownBy w1 row) (hne:some g ≠ row):w1.heap[g]? = some o:=(hg.block g (kH h) hne).trans h
theorem YU {w:World} {g g':Nat} {t t':TypeId} {cs cs':Array Value} (h:w.heap[g]? = some (.cells cs t (0,0))) (h':w.heap[g']? = some (.cells cs' t' (0,0))) (hne:t ≠ t'):g ≠ g':=by
 rintro rfl
 rw [h] at h'
 injection h' with h'
 injection h' with _ ht
 exact hne ht
def iR (w w':World) (g:Nat) (row:Option Nat):Prop:=w.heap.size ≤ w'.heap.size ∧ ∀ i,i < w.heap.size → i ≠ g → some i ≠ row → w'.heap[i]? = w.heap[i]?
theorem iR.refl (w:World) (g:Nat) (row:Option Nat):iR w w g row:=⟨alC _,fun _ _ _ _=>rfl⟩
theorem iR.of_below {w w1:World} (h:Below w.heap.size w w1) (g:Nat) (row:Option Nat):iR w w1 g row:=⟨h.size,fun i hi _ _=>h.block i hi⟩
theorem iR.trans {w w1 w2:World} {g:Nat} {row dx:Option Nat} (h:iR w w1 g row) (k:iR w1 w2 g dx) (hr:dx = row ∨ ∃ b,dx = some b ∧ w.heap.size ≤ b):iR w w2 g row :=
 ⟨alU h.1 k.1,fun i hi hg hn=>by
  refine (k.2 i (amk hi h.1) hg ?_).trans (h.2 i hi hg hn)
  rcases hr with rfl | ⟨b,rfl,hb⟩
  ·exact hn
  ·intro e
   injection e with e
   omega⟩
theorem iR.blk {w w1:World} {g g':Nat} {row:Option Nat} {o:Obj} (h:iR w w1 g row) (hb:w.heap[g']? = some o) (hg:g' ≠ g) (hr:some g' ≠ row):w1.heap[g']? = some o:=(h.2 g' (kH hb) hg hr).trans hb
theorem iR.own {w w1:World} {g:Nat} {row:Option Nat} {base:Nat} {e:TypeId} {size n:Nat} {v:Value} {xs:List Value} (h:iR w w1 g row) (ho:w.ownsRow base e size v n xs) (hg:v.ownBlock ≠ some g) (hr:v.ownBlock = none ∨ v.ownBlock ≠ row):w1.ownsRow base e size v n xs:=by
 obtain ⟨h1,h2⟩:=ho
 refine ⟨h1,?_⟩
 rcases h2 with h2 | ⟨b,cap,cur,rfl,hb,hh,r⟩
 ·exact .inl h2
 ·refine .inr ⟨b,cap,cur,rfl,hb,h.blk hh ?_ ?_,r⟩
  ·intro e
   exact hg (by rw [← e];rfl)
  ·rcases hr with hr | hr
   ·simp [Value.ownBlock] at hr
   ·exact hr
def Ev {α:Type} (g:Nat → Option α) (r:α):Prop:=∃ K,∀ k,K ≤ k → g k = some r
theorem Ev.of {α:Type} {g:Nat → Option α} {r:α} (hg:∀ k,oH (g k) (g (k + 1))) {k:Nat} (h:g k = some r):Ev g r:=⟨k,fun _ hk=>xk hg hk h⟩
theorem Ev.now {α:Type} (r:α):Ev (fun _=>some r) r:=⟨0,fun _ _=>rfl⟩
theorem Ev.rounds {α:Type} {g:Nat → Option α} {r:α} (h:Ev g r):∃ k,g k = some r:=by
 obtain ⟨K,h⟩:=h
 exact ⟨K,h K (alC _)⟩
theorem Ev.bind {α β:Type} {g:Nat → Option α} {f:Nat → α → Option β} {a:α} {r:β} (h:Ev g a) (k:Ev (fun n=>f n a) r):Ev (fun n=>(g n).bind (f n)) r:=by
 obtain ⟨K,h⟩:=h
 obtain ⟨K',k⟩:=k
 refine ⟨max K K',fun n hn=>?_⟩
 have h1:=h n (by omega)
 have h2:=k n (by omega)
 simp only [h1,Option.bind_some]
 exact h2
theorem Ev.step {α:Type} {g f:Nat → Option α} {r:α} (h:∀ k,g (k + 1) = f k) (k:Ev f r):Ev g r:=by
 obtain ⟨K,k⟩:=k
 refine ⟨K + 1,fun n hn=>?_⟩
 obtain ⟨m,rfl⟩:∃ m,n = m + 1:=⟨n - 1,by omega⟩
 rw [h]
 exact k m (by omega)
theorem Ev.congr {α:Type} {g f:Nat → Option α} {r:α} (h:∀ k,g k = f k) (k:Ev f r):Ev g r:=by
 obtain ⟨K,k⟩:=k
 exact ⟨K,fun n hn=>(h n).trans (k n hn)⟩
section
variable {P : Program} {ops:Array Oper} {o:Oper} {a:Act} {Q:Exit → Act → World → Prop} {K:Act → World → Prop}
theorem vN {w0 W:World} (base:Nat) (hw:Region.wanted o (yielded ops a.tmps) = true) (s x:Operand) (t e:TypeId) (z:Value) (size bytes:Nat)
  (ho:o.op = .call { callee:=.builtin .append,args:=#[s,x],argTypes:=#[t,t] })
  (ht:P.underlying t = some (.slice e)) (hinfo:(P.info? e).map (fun i=>(i.zero,i.size,i.bytes)) = some (some z,size,bytes)) (hz:z.cells.size = size) (hs0:0 < size) (hb0:0 < bytes)
  (v:Value) (n:Nat) (xs ys:List Value) (hs:a.eval s = v) (hx:a.eval x = .slice (some ⟨W.heap.size,0,none⟩) 1 1) (hys:ys.length = size) (h1:∀ u ∈ ys,u.oneCell' = true)
  (HO:W.ownsRow base e size v n xs) (HB:Below base w0 W) (hbase:base ≤ W.heap.size) (hl:(n + 1) * bytes ≤ 140737488355328)
  (h:∀ v1 w1,w1.ownsRow base e size v1 (n + 1) (xs ++ ys) → Below base w0 w1 → W.grownBy w1 v.ownBlock → (v1.ownBlock = v.ownBlock ∨ ∃ b,v1.ownBlock = some b ∧ W.heap.size ≤ b) → K (a.put o.dst v1) w1) :
  if Region.wanted o (yielded ops a.tmps) = true then Oper.wp P o a (W.alloc (.cells ys.toArray e)) K Q else K (a.put o.dst undef) (W.alloc (.cells ys.toArray e)):=by
 obtain ⟨i0,hi,hzz⟩:=ane.1 hinfo
 simp only [alK] at hzz
 obtain ⟨hz0,hz1,hz2⟩:=hzz
 have hlen:n + 1 ≤ 140737488355328:=alU (Nat.le_mul_of_pos_right _ hb0) hl
 rw [alx hw]
 obtain ⟨v1,w1,hr,hown,hg,_,hat⟩:=run_append_own_at (P:=P) (W.alloc (.cells ys.toArray e)) base t o.type e i0 z size bytes ht hi hz0 hz1 hz2 hz hs0 v n xs (HO.alloc _) ⟨W.heap.size,0,none⟩ 1 1 ys (by rw [hys];simp)
  (by simpa using World.news_of_block (cs:=ys.toArray) (t:=e) (fr:=(0,0)) (heap_alloc_new W (.cells ys.toArray e))) h1 (by simp only [maxLen];omega) hl (by simp;omega)
 unfold Oper.wp execOp
 simp only [ho,resolve,invoke,builtin,Sem.run_bind,Sem.run_pure,Result.andThen_ok,alJ,alD,alE,hs,hx,hr]
 refine h v1 w1 hown ((HB.alloc hbase _).grown hg (by simp;omega) (vL HO)) (World.grownBy.trans (World.grownBy_alloc W _ _) hg) ?_
 rcases hat with hat | hat
 ·exact .inl hat
 ·exact .inr ⟨_,hat,by simp⟩
end
theorem Jc {w:World} {base base':Nat} {e:TypeId} {size n:Nat} {v:Value} {xs:List Value} (h:w.ownsRow base e size v n xs) (hb:base' ≤ base):w.ownsRow base' e size v n xs:=by
 obtain ⟨h1,h2⟩:=h
 refine ⟨h1,?_⟩
 rcases h2 with h2 | ⟨g,cap,cur,rfl,hg,r⟩
 ·exact .inl h2
 ·exact .inr ⟨g,cap,cur,rfl,alU hb hg,r⟩
section
variable {α : Type} {enc:α → Value} {d:α}
def encs (enc:α → Value) (xs:List α):List Value:=xs.map enc
def rE (d:α) (xs:List α) (i:Int):α:=xs.getD i.toNat d
theorem xW (xs:List α):(encs enc xs).length = xs.length:=by simp [encs]
theorem P5 (xs:List α) (j:Nat) (h:j < xs.length):(encs enc xs)[j]? = some (enc (xs.getD j d)):=by
 simp [encs,alT h,al8]
def iy (enc:α → Value) (d:α) (w:World) (A:Option Addr) (n:Nat) (xs:List α):Prop :=
 xs.length = n ∧ n ≤ 9223372036854775807 ∧ (0 < n → ∃ ad,A = some ad ∧ ∀ j,j < n → w.cell? (ad.add j) = some (enc (xs.getD j d)))
theorem iy.at_ {w:World} {A:Option Addr} {n:Nat} {xs:List α} (h:iy enc d w A n xs) (i:Int) (h0:0 ≤ i) (h1:i < n):∃ ad,A = some ad ∧ w.cell? (ad.add i.toNat) = some (enc (rE d xs i)):=by
 obtain ⟨ad,e,hc⟩:=h.2.2 (by omega)
 exact ⟨ad,e,hc _ (by omega)⟩
theorem iy.below {w w1:World} {A:Option Addr} {n:Nat} {xs:List α} (h:iy enc d w A n xs) (hb:Below w.heap.size w w1):iy enc d w1 A n xs :=
 ⟨h.1,h.2.1,fun hn=>by
  obtain ⟨ad,e,hc⟩:=h.2.2 hn
  exact ⟨ad,e,fun j hj=>pq hb (hc j hj)⟩⟩
theorem iy.Gz {w:World} {A:Option Addr} {n:Nat} {xs:List α} (h:iy enc d w A n xs) (i:Nat) (hi:i ≤ n):iy enc d w A i (xs.take i):=by
 refine ⟨by rw [alP,h.1];omega,by have:=h.2.1;omega,fun hp=>?_⟩
 obtain ⟨ad,e,hc⟩:=h.2.2 (by omega)
 refine ⟨ad,e,fun j hj=>?_⟩
 rw [hc j (by omega)]
 simp [al8,hj]
theorem Mc {W:World} {base g n cap:Nat} {e:TypeId} {xs:List α} (h:W.ownsRow base e 1 (.slice (some ⟨g,0,none⟩) n cap) n (encs enc xs)) (i:Int) (h0:0 ≤ i) (h1:i < n) :
  W.cell? ⟨g,i.toNat,none⟩ = some (enc (rE d xs i)) ∧ W.frozen? ⟨g,i.toNat,none⟩ = false:=by
 have hl:xs.length = n:=by have:=h.1;simp [encs] at this;exact this
 constructor
 ·have hc:=h.cells (g:=g) rfl i.toNat _ (P5 (d:=d) xs i.toNat (by omega))
  rwa [add_plain] at hc
 ·rcases h.2 with ⟨h',_⟩ | ⟨g',cap',cur,h',_,hh,_⟩
  ·cases h'
  ·have:g = g':=by injection h' with h';injection h' with h';injection h' with h'
   subst this
   simp [World.frozen?,hh]
theorem En {W:World} {base g n cap:Nat} {e:TypeId} {xs:List α} (h:W.ownsRow base e 1 (.slice (some ⟨g,0,none⟩) n cap) n (encs enc xs)) (i:Int) (x:α) :
  (W.setCell ⟨g,i.toNat,none⟩ (enc x)).ownsRow base e 1 (.slice (some ⟨g,0,none⟩) n cap) n (encs enc (xs.set i.toNat x)) ∧ W.grownBy (W.setCell ⟨g,i.toNat,none⟩ (enc x)) (some g):=by
 have hs:=h.stored i.toNat (enc x)
 have he:(encs enc xs).set i.toNat (enc x) = encs enc (xs.set i.toNat x):=by simp [encs,amZ]
 rwa [he] at hs
end
section
variable {α : Type} {P:Program} {ops:Array Oper} {rest:List Oper} {o:Oper} {a:Act} {Q:Exit → Act → World → Prop}
end
theorem aA {w:World} {g:Nat} {o:Obj} (h:w.heap[g]? = some o) (o':Obj):(w.alloc o').heap[g]? = some o:=(Below.heap_alloc w o' g (kH h)).trans h
theorem aK {w:World} {g:Nat} {o:Obj} (h:w.heap[g]? = some o):w.drew.heap[g]? = some o:=h
theorem aG {w:World} {g:Nat} {o:Obj} (h:w.heap[g]? = some o) (n:Nat):(w.drewN n).heap[g]? = some o:=h
theorem eO {w w1:World} {g:Nat} {o:Obj} (h:w.heap[g]? = some o) (hb:Below w.heap.size w w1):w1.heap[g]? = some o:=(hb.block g (kH h)).trans h
theorem vO (w:World) (o:Obj):(w.alloc o).heap[w.heap.size]? = some o:=heap_alloc_new w o
section
variable {P : Program}
theorem lg {fn:Func} {p u:Tmp} {ty:TypeId} (h:fn.results = #[.cell p ty,.tmp u]) (tmps:Array Value) (w:World) (g:Nat) (t:TypeId) (cs:Array Value) (fr:Nat × Nat) (d:TypeDesc)
  (hp:tmps.getD p undef = .pointer (some ⟨g,0,none⟩)) (hg:w.heap[g]? = some (.cells cs t fr))
  (hu:P.underlying ty = some d) (hd:(match d with | .struct _ | .array _ _=>true | _=>false) = true) (hi:(P.info? ty).map (·.size) = some cs.size) :
  (results fn tmps).run P w = .ok (.tuple #[.agg cs,tmps.getD u undef]) w:=by
 have hp':tmps[p]?.getD undef = .pointer (some ⟨g,0,none⟩):=by simpa using hp
 simp [results,h,hp',asAddr,run_loadVar_row w g t ty cs fr d hg hu hd hi]
end
theorem YV {w:World} {base n m c size:Nat} {e:TypeId} {A:Option Addr} {xs:List Value} (h:w.ownsRow base e size (.slice A m c) n xs):m ≤ c:=by
 rcases h.2 with ⟨he,_⟩ | ⟨g,cap,cur,he,_,_,hnc,_⟩
 ·injection he with _ h2 h3
  omega
 ·injection he with _ h2 h3
  omega
def iw {α:Type} (R:α → List Value → Prop) (e:TypeId) (size:Nat) (w:World) (base:Nat) (v:Value) (ps:List α):Prop :=
 ∃ inner,w.ownsRow base e size v ps.length inner ∧ gU R size ps inner
section
variable {α : Type} {R R':α → List Value → Prop} {e:TypeId} {size:Nat} {w w1:World} {base:Nat} {v:Value} {ps:List α}
theorem iw.none_ (R:α → List Value → Prop) (e:TypeId) (size:Nat) (w:World) (base:Nat):iw R e size w base (.slice none 0 0) []:=⟨[],TW _ _ _ _,gU.none _ _⟩
theorem iw.BA (h:iw R e size w base v ps) (hR:∀ p c,R p c → R' p c):iw R' e size w base v ps:=by
 obtain ⟨inner,ho,hr⟩:=h
 exact ⟨inner,ho,hr.BA hR⟩
theorem iw.below (h:iw R e size w base v ps) (hb:Below w.heap.size w w1):iw R e size w1 base v ps:=by
 obtain ⟨inner,ho,hr⟩:=h
 exact ⟨inner,vM ho hb,hr⟩
theorem iw.other (h:iw R e size w base v ps) {row:Option Nat} (hg:w.grownBy w1 row) (hne:v.ownBlock = none ∨ v.ownBlock ≠ row):iw R e size w1 base v ps:=by
 obtain ⟨inner,ho,hr⟩:=h
 exact ⟨inner,Ma ho hg hne,hr⟩
theorem iw.keep (h:iw R e size w base v ps) {g:Nat} {t:TypeId} {cells:Array Value} (hb:w.heap[g]? = some (.cells cells t (0,0))) (ht:e ≠ t) (hk:iR w w1 g none):iw R e size w1 base v ps:=by
 obtain ⟨inner,ho,hr⟩:=h
 exact ⟨inner,hk.own ho (Ne.symm (own_ne ho hb ht)) (by cases v.ownBlock <;> simp),hr⟩
theorem iw.reads (h:iw R e size w base v ps):∃ A c,v = .slice A ps.length c ∧ ps.length ≤ c ∧ nY R size w A ps.length ps:=by
 obtain ⟨inner,ho,hr⟩:=h
 obtain ⟨A,c,rfl,hrow⟩:=BD ho hr rfl
 exact ⟨A,c,rfl,YV ho,hrow⟩
theorem iw.P6 (h:iw R e size w base v ps) {g:Nat} {t:TypeId} {cells:Array Value} (hb:w.heap[g]? = some (.cells cells t (0,0))) (ht:e ≠ t):some g ≠ v.ownBlock:=by
 obtain ⟨inner,ho,hr⟩:=h
 exact own_ne ho hb ht
theorem iw.lit (W:World) (base:Nat) {inner:List Value} (hr:gU R size ps inner) (hb:base ≤ W.heap.size) (hm:ps.length ≤ 9223372036854775807) :
  iw R e size (W.alloc (.cells inner.toArray e)) base (.slice (some ⟨W.heap.size,0,none⟩) ps.length ps.length) ps:=by
 have h:=World.ownsRow_lit (base:=base) (e:=e) (size:=size) W inner.toArray ps.length hb (by simpa [maxLen] using hm) (by simpa using hr.1)
 exact ⟨inner,by simpa using h,hr⟩
end
section
variable {P : Program} {ops:Array Oper} {rest:List Oper} {o:Oper} {a:Act} {Q:Exit → Act → World → Prop} {α:Type} {R:α → List Value → Prop}
theorem iw.append {w0 W:World} (base:Nat) (hgd:o.guard = none) (s x:Operand) (t e:TypeId) (z:Value) (size bytes:Nat)
  (ho:o.op = .call { callee:=.builtin .append,args:=#[s,x],argTypes:=#[t,t] })
  (ht:P.underlying t = some (.slice e)) (hinfo:(P.info? e).map (fun i=>(i.zero,i.size,i.bytes)) = some (some z,size,bytes)) (hz:z.cells.size = size) (hs0:0 < size) (hb0:0 < bytes)
  (v:Value) (ps:List α) (p:α) (cs:List Value) (hs:a.eval s = v) (hx:a.eval x = .slice (some ⟨W.heap.size,0,none⟩) 1 1) (hp:R p cs) (hcs:cs.length = size) (h1:∀ u ∈ cs,u.oneCell' = true)
  (HO:iw R e size W base v ps) (HB:Below base w0 W) (hbase:base ≤ W.heap.size) (hl:(ps.length + 1) * bytes ≤ 140737488355328)
  (h:∀ v1 w1,iw R e size w1 base v1 (ps ++ [p]) → Below base w0 w1 → W.grownBy w1 v.ownBlock → (v1.ownBlock = v.ownBlock ∨ ∃ b,v1.ownBlock = some b ∧ W.heap.size ≤ b) → wpList P ops Q rest (a.put o.dst v1) w1) :
  wpList P ops Q (o :: rest) a (W.alloc (.cells cs.toArray e)):=by
 obtain ⟨inner,hown,hr⟩:=HO
 refine nZ base hgd s x t e z size bytes ho ht hinfo hz hs0 hb0 v ps.length inner cs hs hx hcs h1 hown HB hbase hl ?_
 intro v1 w1 hown1 hb1 hg1 Jd
 exact h v1 w1 ⟨inner ++ cs,by rw [alX,List.length_singleton];exact hown1,hr.snoc hp hcs⟩ hb1 hg1 Jd
end
section
variable {P : Program} {ops:Array Oper} {o:Oper} {a:Act} {Q:Exit → Act → World → Prop} {K:Act → World → Prop} {α:Type} {R:α → List Value → Prop}
end
section
variable {α : Type} {P:Program}
theorem iy.len_ {enc:α → Value} {d:α} {w:World} {A:Option Addr} {n:Nat} {xs:List α} (h:iy enc d w A n xs):iy enc d w A xs.length xs:=by rw [h.1];exact h
end
section
variable {P : Program} {ops:Array Oper} {rest:List Oper} {o:Oper} {a:Act} {Q:Exit → Act → World → Prop}
end
structure Kd (α:Type) where
 sz:Nat
 E:List Nat
 K:World → α → List Value → Prop
 M:World → Nat → (Nat → Prop) → α → List Value → Prop
 qH:∀ {w x cs},K w x cs → cs.length = sz
 rF:∀ {w x cs},K w x cs → ∀ u ∈ cs,u.oneCell' = true
 nI:∀ {w w1:World} {x cs},Below w.heap.size w w1 → K w x cs → K w1 x cs
 jZ:∀ {w base ok x cs},M w base ok x cs → K w x cs
 lN:∀ {w base ok ok' x cs},(∀ k,ok k → ok' k) → M w base ok x cs → M w base ok' x cs
 lQ:∀ {w:World} {base ok x cs},M w base ok x cs → M w base (fun k=>ok k ∧ base ≤ k ∧ k < w.heap.size ∧ ∃ q,q ∈ E ∧ ∃ cells,w.heap[k]? = some (.cells cells q (0,0))) x cs
 oh:∀ {w w1:World} {base ok x cs},(∀ k,ok k → w1.heap[k]? = w.heap[k]?) → M w base ok x cs → M w1 base ok x cs
 nJ:∀ {w base base' ok x cs},base' ≤ base → M w base ok x cs → M w base' ok x cs
theorem P7 {w w1:World} {base:Nat} {e:TypeId} {size n:Nat} {v:Value} {xs:List Value} (h:w.ownsRow base e size v n xs) (hm:∀ k,v.ownBlock = some k → w1.heap[k]? = w.heap[k]?):w1.ownsRow base e size v n xs:=by
 obtain ⟨h1,h2⟩:=h
 refine ⟨h1,?_⟩
 rcases h2 with h2 | ⟨g,cap,cur,rfl,hg,hh,r⟩
 ·exact .inl h2
 ·exact .inr ⟨g,cap,cur,rfl,hg,(hm g (by simp [Value.ownBlock])).trans hh,r⟩
theorem Cw {w:World} {base:Nat} {e:TypeId} {size n:Nat} {v:Value} {xs:List Value} (h:w.ownsRow base e size v n xs) (k:Nat) (hk:v.ownBlock = some k):∃ cells,w.heap[k]? = some (.cells cells e (0,0)):=by
 rcases h.2 with ⟨rfl,_⟩ | ⟨g,cap,cur,rfl,hg,hh,r⟩
 ·simp [Value.ownBlock] at hk
 ·have:g = k:=by simpa [Value.ownBlock] using hk
  subst this
  exact ⟨cur,hh⟩
namespace Kd
def C {α:Type} (d:Kd α) (w:World) (A:Option Addr) (n:Nat) (xs:List α):Prop:=nY (d.K w) d.sz w A n xs
def R {α:Type} (d:Kd α) (e:Nat) (w:World) (base:Nat) (ok:Nat → Prop) (v:Value) (xs:List α):Prop :=
 (∀ k,v.ownBlock = some k → ok k) ∧ iw (d.M w base (fun k=>ok k ∧ some k ≠ v.ownBlock)) e d.sz w base v xs
section
variable {α : Type} {d:Kd α} {e:Nat} {w w1:World} {base:Nat} {ok ok':Nat → Prop} {v:Value} {xs:List α}
theorem T9 {A:Option Addr} {n:Nat} (h:d.C w A n xs) (hb:Below w.heap.size w w1):d.C w1 A n xs:=nY.BA h hb (fun _ _ hp=>d.nI hb hp)
theorem kF (d:Kd α) (e:Nat) (w:World) (base:Nat) (ok:Nat → Prop):d.R e w base ok (.slice none 0 0) []:=⟨fun k hk=>by simp [Value.ownBlock] at hk,iw.none_ _ _ _ _ _⟩
theorem qz (h:d.R e w base ok v xs) (hok:∀ k,ok k → ok' k):d.R e w base ok' v xs:=⟨fun k hk=>hok k (h.1 k hk),h.2.BA (fun _ _ hp=>d.lN (fun k hk=>⟨hok k hk.1,hk.2⟩) hp)⟩
theorem Eo (h:d.R e w base ok v xs):d.R e w base (fun k=>ok k ∧ base ≤ k ∧ k < w.heap.size ∧ ∃ q,q ∈ e :: d.E ∧ ∃ cells,w.heap[k]? = some (.cells cells q (0,0))) v xs:=by
 obtain ⟨h0,inner,ho,hr⟩:=h
 refine ⟨fun k hk=>?_,inner,ho,hr.BA (fun _ _ hp=>d.lN (fun k hk=>?_) (d.lQ hp))⟩
 ·obtain ⟨cells,hc⟩:=Cw ho k hk
  exact ⟨h0 k hk,vL ho k hk,YT ho k hk,e,amX,cells,hc⟩
 ·obtain ⟨⟨h1,h2⟩,h3,h4,q,hq,hc⟩:=hk
  exact ⟨⟨h1,h3,h4,q,amu _ hq,hc⟩,h2⟩
theorem P8 (h:d.R e w base ok v xs) (hm:∀ k,ok k → w1.heap[k]? = w.heap[k]?):d.R e w1 base ok v xs:=by
 obtain ⟨h0,inner,ho,hr⟩:=h
 exact ⟨h0,inner,P7 ho (fun k hk=>hm k (h0 k hk)),hr.BA (fun _ _ hp=>d.oh (fun k hk=>hm k hk.1) hp)⟩
theorem sI {base':Nat} (h:d.R e w base ok v xs) (hb:base' ≤ base):d.R e w base' ok v xs:=by
 obtain ⟨h0,inner,ho,hr⟩:=h
 exact ⟨h0,inner,Jc ho hb,hr.BA (fun _ _ hp=>d.nJ hb hp)⟩
theorem P9 (h:d.R e w base ok v xs) (hm:∀ k,ok k → k < w.heap.size → w1.heap[k]? = w.heap[k]?):d.R e w1 base ok v xs :=
 qz (P8 (Eo h) (fun k hk=>hm k hk.1 hk.2.2.1)) (fun _ hk=>hk.1)
theorem YW {x:α} {cs:List Value} (h:d.M w base ok x cs) (hm:∀ k,ok k → k < w.heap.size → w1.heap[k]? = w.heap[k]?):d.M w1 base ok x cs :=
 d.lN (fun _ hk=>hk.1) (d.oh (fun k hk=>hm k hk.1 hk.2.2.1) (d.lQ h))
theorem kU (h:d.R e w base ok v xs) (hb:Below w.heap.size w w1):d.R e w1 base ok v xs:=P9 h (fun k _ hk=>hb.block k hk)
theorem qI (h:d.R e w base ok v xs) {p:Addr} (hok:∀ k,ok k → k ≠ p.block) (u:Value):d.R e (w.setCell p u) base ok v xs:=P9 h (fun k ho _=>Below.heap_setCell w p u k (hok k ho))
theorem sJ (h:d.R e w base ok v xs) {g t:Nat} {cells:Array Value} (hb:w.heap[g]? = some (.cells cells t (0,0))) (ht:∀ q,q ∈ e :: d.E → q ≠ t):d.R e w base (fun k=>ok k ∧ k ≠ g) v xs :=
 qz (Eo h) (fun k hk=>⟨hk.1,by
  obtain ⟨_,_,_,q,hq,cells',hc⟩:=hk
  rintro rfl
  rw [hc] at hb
  injection hb with hb
  injection hb with _ hb
  exact ht q hq hb⟩)
theorem Qa (h:d.R e w base ok v xs) {g t:Nat} {cells:Array Value} (hb:w.heap[g]? = some (.cells cells t (0,0))) (ht:∀ q,q ∈ e :: d.E → q ≠ t) (j:Nat) (u:Value):d.R e (w.setCell ⟨g,j,none⟩ u) base ok v xs :=
 qz (qI (p:=⟨g,j,none⟩) (sJ h hb ht) (fun _ hk=>hk.2) u) (fun _ hk=>hk.1)
theorem Ep (h:d.R e w base ok v xs):∃ A c,v = .slice A xs.length c ∧ xs.length ≤ c ∧ d.C w A xs.length xs:=by
 obtain ⟨A,c,he,hl,hr⟩:=iw.reads h.2
 exact ⟨A,c,he,hl,hr.BA (Below.refl _ _) (fun _ _ hp=>d.jZ hp)⟩
theorem vP (h:d.R e w base ok v xs):∃ A c,v = .slice A xs.length c:=by
 obtain ⟨A,c,he,_⟩:=Ep h
 exact ⟨A,c,he⟩
theorem Wv (h:d.R e w base ok v xs):∃ inner,w.ownsRow base e d.sz v xs.length inner:=by
 obtain ⟨_,inner,ho,_⟩:=h
 exact ⟨inner,ho⟩
theorem Ua (h:d.R e w base ok v xs) {g t:Nat} {cells:Array Value} (hb:w.heap[g]? = some (.cells cells t (0,0))) (ht:e ≠ t):some g ≠ v.ownBlock:=iw.P6 h.2 hb ht
end
def scalar {α:Type} (enc:α → Value) (h1:∀ x,(enc x).oneCell' = true):Kd α where
 sz:=1
 E:=[]
 K:=fun _ x cs=>cs = [enc x]
 M:=fun _ _ _ x cs=>cs = [enc x]
 qH:=fun h=>by rw [h];rfl
 rF:=fun h u hu=>by
  rw [h] at hu
  rw [amA.1 hu]
  exact h1 _
 nI:=fun _ h=>h
 jZ:=fun h=>h
 lN:=fun _ h=>h
 lQ:=fun h=>h
 oh:=fun _ h=>h
 nJ:=fun _ h=>h
def int (k:IntKind):Kd Int:=scalar (Value.int k) (fun _=>rfl)
def bool : Kd Bool:=scalar Value.bool (fun _=>rfl)
def string : Kd ByteArray:=scalar Value.string (fun _=>rfl)
def slice {α:Type} (e:Nat) (d:Kd α):Kd (List α) where
 sz:=1
 E:=e :: d.E
 K:=fun w xs cs=>∃ A c,cs = [.slice A xs.length c] ∧ xs.length ≤ c ∧ d.C w A xs.length xs
 M:=fun w base ok xs cs=>∃ v,cs = [v] ∧ d.R e w base ok v xs
 qH:=by
  rintro w x cs ⟨A,c,rfl,_⟩
  rfl
 rF:=by
  rintro w x cs ⟨A,c,rfl,_⟩ u hu
  rw [amA.1 hu]
  rfl
 nI:=by
  rintro w w1 x cs hb ⟨A,c,rfl,hl,hr⟩
  exact ⟨A,c,rfl,hl,T9 hr hb⟩
 jZ:=by
  rintro w base ok x cs ⟨v,rfl,h⟩
  obtain ⟨A,c,rfl,hl,hr⟩:=Ep h
  exact ⟨A,c,rfl,hl,hr⟩
 lN:=by
  rintro w base ok ok' x cs hok ⟨v,rfl,h⟩
  exact ⟨v,rfl,qz h hok⟩
 lQ:=by
  rintro w base ok x cs ⟨v,rfl,h⟩
  exact ⟨v,rfl,Eo h⟩
 oh:=by
  rintro w w1 base ok x cs hm ⟨v,rfl,h⟩
  exact ⟨v,rfl,P8 h hm⟩
 nJ:=by
  rintro w base base' ok x cs hb ⟨v,rfl,h⟩
  exact ⟨v,rfl,sI h hb⟩
def bot {α:Type} (sz:Nat) (E:List Nat):Kd α where
 sz:=sz
 E:=E
 K:=fun _ _ _=>False
 M:=fun _ _ _ _ _=>False
 qH:=fun h=>h.elim
 rF:=fun h=>h.elim
 nI:=fun _ h=>h
 jZ:=fun h=>h
 lN:=fun _ h=>h
 lQ:=fun h=>h
 oh:=fun _ h=>h
 nJ:=fun _ h=>h
def upto {α:Type} (F:Kd α → Kd α) (sz:Nat) (E:List Nat):Nat → Kd α
 | 0=>bot sz E
 | n + 1=>F (upto F sz E n)
theorem Ac {α:Type} {d:Kd α} {e base:Nat} {ok Md:Nat → Prop} {W w1:World} {v v1:Value} {xs:List α} {p:α} {inner cs:List Value} (h0:∀ k,v.ownBlock = some k → ok k) (hr:gU (d.M W base (fun k=>ok k ∧ some k ≠ v.ownBlock)) d.sz xs inner) (hp:d.M W base Md p cs) (Qb:∀ k,Md k → ok k ∧ some k ≠ v.ownBlock) (hfresh:∀ k,W.heap.size ≤ k → ok k)
  (hown:w1.ownsRow base e d.sz v1 (xs.length + 1) (inner ++ cs)) (hg:W.grownBy w1 v.ownBlock) (hat:v1.ownBlock = v.ownBlock ∨ ∃ b,v1.ownBlock = some b ∧ W.heap.size ≤ b):d.R e w1 base ok v1 (xs ++ [p]):=by
 have hne:∀ k,some k ≠ v.ownBlock → k < W.heap.size → some k ≠ v1.ownBlock:=by
  intro k hk hlt
  rcases hat with hat | ⟨b,hb,hle⟩
  ·rw [hat];exact hk
  ·rw [hb]
   intro he
   injection he with he
   omega
 have step:∀ {q:α} {c:List Value} {o:Nat → Prop},d.M W base o q c → (∀ k,o k → ok k ∧ some k ≠ v.ownBlock) → d.M w1 base (fun k=>ok k ∧ some k ≠ v1.ownBlock) q c:=by
  intro q c o hq ho
  have h1:=d.oh (w1:=w1) (fun k hk=>hg.block k hk.2.2.1 (ho k hk.1).2) (d.lQ hq)
  exact d.lN (fun k hk=>⟨(ho k hk.1).1,hne k (ho k hk.1).2 hk.2.2.1⟩) h1
 refine ⟨fun k hk=>?_,inner ++ cs,by rw [alX,List.length_singleton];exact hown,?_⟩
 ·rcases hat with hat | ⟨b,hb,hle⟩
  ·exact h0 k (hat ▸ hk)
  ·rw [hb] at hk
   injection hk with hk
   exact hfresh k (by omega)
 ·exact (hr.BA (fun _ _ hq=>step hq (fun _ hk=>hk))).snoc (step hp Qb) (d.qH (d.jZ hp))
section
variable {P : Program} {ops:Array Oper} {rest:List Oper} {o:Oper} {a:Act} {Q:Exit → Act → World → Prop} {α:Type}
theorem Ad (d:Kd α) {w0 W:World} (base:Nat) (hgd:o.guard = none) (s x:Operand) (t e:TypeId) (z:Value) (bytes:Nat)
  (ho:o.op = .call { callee:=.builtin .append,args:=#[s,x],argTypes:=#[t,t] })
  (ht:P.underlying t = some (.slice e)) (hinfo:(P.info? e).map (fun i=>(i.zero,i.size,i.bytes)) = some (some z,d.sz,bytes)) (hz:z.cells.size = d.sz) (hs0:0 < d.sz) (hb0:0 < bytes)
  (v:Value) (xs:List α) (p:α) (cs:List Value) (ok Md:Nat → Prop) (hs:a.eval s = v) (hx:a.eval x = .slice (some ⟨W.heap.size,0,none⟩) 1 1) (hp:d.M W base Md p cs) (Qb:∀ k,Md k → ok k ∧ some k ≠ v.ownBlock) (hfresh:∀ k,W.heap.size ≤ k → ok k)
  (HO:d.R e W base ok v xs) (HB:Below base w0 W) (hbase:base ≤ W.heap.size) (hl:(xs.length + 1) * bytes ≤ 140737488355328)
  (h:∀ v1 w1,d.R e w1 base ok v1 (xs ++ [p]) → Below base w0 w1 → W.grownBy w1 v.ownBlock → (v1.ownBlock = v.ownBlock ∨ ∃ b,v1.ownBlock = some b ∧ W.heap.size ≤ b) → wpList P ops Q rest (a.put o.dst v1) w1) :
  wpList P ops Q (o :: rest) a (W.alloc (.cells cs.toArray e)):=by
 obtain ⟨h0,inner,hown,hr⟩:=HO
 refine nZ base hgd s x t e z d.sz bytes ho ht hinfo hz hs0 hb0 v xs.length inner cs hs hx (d.qH (d.jZ hp)) (d.rF (d.jZ hp)) hown HB hbase hl ?_
 intro v1 w1 hown1 hb1 hg1 Jd
 exact h v1 w1 (Ac h0 hr hp Qb hfresh hown1 hg1 Jd) hb1 hg1 Jd
end
section
variable {P : Program} {ops:Array Oper} {o:Oper} {a:Act} {Q:Exit → Act → World → Prop} {Kc:Act → World → Prop} {α:Type}
theorem BF (d:Kd α) {w0 W:World} (base:Nat) (hw:Region.wanted o (yielded ops a.tmps) = true) (s x:Operand) (t e:TypeId) (z:Value) (bytes:Nat)
  (ho:o.op = .call { callee:=.builtin .append,args:=#[s,x],argTypes:=#[t,t] })
  (ht:P.underlying t = some (.slice e)) (hinfo:(P.info? e).map (fun i=>(i.zero,i.size,i.bytes)) = some (some z,d.sz,bytes)) (hz:z.cells.size = d.sz) (hs0:0 < d.sz) (hb0:0 < bytes)
  (v:Value) (xs:List α) (p:α) (cs:List Value) (ok Md:Nat → Prop) (hs:a.eval s = v) (hx:a.eval x = .slice (some ⟨W.heap.size,0,none⟩) 1 1) (hp:d.M W base Md p cs) (Qb:∀ k,Md k → ok k ∧ some k ≠ v.ownBlock) (hfresh:∀ k,W.heap.size ≤ k → ok k)
  (HO:d.R e W base ok v xs) (HB:Below base w0 W) (hbase:base ≤ W.heap.size) (hl:(xs.length + 1) * bytes ≤ 140737488355328)
  (h:∀ v1 w1,d.R e w1 base ok v1 (xs ++ [p]) → Below base w0 w1 → W.grownBy w1 v.ownBlock → (v1.ownBlock = v.ownBlock ∨ ∃ b,v1.ownBlock = some b ∧ W.heap.size ≤ b) → Kc (a.put o.dst v1) w1) :
  if Region.wanted o (yielded ops a.tmps) = true then Oper.wp P o a (W.alloc (.cells cs.toArray e)) Kc Q else Kc (a.put o.dst undef) (W.alloc (.cells cs.toArray e)):=by
 obtain ⟨h0,inner,hown,hr⟩:=HO
 refine vN base hw s x t e z d.sz bytes ho ht hinfo hz hs0 hb0 v xs.length inner cs hs hx (d.qH (d.jZ hp)) (d.rF (d.jZ hp)) hown HB hbase hl ?_
 intro v1 w1 hown1 hb1 hg1 Jd
 exact h v1 w1 (Ac h0 hr hp Qb hfresh hown1 hg1 Jd) hb1 hg1 Jd
end
theorem GA {α:Type} {enc:α → Value} (xs:List α):gU (fun (x:α) (cs:List Value)=>cs = [enc x]) 1 xs (encs enc xs):=by
 refine ⟨by simp [encs],fun j p hj=>?_⟩
 obtain ⟨hl,hp⟩:=amm.1 hj
 have hl':j < (encs enc xs).length:=by rw [xW];exact hl
 rw [Nat.mul_one,ani hl']
 simp [encs,hp]
theorem Qc {α:Type} {enc:α → Value} {h1:∀ x,(enc x).oneCell' = true} {e:Nat} {w:World} {base:Nat} {ok:Nat → Prop} {v:Value} {xs:List α} (ho:w.ownsRow base e 1 v xs.length (encs enc xs)) (hok:∀ k,v.ownBlock = some k → ok k):(scalar enc h1).R e w base ok v xs:=⟨hok,encs enc xs,ho,GA xs⟩
theorem vQ {α:Type} {enc:α → Value} {h1:∀ x,(enc x).oneCell' = true} {e:Nat} {w:World} {base:Nat} {ok:Nat → Prop} {v:Value} {xs:List α} (h:(scalar enc h1).R e w base ok v xs):w.ownsRow base e 1 v xs.length (encs enc xs):=by
 obtain ⟨_,inner,ho,hr⟩:=h
 have:inner = encs enc xs:=by
  apply amQ
  intro j
  rcases amV j xs.length with hj | hj
  ·have h2:=hr.2 j _ (alT hj)
   have hl:j < inner.length:=by have:=hr.1;simp [scalar] at this;omega
   have h3:(inner.drop (j * 1)).take 1 = [enc xs[j]]:=h2
   rw [Nat.mul_one,ani hl] at h3
   have h4:inner[j] = enc xs[j]:=by
    have h5:=al2 List.head? h3
    rw [List.take_succ_cons] at h5
    exact al0 h5
   rw [alT hl,h4]
   simp [encs,alT hj]
  ·have h3:inner.length = xs.length:=by have:=hr.1;simp [scalar] at this;omega
   rw [am0 (by omega),am0 (by rw [xW];omega)]
 rw [← this]
 exact ho
theorem Je {α:Type} {enc:α → Value} {d:α} {h1:∀ x,(enc x).oneCell' = true} {w:World} {A:Option Addr} {n:Nat} {xs:List α} (h:(scalar enc h1).C w A n xs):iy enc d w A n xs:=by
 refine ⟨h.1,h.2.1,fun hn=>?_⟩
 obtain ⟨ad,e,hc⟩:=h.2.2 hn
 refine ⟨ad,e,fun j hj=>?_⟩
 have hl:j < xs.length:=by have:=h.1;omega
 obtain ⟨c,_,hK,hcell⟩:=hc j _ (alT hl)
 have hK':c = [enc xs[j]]:=hK
 subst hK'
 have:=hcell 0 _ rfl
 simpa [scalar,al8,alT hl] using this
end Kd
namespace Kd
section
variable {α : Type} {F:Kd α → Kd α} {sz:Nat} {E:List Nat} {hs:∀ n,(upto F sz E n).sz = sz} {hE:∀ n q,q ∈ (upto F sz E n).E → q ∈ E}
end
end Kd
namespace Kd
end Kd
namespace Kd
section
variable {α β:Type} {d:Kd α} {d':Kd β} {e e':Nat} {w w1 W:World} {base b b':Nat} {ok ok' okv oku:Nat → Prop} {v u:Value} {xs:List α} {ys:List β}
theorem fH (h:d.R e w base ok v xs) (o:Obj):d.R e (w.alloc o) base ok v xs:=kU h (ak (Below.refl _ _) o)
theorem gL (h:d.R e w base ok v xs):d.R e w.drew base ok v xs:=kU h (jY (Below.refl _ _))
theorem gB (h:d.R e w base ok v xs) (m:Nat):d.R e (w.drewN m) base ok v xs:=kU h (ah (Below.refl _ _) m)
theorem acO (d:Kd α) (w:World):d.C w none ([]:List α).length []:=⟨rfl,by simp,fun h=>absurd h (Nat.lt_irrefl 0)⟩
theorem acP {A:Option Addr} {n:Nat} (h:d.C w A n xs):n ≤ 9223372036854775807:=h.2.1
theorem rG {A:Option Addr} {n c:Nat} (h:d.R e w base ok (.slice A n c) xs):n = xs.length ∧ n ≤ c ∧ d.C w A xs.length xs:=by
 obtain ⟨A',c',he,hl,hr⟩:=Ep h
 injection he with h1 h2 h3
 subst h1
 exact ⟨h2,by omega,hr⟩
theorem YX (h:d.R e w base ok v xs):∀ k,v.ownBlock = some k → base ≤ k:=by
 obtain ⟨inner,ho⟩:=Wv h
 exact vL ho
theorem YZ (h:d.R e w base ok v xs) (hp:0 < xs.length):∃ g cap,v = .slice (some ⟨g,0,none⟩) xs.length cap ∧ base ≤ g ∧ g < w.heap.size ∧ ∃ cells,w.heap[g]? = some (.cells cells e (0,0)):=by
 obtain ⟨inner,ho⟩:=Wv h
 obtain ⟨g,cap,he,hb,hl⟩:=ho.form hp
 obtain ⟨cells,hc⟩:=Cw ho g (by rw [he];simp [Value.ownBlock])
 exact ⟨g,cap,he,hb,hl,cells,hc⟩
end
section
variable {w W:World} {A:Option Addr} {n:Nat}
theorem Cx {xs:List ByteArray} (h:Kd.string.C w A n xs) (i:Int) (h0:0 ≤ i) (h1:i < n):∃ ad,A = some ad ∧ w.cell? (ad.add i.toNat) = some (.string (rE ByteArray.empty xs i)) :=
 iy.at_ (Je (enc:=Value.string) (d:=ByteArray.empty) (h1:=fun _=>rfl) h) i h0 h1
variable {α : Type} {enc:α → Value} {h1:∀ x,(enc x).oneCell' = true} {e base g cap:Nat} {ok:Nat → Prop} {xs:List α}
theorem Qd (d:α) (h:(scalar enc h1).R e W base ok (.slice (some ⟨g,0,none⟩) xs.length cap) xs) (i:Int) (h0:0 ≤ i) (hi:i < xs.length):W.cell? ⟨g,i.toNat,none⟩ = some (enc (rE d xs i)) ∧ W.frozen? ⟨g,i.toNat,none⟩ = false:=Mc (vQ h) i h0 hi
theorem acQ (h:(scalar enc h1).R e W base ok (.slice (some ⟨g,0,none⟩) xs.length cap) xs) (i:Int) (x:α):(scalar enc h1).R e (W.setCell ⟨g,i.toNat,none⟩ (enc x)) base ok (.slice (some ⟨g,0,none⟩) xs.length cap) (xs.set i.toNat x) ∧ W.grownBy (W.setCell ⟨g,i.toNat,none⟩ (enc x)) (some g):=by
 obtain ⟨ho,hg⟩:=En (vQ h) i x
 exact ⟨Qc (by rw [anj];exact ho) h.1,hg⟩
end
section
variable {P : Program} {ops:Array Oper} {rest:List Oper} {o:Oper} {a:Act} {Q:Exit → Act → World → Prop}
theorem Me {W w1:World} {v:Value} (hgd:o.guard = none) (hrun:(execOp a.eval o).run P W = .ok (.value v) w1) (h:wpList P ops Q rest (a.put o.dst v) w1):wpList P ops Q (o :: rest) a W:=by
 refine wpList_plain hgd fun K hK=>?_
 unfold Oper.wp
 rw [hrun]
 exact hK _ _ h
variable {α : Type}
end
end Kd
section
variable {P : Program}
end
def acR (w:World) (base:Nat) (e:TypeId) (size:Nat) (v:Value) (n:Nat) (xs:List Value):Prop :=
 xs.length = n * size ∧
 ((n = 0 ∧ ∃ A,v = .slice A 0 0 ∧ ∀ a,A = some a → base ≤ a.block ∧ ∃ cur,w.heap[a.block]? = some (.cells cur e (0,0))) ∨
 ∃ g off cap cur,v = .slice (some ⟨g,off * size,none⟩) n cap ∧ base ≤ g ∧ w.heap[g]? = some (.cells cur e (0,0)) ∧ n ≤ cap ∧ off + cap ≤ maxLen ∧ cur.size = (off + cap) * size ∧ (cur.toList.drop (off * size)).take (n * size) = xs)
section
variable {w w1:World} {base n size:Nat} {e:TypeId} {v:Value} {xs:List Value}
theorem Qe (h:w.ownsRow base e size v n xs):acR w base e size v n xs:=by
 obtain ⟨h1,h2⟩:=h
 refine ⟨h1,?_⟩
 rcases h2 with ⟨rfl,h0⟩ | ⟨g,cap,cur,rfl,hb,hh,hnc,hcm,hcs,ht⟩
 ·exact .inl ⟨h0,none,rfl,fun a ha=>by cases ha⟩
 ·exact .inr ⟨g,0,cap,cur,by rw [amK],hb,hh,hnc,by rw [amc];exact hcm,by rw [amc];exact hcs,by rw [amK,amG];exact ht⟩
end
section
variable {P : Program}
end
namespace Kd
def Q {α:Type} (d:Kd α) (e:Nat) (w:World) (base:Nat) (ok:Nat → Prop) (v:Value) (xs:List α):Prop :=
 (∀ k,v.ownBlock = some k → ok k) ∧ ∃ inner,acR w base e d.sz v xs.length inner ∧ gU (d.M w base (fun k=>ok k ∧ some k ≠ v.ownBlock)) d.sz xs inner
section
variable {α : Type} {d:Kd α} {e:Nat} {w w1 W:World} {base:Nat} {ok ok':Nat → Prop} {v:Value} {xs:List α}
theorem Y0 (h:d.R e w base ok v xs):d.Q e w base ok v xs:=by
 obtain ⟨h0,inner,ho,hr⟩:=h
 exact ⟨h0,inner,Qe ho,hr⟩
theorem mJ (d:Kd α) (e:Nat) (w:World) (base:Nat) (ok:Nat → Prop):d.Q e w base ok (.slice none 0 0) []:=Y0 (kF d e w base ok)
end
section
variable {P : Program} {ops:Array Oper} {rest:List Oper} {o:Oper} {a:Act} {Q':Exit → Act → World → Prop} {Kc:Act → World → Prop} {α:Type}
end
end Kd
namespace Kd
section
variable {α : Type} {d:Kd α} {e e':Nat} {w w1 W:World} {base:Nat} {ok:Nat → Prop} {u v:Value} {xs:List α}
end
end Kd
namespace Kd
section
variable {α : Type} {d:Kd α} {e base g n cap:Nat} {ok Md:Nat → Prop} {W:World} {xs:List α}
end
end Kd
namespace Kd
section
variable {α : Type} {F:Kd α → Kd α} {sz:Nat} {E:List Nat} {hs:∀ n,(upto F sz E n).sz = sz} {hE:∀ n q,q ∈ (upto F sz E n).E → q ∈ E}
end
end Kd
namespace Kd
section
variable {P : Program} {ops:Array Oper} {rest:List Oper} {o:Oper} {a:Act} {Q:Exit → Act → World → Prop} {α:Type}
end
end Kd
namespace Kd
section
variable {P : Program} {ops:Array Oper} {rest:List Oper} {o:Oper} {a:Act} {Q:Exit → Act → World → Prop} {α:Type}
end
end Kd
namespace Kd
section
variable {α : Type} {k:Kd α} {w:World} {A:Option Addr} {xs:List α} {m c:Nat}
end
end Kd
section
variable {P : Program}
end
theorem cB {w W:World} (h:Below w.heap.size w W):w.heap.size ≤ W.heap.size:=h.size
theorem bP {w W w2:World} (h:Below w.heap.size w W) (k:Below W.heap.size W w2):Below w.heap.size w w2:=Jb h h.size k
theorem iG.nil (W:World) (k:IntKind):iG W k none ([]:List Int).length []:=⟨rfl,by simp,fun h=>absurd h (Nat.lt_irrefl 0)⟩
theorem iG.drewN {W:World} {k:IntKind} {A:Option Addr} {n:Nat} {xs:List Int} (h:iG W k A n xs) (m:Nat):iG (W.drewN m) k A n xs:=h
theorem aT {w W:World} {g j:Nat} {v:Value} (h:Below w.heap.size w W) (hg:w.heap.size ≤ g):Below w.heap.size w (W.setCell ⟨g,j,none⟩ v):=h.setCell hg _
theorem Cy {w W:World} {g:Nat} (h:iR w W g none) {a:Addr} {v:Value} (hc:w.cell? a = some v) (hne:a.block ≠ g):W.cell? a = some v:=by
 have:=h.2 a.block (World.block_lt_of_cell? w a hc) hne (by simp)
 simpa [World.cell?,this] using hc
theorem add_block (a:Addr) (i:Nat):(a.add i).block = a.block:=by unfold Addr.add;split <;> rfl
theorem iy.nil {α:Type} (enc:α → Value) (d:α) (W:World):iy enc d W none ([]:List α).length []:=⟨rfl,by simp,fun h=>absurd h (Nat.lt_irrefl 0)⟩
theorem iy.drewN {α:Type} {enc:α → Value} {d:α} {W:World} {A:Option Addr} {n:Nat} {xs:List α} (h:iy enc d W A n xs) (m:Nat):iy enc d (W.drewN m) A n xs:=h
theorem iG.keep {w W:World} {k:IntKind} {A:Option Addr} {n g:Nat} {xs:List Int} (h:iG w k A n xs) (hk:iR w W g none) (hf:∀ ad,A = some ad → 0 < n → ad.block ≠ g):iG W k A n xs :=
 ⟨h.1,h.2.1,fun hn=>by
  obtain ⟨ad,e,hc⟩:=h.2.2 hn
  exact ⟨ad,e,fun j hj=>Cy hk (hc j hj) (by rw [add_block];exact hf ad e hn)⟩⟩
theorem iy.keep {α:Type} {enc:α → Value} {d:α} {w W:World} {A:Option Addr} {n g:Nat} {xs:List α} (h:iy enc d w A n xs) (hk:iR w W g none) (hf:∀ ad,A = some ad → 0 < n → ad.block ≠ g):iy enc d W A n xs :=
 ⟨h.1,h.2.1,fun hn=>by
  obtain ⟨ad,e,hc⟩:=h.2.2 hn
  exact ⟨ad,e,fun j hj=>Cy hk (hc j hj) (by rw [add_block];exact hf ad e hn)⟩⟩
theorem cell_far {W:World} {p a:Addr} (h:a.block ≠ p.block) (u:Value):(W.setCell p u).cell? a = W.cell? a:=by
 have:=Below.heap_setCell W p u a.block h
 simp [World.cell?,this]
theorem cO {w:World} {g:Nat} {t:TypeId} {cs cs':Array Value} (h:w.heap[g]? = some (.cells cs t (0,0))) (i:Nat) (u:Value) (e:cs.setIfInBounds i u = cs'):(w.setCell ⟨g,i,none⟩ u).heap[g]? = some (.cells cs' t (0,0)):=e ▸ TY h i u
theorem u6 {W:World} {base n c:Nat} {e:TypeId} {size g:Nat} {ad:Addr} {xs:List Value} (_:W.ownsRow base e size (.slice (some ad) n c) n xs) (hne:some g ≠ (Value.slice (some ad) n c).ownBlock):ad.block ≠ g:=by
 rintro rfl
 exact hne (by simp [Value.ownBlock])
theorem au {base:Nat} {w W:World} (h:Below base w W):Below base w W.drew:=h.drew
namespace Kd
section
variable {α β:Type} {d:Kd α} {d':Kd β} {e e' base base' n:Nat} {ok ok':Nat → Prop} {w W w1 W1:World} {v u:Value} {xs:List α} {ys:List β} {A:Option Addr} {c:Nat}
theorem u6 {ad:Addr} {g:Nat} (hne:some g ≠ (Value.slice (some ad) n c).ownBlock):ad.block ≠ g:=by
 rintro rfl
 exact hne (by simp [Value.ownBlock])
end
section
variable {α : Type} {enc:α → Value} {h1:∀ x,(enc x).oneCell' = true} {w W:World} {A:Option Addr} {n g:Nat} {xs:List α}
end
end Kd
namespace Kd
section
variable {α : Type} {d:Kd α} {e base g:Nat} {ok:Nat → Prop} {w w1:World} {v:Value} {xs:List α} {o:Obj}
end
end Kd
section
variable {P : Program} {ops:Array Oper} {rest:List Oper} {o:Oper} {a:Act} {Q:Exit → Act → World → Prop}
theorem jh {W:World} (hgd:o.guard = none) {N:Tmp} (_hd:o.dst = some N) {cs:Array Value} {t:TypeId}
  (hrun:(execOp a.eval o).run P W = .ok (.value (.pointer (some ⟨W.heap.size,0,none⟩))) (W.alloc (.cells cs t (0,0))))
  (h:∀ g,g = W.heap.size → ∀ w1,w1.heap[g]? = some (.cells cs t (0,0)) → Below W.heap.size W w1 → wpList P ops Q rest (a.put o.dst (.pointer (some ⟨g,0,none⟩))) w1):wpList P ops Q (o :: rest) a W :=
 Kd.Me hgd hrun (h _ rfl _ (vO W _) (ak (Below.refl _ _) _))
end
namespace Kd
section
variable {α : Type} {enc:α → Value} {h1:∀ x,(enc x).oneCell' = true} {e base g n cap:Nat} {ok:Nat → Prop} {W:World} {xs:List α}
theorem Er (d:α) (h:(scalar enc h1).R e W base ok (.slice (some ⟨g,0,none⟩) n cap) xs) (i:Int) (h0:0 ≤ i) (hi:i < n):W.cell? ⟨g,i.toNat,none⟩ = some (enc (rE d xs i)) ∧ W.frozen? ⟨g,i.toNat,none⟩ = false:=by
 obtain ⟨rfl,_⟩:=rG h
 exact Qd d h i h0 hi
end
end Kd
section
variable {P : Program} {ops:Array Oper} {rest:List Oper} {o:Oper} {a:Act} {Q:Exit → Act → World → Prop}
end
namespace Kd
section
variable {α : Type} {enc:α → Value} {h1:∀ x,(enc x).oneCell' = true} {e base g n cap:Nat} {ok:Nat → Prop} {W:World} {xs:List α}
theorem Y1 (h:(scalar enc h1).R e W base ok (.slice (some ⟨g,0,none⟩) n cap) xs) (i:Int) (x:α):(scalar enc h1).R e (W.setCell ⟨g,i.toNat,none⟩ (enc x)) base ok (.slice (some ⟨g,0,none⟩) n cap) (xs.set i.toNat x) ∧ W.grownBy (W.setCell ⟨g,i.toNat,none⟩ (enc x)) (some g):=by
 obtain ⟨rfl,_⟩:=rG h
 exact acQ h i x
end
end Kd
section
variable {P : Program} {ops:Array Oper} {rest:List Oper} {o:Oper} {a:Act} {Q:Exit → Act → World → Prop} {W:World}
theorem j3 {N:Tmp} (_hN:o.dst = some N) (h:wpList P ops Q (o :: rest) a W):wpList P ops Q (o :: rest) a W:=h
end
section
variable {P : Program} {ops:Array Oper} {o:Oper} {a:Act} {Q:Exit → Act → World → Prop} {Kc:Act → World → Prop}
namespace Kd
variable {α : Type}
end Kd
end
section
variable {P : Program} {tmps:Array Value} {w:World}
end
namespace Kd
section
variable {P : Program} {α:Type}
end
section
variable {P : Program} {ops:Array Oper} {rest:List Oper} {o:Oper} {a:Act} {Q:Exit → Act → World → Prop} {Kc:Act → World → Prop} {α:Type}
end
end Kd
end Go.Proofs.YtfokaoeinpnagaaGreatW.bI
namespace Go.Proofs.YtfokaoeinpnagaaGreatW.eF
section
variable {P : Program} {ops:Array Oper} {Q:Exit → Act → World → Prop} {md:Region.Mode} {S:World → Prop} {ds:List Nat}
def Region.ng (md:Region.Mode) (ops:Array Oper) (i:Nat):Nat → Nat → Bool
 | 0,_=>false
 | fuel + 1,d=>match ops[d]? with
  | some o=>o.after.any fun e=>Region.binds md e && (e.on == i || Region.ng md ops i fuel e.on)
  | none=>false
def Region.vR (md:Region.Mode) (ops:Array Oper) (listed:Array Bool):Bool :=
 (List.range ops.size).all fun j=>!listed.getD j false || match ops[j]? with
  | some o=>o.after.all fun e=>!Region.binds md e || listed.getD e.on false
  | none=>true
def Region.lastB (md:Region.Mode) (ops:Array Oper) (listed:Array Bool) (ds:List Nat) (i:Nat):Bool :=
 ds.all fun d=>listed.getD d true || Region.ng md ops i ops.size d
def jC (md:Region.Mode) (ops:Array Oper) (listed:Array Bool):Prop :=
 ∀ j oj,ops[j]? = some oj → listed.getD j false = true → ∀ e ∈ oj.after,Region.binds md e = true → listed.getD e.on false = true
theorem Region.Es {listed:Array Bool} (h:Region.vR md ops listed = true):jC md ops listed:=by
 intro j oj hj hl e he hb
 have hlt:j < ops.size:=(amI.1 hj).1
 have h1:=alY.1 h j (amh.2 hlt)
 simp only [hl,hj,am9,Bool.false_or] at h1
 have h2:=Array.all_eq_true_iff_forall_mem.1 h1 e he
 simpa [hb] using h2
theorem jC.set {listed:Array Bool} {i:Nat} (h:jC md ops listed) (hi:i ∈ Region.ready md ops listed):jC md ops (listed.setIfInBounds i true):=by
 obtain ⟨_,oi,hoi,hall⟩:=mem_ready.1 hi
 intro j oj hj hl e he hb
 by_cases hij:i = j
 ·subst hij
  have:oj = oi:=al0 (hj.symm.trans hoi)
  subst this
  exact getD_set_true (hall e he hb)
 ·rw [getD_set_ne false hij] at hl
  exact getD_set_true (h j oj hj hl e he hb)
theorem Region.vS {listed:Array Bool} {i:Nat} (hc:jC md ops listed):∀ (fuel d:Nat),Region.ng md ops i fuel d = true → listed.getD d false = true → listed.getD i false = true
 | 0,_,h,_=>by simp [Region.ng] at h
 | fuel + 1,d,h,hl=>by
  unfold Region.ng at h
  cases ho:ops[d]? with
  | none=>rw [ho] at h;simp at h
  | some o =>
   rw [ho] at h
   obtain ⟨e,he,h1⟩:=Array.any_eq_true'.1 h
   simp only [alN,amv,alW] at h1
   have hle:=hc d o ho hl e he h1.1
   rcases h1.2 with h2 | h2
   ·rw [← h2];exact hle
   ·exact Region.vS hc fuel e.on h2 hle
theorem Region.yI {listed:Array Bool} {i d fuel:Nat} (hc:jC md ops listed) (hr:Region.ng md ops i fuel d = true) (hun:listed.getD i true = false):d ∉ Region.ready md ops listed:=by
 intro hd
 obtain ⟨_,o,ho,hall⟩:=mem_ready.1 hd
 have hi:listed.getD i false = true:=by
  cases fuel with
  | zero=>simp [Region.ng] at hr
  | succ n =>
   unfold Region.ng at hr
   rw [ho] at hr
   obtain ⟨e,he,h1⟩:=Array.any_eq_true'.1 hr
   simp only [alN,amv,alW] at h1
   have hle:=hall e he h1.1
   rcases h1.2 with h2 | h2
   ·rw [← h2];exact hle
   ·exact Region.vS hc n e.on h2 hle
 rcases amV i listed.size with h' | h'
 ·simp [h'] at hun hi
  rw [hun] at hi
  cases hi
 ·simp [amL h'] at hun
def dP (P:Program) (md:Region.Mode) (ops:Array Oper) (Q:Exit → Act → World → Prop) (S:World → Prop) (ds:List Nat):Nat → Array Bool → Act → World → Prop
 | 0,listed,a,w=>Region.ready md ops listed = [] ∧ Q .normal a w
 | fuel + 1,listed,a,w =>
  (Region.ready md ops listed = [] → Q .normal a w) ∧
  ∀ i ∈ Region.ready md ops listed,wpOp P ops Q i (fun a' w'=>(i ∉ ds → S w → S w') ∧ dP P md ops Q S ds fuel (listed.setIfInBounds i true) a' w') a w
theorem tV : ∀ (fuel:Nat) (listed:Array Bool) (a:Act) (w:World),dP P md ops Q S ds fuel listed a w → wpAny P md ops Q fuel listed a w
 | 0,_,_,_,h=>h
 | fuel + 1,_,_,_,h=>⟨h.1,fun i hi=>wpOp_mono (fun a' w' h'=>tV fuel _ a' w' h'.2) (h.2 i hi)⟩
theorem yJ {i:Nat} {oi:Oper} {v:Value} (hi:ops[i]? = some oi) (hsel:∀ (j:Nat) (o:Oper) cs b,ops[j]? = some o → o.op ≠ .select cs b)
  (hQ:∀ c a w,Q (.panic c) (a.put oi.dst v) w → Q (.panic c) a w) (n:Nat) :
  ∀ (fuel:Nat) (listed:Array Bool) (a:Act) (w:World),
   (∀ j oj,ops[j]? = some oj → j ≠ i → listed.getD j true = false → (∀ e ∈ oj.after,Region.binds md e = true → e.on ≠ i) → oi.apart ops oj = true) →
   jC md ops listed → (∀ d ∈ ds,listed.getD d true = false → Region.ng md ops i n d = true) →
   i ∈ Region.ready md ops listed → YieldsIf P ops S oi v a → S w →
   dP P md ops Q S ds fuel (listed.setIfInBounds i true) (a.put oi.dst v) w → dP P md ops Q S ds (fuel + 1) listed a w:=by
 intro fuel
 induction fuel with
 | zero =>
  intro listed a w _ _ _ hr hy hS H
  refine ⟨fun h=>(by rw [h] at hr;cases hr),fun j hj=>?_⟩
  by_cases hji:j = i
  ·subst hji;exact hy.wpOp hi hS ⟨fun _ h=>h,H⟩
  ·have:=ready_mono hj hji
   rw [H.1] at this
   cases this
 | succ fuel ih =>
  intro listed a w hfree hc hd hr hy hS H
  refine ⟨fun h=>(by rw [h] at hr;cases hr),fun j hj=>?_⟩
  by_cases hji:j = i
  ·subst hji;exact hy.wpOp hi hS ⟨fun _ h=>h,H⟩
  ·have h1:=H.2 j (ready_mono hj hji)
   obtain ⟨hjun,oj,hoj,hall⟩:=mem_ready.1 hj
   have Mf:=(mem_ready.1 hr).1
   have hnot:∀ e ∈ oj.after,Region.binds md e = true → e.on ≠ i:=fun e he hb heq=>by
    have h1:=hall e he hb
    rw [heq] at h1
    rcases amV i listed.size with h' | h'
    ·simp [h'] at Mf h1;rw [Mf] at h1;cases h1
    ·simp [amL h'] at h1
   have hjd:j ∉ ds:=fun hm=>Region.yI hc (hd j hm hjun) Mf hj
   have h2:=wpOp_putIf hoj (hfree j oj hoj hji hjun hnot) (fun cs b=>hsel i oi cs b hi) (fun cs b=>hsel j oj cs b hoj) hQ hy h1
   have hfree':∀ k ok,ops[k]? = some ok → k ≠ i → (listed.setIfInBounds j true).getD k true = false →
     (∀ e ∈ ok.after,Region.binds md e = true → e.on ≠ i) → oi.apart ops ok = true:=fun k ok hk hki hun hno=>by
    refine hfree k ok hk hki ?_ hno
    by_cases hjk:j = k
    ·subst hjk;exact hjun
    ·rw [getD_set_ne true hjk] at hun;exact hun
   have hd':∀ d ∈ ds,(listed.setIfInBounds j true).getD d true = false → Region.ng md ops i n d = true:=fun d hm hun=>by
    refine hd d hm ?_
    by_cases hjk:j = d
    ·subst hjk;exact hjun
    ·rw [getD_set_ne true hjk] at hun;exact hun
   refine wpOp_mono (fun a' w' h3=>⟨h3.2.1,ih (listed.setIfInBounds j true) a' w' hfree' (hc.set hj) hd' (ready_mono hr (Ne.symm hji)) h3.1 (h3.2.1 hjd hS) ?_⟩) h2
   rw [Array.setIfInBounds_comm _ _ hji]
   exact h3.2.2
theorem BG {i:Nat} {oi:Oper} {v:Value} (hi:ops[i]? = some oi) (hsel:∀ (j:Nat) (o:Oper) cs b,ops[j]? = some o → o.op ≠ .select cs b)
  (hQ:∀ c a w,Q (.panic c) (a.put oi.dst v) w → Q (.panic c) a w) :
  ∀ (fuel:Nat) (listed:Array Bool) (a:Act) (w:World),
   (∀ j oj,ops[j]? = some oj → j ≠ i → listed.getD j true = false → (∀ e ∈ oj.after,Region.binds md e = true → e.on ≠ i) → oi.apart ops oj = true) →
   i ∈ Region.ready md ops listed → Yields P ops oi v a →
   dP P md ops Q S ds fuel (listed.setIfInBounds i true) (a.put oi.dst v) w → dP P md ops Q S ds (fuel + 1) listed a w:=by
 intro fuel
 induction fuel with
 | zero =>
  intro listed a w _ hr hy H
  refine ⟨fun h=>(by rw [h] at hr;cases hr),fun j hj=>?_⟩
  by_cases hji:j = i
  ·subst hji;exact (hy.yieldsIf (S:=fun _=>True)).wpOp hi trivial ⟨fun _ h=>h,H⟩
  ·have:=ready_mono hj hji
   rw [H.1] at this
   cases this
 | succ fuel ih =>
  intro listed a w hfree hr hy H
  refine ⟨fun h=>(by rw [h] at hr;cases hr),fun j hj=>?_⟩
  by_cases hji:j = i
  ·subst hji;exact (hy.yieldsIf (S:=fun _=>True)).wpOp hi trivial ⟨fun _ h=>h,H⟩
  ·have h1:=H.2 j (ready_mono hj hji)
   obtain ⟨hjun,oj,hoj,hall⟩:=mem_ready.1 hj
   have Mf:=(mem_ready.1 hr).1
   have hnot:∀ e ∈ oj.after,Region.binds md e = true → e.on ≠ i:=fun e he hb heq=>by
    have h1:=hall e he hb
    rw [heq] at h1
    rcases amV i listed.size with h' | h'
    ·simp [h'] at Mf h1;rw [Mf] at h1;cases h1
    ·simp [amL h'] at h1
   have h2:=wpOp_put hoj (hfree j oj hoj hji hjun hnot) (fun cs b=>hsel i oi cs b hi) (fun cs b=>hsel j oj cs b hoj) hQ hy h1
   have hfree':∀ k ok,ops[k]? = some ok → k ≠ i → (listed.setIfInBounds j true).getD k true = false →
     (∀ e ∈ ok.after,Region.binds md e = true → e.on ≠ i) → oi.apart ops ok = true:=fun k ok hk hki hun hno=>by
    refine hfree k ok hk hki ?_ hno
    by_cases hjk:j = k
    ·subst hjk;exact hjun
    ·rw [getD_set_ne true hjk] at hun;exact hun
   refine wpOp_mono (fun a' w' h3=>⟨h3.2.1,ih (listed.setIfInBounds j true) a' w' hfree' (ready_mono hr (Ne.symm hji)) h3.1 ?_⟩) h2
   rw [Array.setIfInBounds_comm _ _ hji]
   exact h3.2.2
theorem Ae {i:Nat} {oi:Oper} {v:Value} {fuel:Nat} {listed:Array Bool} {a:Act} {w:World} (hi:ops[i]? = some oi)
  (hs:Region.noSelect ops = true) (hf:Region.free md ops listed i = true) (hr:(Region.ready md ops listed).contains i = true)
  (hc:Region.vR md ops listed = true) (hl:Region.lastB md ops listed ds i = true)
  (hQ:∀ c a w,Q (.panic c) (a.put oi.dst v) w → Q (.panic c) a w) (hy:YieldsIf P ops S oi v a) (hS:S w)
  (h:dP P md ops Q S ds fuel (listed.setIfInBounds i true) (a.put oi.dst v) w):dP P md ops Q S ds (fuel + 1) listed a w :=
 yJ hi (Region.noSelect_spec hs) hQ ops.size fuel listed a w (Region.free_spec hi hf) (Region.Es hc)
  (fun d hm hun=>by have:=alY.1 hl d hm;rw [hun] at this;simpa using this) (by simpa using hr) hy hS h
theorem BH {rs:List Nat} {fuel:Nat} {listed:Array Bool} {a:Act} {w:World} (hr:Region.ready md ops listed = rs) (hne:rs ≠ [])
  (h:∀ i ∈ rs,wpOp P ops Q i (fun a' w'=>(i ∉ ds → S w → S w') ∧ dP P md ops Q S ds fuel (listed.setIfInBounds i true) a' w') a w):dP P md ops Q S ds (fuel + 1) listed a w :=
 ⟨fun h0=>absurd (hr ▸ h0) hne,hr ▸ h⟩
theorem Af {listed:Array Bool} {a:Act} {w:World} (hr:Region.ready md ops listed = []) (h:Q .normal a w) :
  ∀ fuel,dP P md ops Q S ds fuel listed a w
 | 0=>⟨hr,h⟩
 | _ + 1=>⟨fun _=>h,by rw [hr];simp⟩
theorem Ag {id:Nat} {a:Act} {w:World} (hm:P.follows .mixedOrders = true)
  (h:dP P .any ops Q S ds ops.size (Array.replicate ops.size false) a { w with drawn:=w.drawn + 1 }):(Code.region id ops true).wp P Q a w :=
 wp_region_any hm (tV _ _ _ _ h)
end
section
variable {P : Program} {ops:Array Oper} {Q:Exit → Act → World → Prop} {md:Region.Mode} {S:World → Prop} {ds:List Nat}
def lu (P:Program) (md:Region.Mode) (ops:Array Oper) (Q:Exit → Act → World → Prop) (S:World → Prop) (ds:List Nat) (fuel:Nat) (listed:Array Bool) (a:Act) (w:World) (rs:List Nat):Prop :=
 ∀ i ∈ rs,wpOp P ops Q i (fun a' w'=>(i ∉ ds → S w → S w') ∧ dP P md ops Q S ds fuel (listed.setIfInBounds i true) a' w') a w
theorem lu.nil {fuel:Nat} {listed:Array Bool} {a:Act} {w:World}:lu P md ops Q S ds fuel listed a w []:=fun _ h=>by cases h
theorem lu.cons {fuel:Nat} {listed:Array Bool} {a:Act} {w:World} {i:Nat} {o:Oper} {rs:List Nat} (ho:ops[i]? = some o) (hd:i ∉ ds)
  (h:∀ K':Act → World → Prop,Shut (∀ a w,S w → (S w → dP P md ops Q S ds fuel (listed.setIfInBounds i true) a w) → K' a w) → if Region.wanted o (yielded ops a.tmps) = true then Oper.wp P o a w K' Q else K' (a.put o.dst undef) w)
  (hs:lu P md ops Q S ds fuel listed a w rs):lu P md ops Q S ds fuel listed a w (i :: rs):=fun j hj=>by
 rcases alZ.1 hj with rfl | hj
 ·exact wpOp_step ho (fun K' hK=>h K' (fun a w hS hW=>hK a w ⟨fun _ _=>hS,hW hS⟩))
 ·exact hs j hj
theorem yK {rs:List Nat} {fuel:Nat} {listed:Array Bool} {a:Act} {w:World} (hr:Region.ready md ops listed = rs) (hne:rs ≠ [])
  (h:lu P md ops Q S ds fuel listed a w rs):dP P md ops Q S ds (fuel + 1) listed a w:=BH hr hne h
theorem Qf {id n:Nat} {a:Act} {w:World} (l:Array Bool) (hm:P.follows .mixedOrders = true) (hn:ops.size = n) (hl:Array.replicate n false = l) (hS:S w.drew)
  (h:S w.drew → dP P .any ops Q S ds n l a w.drew):(Code.region id ops true).wp P Q a w:=by
 subst hn
 subst hl
 exact Ag hm (h hS)
def takeB (md:Region.Mode) (ops:Array Oper) (ds:List Nat) (l l':Array Bool) (i:Nat):Bool :=
 Region.noSelect ops && Region.free md ops l i && (Region.ready md ops l).contains i && Region.vR md ops l && Region.lastB md ops l ds i && (l.setIfInBounds i true == l')
theorem Gz {i:Nat} {N:Option Tmp} {oi:Oper} {v:Value} {fuel:Nat} {l:Array Bool} {a:Act} {w:World} (l':Array Bool) (hi:ops[i]? = some oi) (hN:oi.dst = N) (hc:takeB md ops ds l l' i = true)
  (hQ:∀ c a w,Q (.panic c) (a.put oi.dst v) w → Q (.panic c) a w) (hy:YieldsIf P ops S oi v a) (hS:S w) {a':Act} (ha:a.put N v = a')
  (h:dP P md ops Q S ds fuel l' a' w):dP P md ops Q S ds (fuel + 1) l a w:=by
 subst ha
 subst hN
 simp only [takeB,alN,alW] at hc
 obtain ⟨⟨⟨⟨⟨h1,h2⟩,h3⟩,h4⟩,h5⟩,h6⟩:=hc
 subst h6
 exact Ae hi h1 h2 h3 h4 h5 hQ hy hS h
def Ub (md:Region.Mode) (ops:Array Oper) (l l':Array Bool) (i:Nat):Bool :=
 Region.noSelect ops && Region.free md ops l i && (Region.ready md ops l).contains i && (l.setIfInBounds i true == l')
theorem nA {i:Nat} {N:Option Tmp} {oi:Oper} {v:Value} {fuel:Nat} {l:Array Bool} {a:Act} {w:World} (l':Array Bool) (hi:ops[i]? = some oi) (hN:oi.dst = N) (hc:Ub md ops l l' i = true)
  (hQ:∀ c a w,Q (.panic c) (a.put oi.dst v) w → Q (.panic c) a w) (hy:Yields P ops oi v a) {a':Act} (ha:a.put N v = a')
  (h:dP P md ops Q S ds fuel l' a' w):dP P md ops Q S ds (fuel + 1) l a w:=by
 subst ha
 subst hN
 simp only [Ub,alN,alW] at hc
 obtain ⟨⟨⟨h1,h2⟩,h3⟩,h6⟩:=hc
 subst h6
 exact BG hi (Region.noSelect_spec h1) hQ fuel l a w (Region.free_spec hi h2) (by simpa using h3) hy h
def Et (md:Region.Mode) (ops:Array Oper) (l l':Array Bool) (i:Nat):Bool:=(Region.ready md ops l == [i]) && (l.setIfInBounds i true == l')
theorem Y2 {i:Nat} {N:Option Tmp} {oi:Oper} {fuel:Nat} {l:Array Bool} {a:Act} {w:World} (l':Array Bool) (hi:ops[i]? = some oi) (hN:oi.dst = N) (hc:Et md ops l l' i = true) (hd:i ∉ ds)
  (h:∀ K:Act → World → Prop,Shut (∀ a' w',S w' → (S w' → dP P md ops Q S ds fuel l' a' w') → K a' w') → if Region.wanted oi (yielded ops a.tmps) = true then Oper.wp P oi a w K Q else K (a.put N undef) w) :
  dP P md ops Q S ds (fuel + 1) l a w:=by
 subst hN
 simp only [Et,alN,alW] at hc
 obtain ⟨h1,h2⟩:=hc
 subst h2
 exact yK h1 (by simp) (lu.cons hi hd (fun K hK=>h K hK) lu.nil)
theorem Ww {l:Array Bool} {a:Act} {w:World} {n:Nat} (hr:(Region.ready md ops l == []) = true) (h:Q .normal a w):dP P md ops Q S ds n l a w:=Af (by simpa using hr) h n
theorem Wx {fuel:Nat} {l:Array Bool} {a a':Act} {w:World} (ha:a = a') (h:dP P md ops Q S ds fuel l a' w):dP P md ops Q S ds fuel l a w:=by
 subst ha
 exact h
theorem Uc {f:FuncId} {fn:Func} (hf:P.funcs[f]? = some fn) (hname:(fn.name == "runtime.NumGoroutine") = false) (hb:fn.body.isSome = true) (args:Array Value) (w:World):(callFunc f args).run P w = .ok (.enter f args) w:=by
 have h1:fn.name ≠ "runtime.NumGoroutine" := by simpa using hname
 obtain ⟨c,hc⟩:=am6.1 hb
 simp [callFunc,hf,h1,hc]
theorem bW {rest:List Oper} {oi:Oper} {a:Act} {w:World} (N:Option Tmp) (hd:oi.dst = N) (hg:oi.guard = none) {f:FuncId} {fn:Func} {ZZ9:Array Operand} {ts:Array TypeId} (hf:P.funcs[f]? = some fn) (hname:(fn.name == "runtime.NumGoroutine") = false) (hb:fn.body.isSome = true) (args:Array Value)
  (hop:oi.op = .call { callee:=.value (.func f),args:=ZZ9,argTypes:=ts }) (hargs:ZZ9.map a.eval = args)
  (h:Calls P f args w fun e w'=>∃ v,e = .returned v ∧ wpList P ops Q rest (a.put N v) w'):wpList P ops Q (oi :: rest) a w:=by
 refine wpList_plain hg fun K hK=>?_
 have he:=Uc hf hname hb args w
 have hrun:(execOp a.eval oi).run P w = .ok (.enter f args) w:=by
  unfold execOp
  simp [hop,resolve,Deferred.ofValue,invoke,Act.eval,hargs,he]
 unfold Oper.wp
 rw [hrun,Oper.upon_enter]
 refine h.mono fun e w'' hh=>?_
 obtain ⟨v,rfl,hk⟩:=hh
 subst hd
 exact hK _ _ hk
theorem Y3 {oi:Oper} {N:Option Tmp} {a:Act} {w w1:World} {v:Value} {K:Act → World → Prop} (hw:Region.wanted oi (yielded ops a.tmps) = true) (hN:oi.dst = N) (hrun:(execOp a.eval oi).run P w = .ok (.value v) w1)
  (h:K (a.put N v) w1):if Region.wanted oi (yielded ops a.tmps) = true then Oper.wp P oi a w K Q else K (a.put N undef) w:=by
 rw [alx hw]
 subst hN
 unfold Oper.wp
 rw [hrun]
 exact h
theorem acS {oi:Oper} {a:Act} {w w1:World} {K:Act → World → Prop} (hw:Region.wanted oi (yielded ops a.tmps) = true) (hN:oi.dst = none) (hrun:(execOp a.eval oi).run P w = .ok .skip w1)
  (h:K a w1):if Region.wanted oi (yielded ops a.tmps) = true then Oper.wp P oi a w K Q else K (a.put none undef) w:=by
 rw [alx hw]
 unfold Oper.wp
 rw [hrun]
 show K (a.put oi.dst undef) w1
 rw [hN]
 exact h
theorem iN (n:Int):IntKind.i64.wrap n = Go.RowKit.wrap64 n:=by unfold Go.RowKit.wrap64;exact IntKind.wrap_i64 n
theorem iZ (n:Int):IntKind.i32.wrap n = Go.RowKit.wrap32 n:=by unfold Go.RowKit.wrap32;exact IntKind.wrap_i32 n
end
end Go.Proofs.YtfokaoeinpnagaaGreatW.eF
namespace Go.Proofs.YtfokaoeinpnagaaGreatW.bI
section
open Go.RowKit
namespace Kd
def tag {α:Type} (f:Nat → Nat) (d:Kd α):Kd (α × Nat) where
 sz:=d.sz
 E:=d.E
 K:=fun w x cs=>d.K w x.1 cs
 M:=fun w base ok x cs=>d.M w base (fun k=>ok k ∧ f k = x.2) x.1 cs
 qH:=fun h=>d.qH h
 rF:=fun h=>d.rF h
 nI:=fun hb h=>d.nI hb h
 jZ:=fun h=>d.jZ h
 lN:=fun hok h=>d.lN (fun k hk=>⟨hok k hk.1,hk.2⟩) h
 lQ:=fun h=>d.lN (fun _ hk=>⟨⟨hk.1.1,hk.2⟩,hk.1.2⟩) (d.lQ h)
 oh:=fun hm h=>d.oh (fun k hk=>hm k hk.1) h
 nJ:=fun hb h=>d.nJ hb h
def raw (sz:Nat):Kd (List Value) where
 sz:=sz
 E:=[]
 K:=fun _ x cs=>cs = x ∧ cs.length = sz ∧ ∀ u ∈ cs,u.oneCell' = true
 M:=fun _ _ _ x cs=>cs = x ∧ cs.length = sz ∧ ∀ u ∈ cs,u.oneCell' = true
 qH:=fun h=>h.2.1
 rF:=fun h=>h.2.2
 nI:=fun _ h=>h
 jZ:=fun h=>h
 lN:=fun _ h=>h
 lQ:=fun h=>h
 oh:=fun _ h=>h
 nJ:=fun _ h=>h
def S {α:Type} (d:Kd α) (e:Nat) (w:World) (base:Nat) (ok:Nat → Prop) (v:Value) (xs:List α):Prop:=∃ f,(tag f d).R e w base ok v xs.zipIdx
section
variable {α β:Type} {d:Kd α} {d':Kd β} {e e':Nat} {w w1 W:World} {base b:Nat} {ok ok' okv oku:Nat → Prop} {u v:Value} {xs:List α} {ys:List β}
theorem mK (d:Kd α) (e:Nat) (w:World) (base:Nat) (ok:Nat → Prop):S d e w base ok (.slice none 0 0) []:=⟨fun _=>0,kF _ _ _ _ _⟩
end
section
variable {α β:Type} {d:Kd α} {d':Kd β} {e e' g:Nat} {w w1 W:World} {base b:Nat} {ok ok' okv oku:Nat → Prop} {u v:Value} {xs:List α} {ys:List β}
end
section
open Classical in
variable {P : Program} {ops:Array Oper} {rest:List Oper} {o:Oper} {a:Act} {Q:Exit → Act → World → Prop} {Kc:Act → World → Prop} {α:Type}
end
def gap {α:Type} (f:Nat → Nat) (d:Kd α) (i:Nat) (c:List Value):Kd (α × Nat) where
 sz:=d.sz
 E:=d.E
 K:=fun w x cs=>(x.2 = i → cs = c ∧ cs.length = d.sz ∧ ∀ u ∈ cs,u.oneCell' = true) ∧ (x.2 ≠ i → d.K w x.1 cs)
 M:=fun w base ok x cs=>(x.2 = i → cs = c ∧ cs.length = d.sz ∧ ∀ u ∈ cs,u.oneCell' = true) ∧ (x.2 ≠ i → d.M w base (fun k=>ok k ∧ f k = x.2) x.1 cs)
 qH:=fun {w x cs} h=>by
  by_cases hx:x.2 = i
  ·exact (h.1 hx).2.1
  ·exact d.qH (h.2 hx)
 rF:=fun {w x cs} h=>by
  by_cases hx:x.2 = i
  ·exact (h.1 hx).2.2
  ·exact d.rF (h.2 hx)
 nI:=fun hb h=>⟨h.1,fun hx=>d.nI hb (h.2 hx)⟩
 jZ:=fun h=>⟨h.1,fun hx=>d.jZ (h.2 hx)⟩
 lN:=fun hok h=>⟨h.1,fun hx=>d.lN (fun k hk=>⟨hok k hk.1,hk.2⟩) (h.2 hx)⟩
 lQ:=fun h=>⟨h.1,fun hx=>d.lN (fun _ hk=>⟨⟨hk.1.1,hk.2⟩,hk.1.2⟩) (d.lQ (h.2 hx))⟩
 oh:=fun hm h=>⟨h.1,fun hx=>d.oh (fun k hk=>hm k hk.1) (h.2 hx)⟩
 nJ:=fun hb h=>⟨h.1,fun hx=>d.nJ hb (h.2 hx)⟩
def H {α:Type} (d:Kd α) (e:Nat) (w:World) (base:Nat) (ok:Nat → Prop) (v:Value) (xs:List α) (i:Int) (oki:Nat → Prop) (c:List Value):Prop :=
 (∀ k,oki k → ok k) ∧ ∃ f,(gap f d i.toNat c).R e w base (fun k=>ok k ∧ ¬ oki k) v xs.zipIdx
section
variable {α β:Type} {d:Kd α} {e e' g n cap:Nat} {w w1 W:World} {base:Nat} {ok ok' oki Md:Nat → Prop} {u v:Value} {xs:List α} {i:Int} {c:List Value}
open Classical in
end
section
variable {P : Program} {ops:Array Oper} {rest:List Oper} {o:Oper} {a:Act} {Q:Exit → Act → World → Prop} {α:Type}
end
end Kd
end
section
open Go.RowKit
namespace Kd
structure Heap {α:Type} (d:Kd α):Prop where
 K:∀ {w w1:World} {x:α} {cs:List Value},(∀ k,k < w.heap.size → w1.heap[k]? = w.heap[k]?) → d.K w x cs → d.K w1 x cs
theorem Mg {w w1:World} (hb:∀ k,k < w.heap.size → w1.heap[k]? = w.heap[k]?) {a:Addr} {v:Value} (h:w.cell? a = some v):w1.cell? a = some v:=by
 have:=hb a.block (World.block_lt_of_cell? w a h)
 simpa [World.cell?,this] using h
theorem Heap.C {α:Type} {d:Kd α} (hd:Heap d) {w w1:World} {A:Option Addr} {n:Nat} {xs:List α} (hb:∀ k,k < w.heap.size → w1.heap[k]? = w.heap[k]?) (h:d.C w A n xs):d.C w1 A n xs :=
 ⟨h.1,h.2.1,fun hn=>by
  obtain ⟨ad,e,hc⟩:=h.2.2 hn
  refine ⟨ad,e,fun j p hj=>?_⟩
  obtain ⟨c,hs,hr,hcell⟩:=hc j p hj
  exact ⟨c,hs,hd.K hb hr,fun i u hu=>Mg hb (hcell i u hu)⟩⟩
section
variable {α : Type} {d:Kd α} {e base g n c:Nat} {ok:Nat → Prop} {w w0 W:World} {A:Option Addr} {xs:List α}
end
end Kd
end
section
open Go.RowKit
def Kept (w W:World) (S:Nat → Prop):Prop:=w.heap.size ≤ W.heap.size ∧ ∀ i,i < w.heap.size → ¬ S i → W.heap[i]? = w.heap[i]?
section
variable {w W W2:World} {S S2 S':Nat → Prop}
theorem Kept.refl (w:World) (S:Nat → Prop):Kept w w S:=⟨alC _,fun _ _ _=>rfl⟩
theorem Kept.of_below (h:Below w.heap.size w W) (S:Nat → Prop):Kept w W S:=⟨h.size,fun i hi _=>h.block i hi⟩
theorem Kept.mono (h:Kept w W S) (hs:∀ k,S k → S' k):Kept w W S':=⟨h.1,fun i hi hn=>h.2 i hi (fun hk=>hn (hs i hk))⟩
theorem Kept.then_ (h:Kept w W S) (k:Kept W W2 S2) (hs:∀ k,S2 k → S k ∨ w.heap.size ≤ k):Kept w W2 S :=
 ⟨alU h.1 k.1,fun i hi hn=>(k.2 i (amk hi h.1) (fun h2=>(hs i h2).elim hn (fun h3=>by omega))).trans (h.2 i hi hn)⟩
theorem Kept.below (h:Kept w W S) (hb:Below W.heap.size W W2):Kept w W2 S:=h.then_ (Kept.of_below hb (fun _=>False)) (fun _ hk=>hk.elim)
theorem Kept.alloc (h:Kept w W S) (o:Obj):Kept w (W.alloc o) S:=h.below (ak (Below.refl _ _) o)
theorem Kept.drew (h:Kept w W S):Kept w W.drew S:=h
theorem Kept.drewN (h:Kept w W S) (m:Nat):Kept w (W.drewN m) S:=h
theorem Kept.setCell (h:Kept w W S) {p:Addr} (hp:S p.block ∨ w.heap.size ≤ p.block) (u:Value):Kept w (W.setCell p u) S :=
 h.then_ (S2:=fun k=>k = p.block) ⟨by simp [World.setCell],fun i _ hn=>Below.heap_setCell W p u i hn⟩ (fun k hk=>by rw [hk];exact hp)
theorem Kept.keep {g:Nat} (h:iR w W g none) (k:Kept W W2 S2) (hs:∀ k,S2 k → w.heap.size ≤ k):iR w W2 g none :=
 ⟨alU h.1 k.1,fun i hi hg hr=>(k.2 i (amk hi h.1) (fun h2=>by have:=hs i h2;omega)).trans (h.2 i hi hg hr)⟩
end
namespace Kd
section
variable {α : Type} {d:Kd α} {e base n c:Nat} {ok oki S S2:Nat → Prop} {w w0 W W1 W2:World} {v:Value} {A:Option Addr} {xs:List α} {i:Int} {cs:List Value}
end
end Kd
end
section
open Go.RowKit
def uD (P:World → Prop) (W:World) (ok:Nat → Prop):Prop:=∀ W':World,(∀ k,ok k → k < W.heap.size → W'.heap[k]? = W.heap[k]?) → P W'
theorem Ud {W W1:World} {k:Nat} (h:W1.heap[k]? = W.heap[k]?) (hlt:k < W.heap.size):k < W1.heap.size:=by
 rw [al9 hlt] at h
 exact (amI.1 h).1
namespace uD
variable {P Q:World → Prop} {W W1:World} {ok ok':Nat → Prop}
theorem now (h:uD P W ok):P W:=h W (fun _ _ _=>rfl)
theorem mono (h:uD P W ok) (hok:∀ k,ok k → ok' k):uD P W ok':=fun W' hW=>h W' (fun k hk hlt=>hW k (hok k hk) hlt)
theorem bound (h:uD P W ok):uD P W (fun k=>ok k ∧ k < W.heap.size):=fun W' hW=>h W' (fun k hk hlt=>hW k ⟨hk,hlt⟩ hlt)
theorem step (h:uD P W ok) (hm:∀ k,ok k → k < W.heap.size → W1.heap[k]? = W.heap[k]?):uD P W1 ok:=fun W' hW=>h W' (fun k hk hlt=>(hW k hk (Ud (hm k hk hlt) hlt)).trans (hm k hk hlt))
theorem imp (h:uD P W ok) (hi:∀ W',P W' → Q W'):uD Q W ok:=fun W' hW=>hi W' (h W' hW)
theorem old (h:uD P W ok) (hb:Below W.heap.size W W1):uD P W1 (fun k=>ok k ∧ k < W.heap.size):=(h.bound).step (fun k _ hlt=>hb.block k hlt)
end uD
namespace Kd
def F {α:Type} (d:Kd α) (W:World) (ok:Nat → Prop) (A:Option Addr) (n:Nat) (xs:List α):Prop:=uD (fun W=>d.C W A n xs) W ok
def FK {α:Type} (d:Kd α) (W:World) (ok:Nat → Prop) (x:α) (c:List Value):Prop:=uD (fun W=>d.K W x c) W ok
section
variable {α β:Type} {d:Kd α} {e base n n' cc g N:Nat} {ok ok' Md S:Nat → Prop} {w w0 w1 W W1:World} {A A':Option Addr} {u v v1:Value} {xs:List α} {xs':List β} {d':Kd β} {x:α} {c:List Value}
theorem acT (d:Kd α) (W:World) (ok:Nat → Prop):F d W ok none ([]:List α).length []:=fun W' _=>acO d W'
theorem Ue (h:d.M W base ok x c):FK d W ok x c:=fun _ hW=>d.jZ (YW h hW)
end
end Kd
end
section
open Go.RowKit
namespace Kd
def chunks (sz:Nat) (n:Nat) (inner:List Value):List (List Value):=(List.range n).map fun j=>(inner.drop (j * sz)).take sz
theorem kN (sz n:Nat) (inner:List Value):(chunks sz n inner).length = n:=by simp [chunks]
theorem Mh {sz n:Nat} {inner:List Value} {j:Nat} (hj:j < n):(chunks sz n inner)[j]? = some ((inner.drop (j * sz)).take sz):=by simp [chunks,hj]
theorem Ah {sz n:Nat} {inner:List Value} {j:Nat} {c:List Value} (h:(chunks sz n inner)[j]? = some c):c = (inner.drop (j * sz)).take sz:=by
 have hj:j < n:=by have:=(amm.1 h).1;rwa [kN] at this
 rw [Mh hj] at h
 injection h with h
 exact h.symm
theorem Qg {α:Type} {Rr:α → List Value → Prop} {sz:Nat} {xs:List α} {inner:List Value} (h:gU Rr sz xs inner) (hR:∀ x c,Rr x c → c.length = sz ∧ ∀ u ∈ c,u.oneCell' = true):gU (fun x cs=>cs = x ∧ cs.length = sz ∧ ∀ u ∈ cs,u.oneCell' = true) sz (chunks sz xs.length inner) inner:=by
 refine ⟨by rw [kN];exact h.1,fun j p hj=>?_⟩
 have hjl:j < xs.length:=by have:=(amm.1 hj).1;rwa [kN] at this
 have hp:=Ah hj
 exact ⟨hp.symm,hR _ _ (h.2 j _ (alT hjl))⟩
section
variable {α : Type} {d:Kd α} {e base n cc g:Nat} {ok ok' Md S:Nat → Prop} {w w1 W W1:World} {A:Option Addr} {u v v1:Value} {xs:List α} {x:α} {c:List Value}
def N {α:Type} (d:Kd α) (e:Nat) (w:World) (base:Nat) (ok:Nat → Prop) (v:Value) (xs:List α):Prop :=
 (∀ k,v.ownBlock = some k → ok k) ∧ ∃ rows:List (List Value),rows.length = xs.length ∧ (raw d.sz).R e w base (fun k=>some k = v.ownBlock) v rows ∧ ∀ (j:Nat) (x:α) (c:List Value),xs[j]? = some x → rows[j]? = some c → FK d w (fun k=>ok k ∧ some k ≠ v.ownBlock) x c
theorem R_N (h:d.R e w base ok v xs):N d e w base ok v xs:=by
 obtain ⟨h0,inner,ho,hr⟩:=h
 refine ⟨h0,chunks d.sz xs.length inner,kN _ _ _,⟨fun k hk=>hk.symm,inner,by rw [kN];exact ho,Qg hr (fun x c hp=>⟨d.qH (d.jZ hp),d.rF (d.jZ hp)⟩)⟩,fun j x c hx hc=>?_⟩
 rw [Ah hc]
 exact Ue (hr.2 j x hx)
theorem mM (d:Kd α) (e:Nat) (w:World) (base:Nat) (ok:Nat → Prop):N d e w base ok (.slice none 0 0) []:=R_N (kF _ _ _ _ _)
end
end Kd
end
end Go.Proofs.YtfokaoeinpnagaaGreatW.bI
namespace Go.Proofs.YtfokaoeinpnagaaGreatW.fK
open Go.RowKit Go.Proofs.YtfokaoeinpnagaaGreatW.bI
namespace Kd
open Go.Proofs.YtfokaoeinpnagaaGreatW.bI.Kd
end Kd
namespace Kd
open Go.Proofs.YtfokaoeinpnagaaGreatW.bI.Kd
section
variable {α : Type} {d:Kd α} {e base g N:Nat} {ok:Nat → Prop} {W w1:World} {u v:Value} {xs:List α}
end
end Kd
theorem j4 (k k':IntKind) (x y:Int):Builtin.max2 (.int k x) (.int k' y) = pure (.int k (if x < y then y else x)):=by simp only [Builtin.max2,gt_iff_lt]
theorem j5 (k k':IntKind) (x y:Int):Builtin.min2 (.int k x) (.int k' y) = pure (.int k (if y < x then y else x)):=by simp only [Builtin.min2]
theorem lS (ats:Array TypeId) (ty:TypeId) (a b:Value):Builtin.max_ ats ty #[a,b] = (Builtin.max2 a b >>= fun s=>pure s):=by simp only [Builtin.max_,anE,List.foldlM_nil]
theorem lT (ats:Array TypeId) (ty:TypeId) (a b:Value):Builtin.min_ ats ty #[a,b] = (Builtin.min2 a b >>= fun s=>pure s):=by simp only [Builtin.min_,anE,List.foldlM_nil]
theorem ji (ats:Array TypeId) (ty:TypeId) (a b c:Value):Builtin.max_ ats ty #[a,b,c] = (Builtin.max2 a b >>= fun s=>Builtin.max2 s c >>= fun s=>pure s):=by simp only [Builtin.max_,anE,List.foldlM_nil]
theorem jk (ats:Array TypeId) (ty:TypeId) (a b c:Value):Builtin.min_ ats ty #[a,b,c] = (Builtin.min2 a b >>= fun s=>Builtin.min2 s c >>= fun s=>pure s):=by simp only [Builtin.min_,anE,List.foldlM_nil]
theorem j6 (ats:Array TypeId) (ty:TypeId) (a b c d:Value):Builtin.max_ ats ty #[a,b,c,d] = (Builtin.max2 a b >>= fun s=>Builtin.max2 s c >>= fun s=>Builtin.max2 s d >>= fun s=>pure s):=by simp only [Builtin.max_,anE,List.foldlM_nil]
theorem kg (ats:Array TypeId) (ty:TypeId) (a b c d:Value):Builtin.min_ ats ty #[a,b,c,d] = (Builtin.min2 a b >>= fun s=>Builtin.min2 s c >>= fun s=>Builtin.min2 s d >>= fun s=>pure s):=by simp only [Builtin.min_,anE,List.foldlM_nil]
end Go.Proofs.YtfokaoeinpnagaaGreatW.fK
namespace Go.Proofs.YtfokaoeinpnagaaGreatW.bI
open Go.RowKit
section
variable {P : Program} {ops:Array Oper} {rest:List Oper} {o:Oper} {a:Act} {Q:Exit → Act → World → Prop} {W:World}
theorem aQ {f:FuncId} {ZZ9:Array Operand} {ts:Array TypeId} (_ho:o.op = .call { callee:=.value (.func f),args:=ZZ9,argTypes:=ts }) (h:wpList P ops Q (o :: rest) a W):wpList P ops Q (o :: rest) a W:=h
theorem qA {b:Builtin} {xs:Array Operand} {ts:Array TypeId} (_ho:o.op = .call { callee:=.builtin b,args:=xs,argTypes:=ts }) (h:wpList P ops Q (o :: rest) a W):wpList P ops Q (o :: rest) a W:=h
end
def mx (a b:Int):Int:=if a < b then b else a
def mn (a b:Int):Int:=if b < a then b else a
def shl (k:IntKind) (x y:Int):Int:=k.wrap (x * 2 ^ min y.toNat k.bits)
def shr (k:IntKind) (x y:Int):Int:=x / 2 ^ min y.toNat k.bits
namespace Kd
section
variable {α : Type} {d:Kd α} {e base:Nat} {ok:Nat → Prop} {W w1:World} {v:Value} {xs:List α}
end
section
variable {α : Type} {d:Kd α} {e base g n cap:Nat} {ok oki Md:Nat → Prop} {W:World} {xs:List α} {i:Int} {c:List Value}
end
section
variable {α : Type} {d:Kd α} {e base b b' g N:Nat} {ok ok1:Nat → Prop} {W W2 w1:World} {u v:Value} {xs ys:List α} {S:Nat → Prop}
end
end Kd
end Go.Proofs.YtfokaoeinpnagaaGreatW.bI
namespace Go.Proofs.YtfokaoeinpnagaaGreatW.bI
open Go.RowKit
namespace Kd
def V {α:Type} (d:Kd α) (_e:Nat) (W:World) (_base:Nat) (ok:Nat → Prop) (v:Value) (xs:List α):Prop:=∃ A c,v = .slice A xs.length c ∧ xs.length ≤ c ∧ F d W ok A xs.length xs
section
variable {α β:Type} {d:Kd α} {e base base' n m c g N' lo hi:Nat} {ok ok' S:Nat → Prop} {w W w1:World} {A:Option Addr} {ad:Addr} {u v v1:Value} {xs:List α}
theorem dG (h:V d e W base ok v xs) (hF:∀ A,F d W ok A xs.length xs → F d w1 ok' A xs.length xs):V d e w1 base' ok' v xs:=by
 obtain ⟨A,c,hv,hl,hf⟩:=h
 exact ⟨A,c,hv,hl,hF A hf⟩
theorem mO (d:Kd α) (e:Nat) (W:World) (base:Nat) (ok:Nat → Prop):V d e W base ok (.slice none 0 0) []:=⟨none,0,rfl,alC _,acT d W ok⟩
end
end Kd
end Go.Proofs.YtfokaoeinpnagaaGreatW.bI
namespace Go.Proofs.YtfokaoeinpnagaaGreat.B
section
open Go.RowKit Go.Proofs.YtfokaoeinpnagaaGreatW.bI
theorem iC {n:Int} (h0:-9223372036854775808 ≤ n) (h1:n ≤ 9223372036854775807):wrap64 n = n:=by unfold wrap64;omega
theorem toList_inj {s t:ByteArray}:s.toList = t.toList ↔ s = t:=by
 constructor
 ·intro h
  rw [Lib.toList_data,Lib.toList_data] at h
  exact amN (Array.toList_inj.mp h)
 ·rintro rfl;rfl
theorem toList_nil {s:ByteArray}:s.toList = ([]:List UInt8) ↔ s.size = 0:=by
 rw [Lib.toList_data]
 constructor
 ·intro h
  show s.data.size = 0
  rw [← Array.length_toList,h];rfl
 ·intro h
  have h':s.data.size = 0:=h
  rw [← Array.length_toList] at h'
  exact am5 h'
theorem eq_empty {s:ByteArray} (h:s.size = 0):s = ⟨#[]⟩:=toList_inj.mp ((toList_nil.mpr h).trans (toList_nil.mpr rfl).symm)
theorem qB (s:ByteArray) (i:Int):bt s i = ((s.data.toList[i.toNat]?.getD 0).toNat:Int):=by
 unfold bt
 by_cases h:i.toNat < s.size
 ·rw [dif_pos h]
  have h':i.toNat < s.data.toList.length:=by rw [Array.length_toList];exact h
  rw [alT h']
  rfl
 ·rw [dif_neg h]
  have h':¬ i.toNat < s.data.toList.length:=by rw [Array.length_toList];exact h
  rw [am0 (by omega)]
  rfl
theorem Ai {a b:ByteArray} {i:Int} (h0:0 ≤ i) (h:i < (a.size:Int)):bt (a ++ b) i = bt a i:=by
 rw [qB,qB,anF,Array.toList_append,am3]
 rw [Array.length_toList];show i.toNat < a.size;omega
theorem oo {s:ByteArray} {a b:Nat} {j:Int} (hj:0 ≤ j) (h:j < ((s.extract a b).size:Int)):bt (s.extract a b) j = bt s (a + j):=by
 have h':=h
 simp only [al1] at h'
 rw [qB,qB,Lib.extract_data,amr,alx (by omega),amB]
 rw [show a + j.toNat = ((a:Int) + j).toNat from by omega]
theorem Jf {s t:ByteArray} (hz:s.size = t.size) (h:∀ i:Int,0 ≤ i → i < (s.size:Int) → bt s i = bt t i):s = t:=by
 have es:s.data.toList.length = s.size:=by rw [Array.length_toList];rfl
 have et:t.data.toList.length = t.size:=by rw [Array.length_toList];rfl
 refine amN (Array.toList_inj.mp (List.ext_getElem (by omega) fun i h1 h2=>?_))
 have:=h i (by omega) (by omega)
 rw [qB,qB] at this
 have e:((i:Int)).toNat = i:=by omega
 rw [e,alT h1,alT h2] at this
 exact UInt8.toNat_inj.mp (Int.ofNat.inj this)
theorem Uf (xs:List Int) (i:Int) (h:∀ x ∈ xs,0 ≤ x ∧ x ≤ 255):bt (strOfNums xs) i = xs[i.toNat]?.getD 0:=by
 rw [qB,strOfNums_data,alG]
 by_cases hi:i.toNat < xs.length
 ·rw [alT hi]
  have:=h _ (List.getElem_mem hi)
  simp [UInt8.toNat_ofNat']
  omega
 ·rw [am0 (by omega)]
  rfl
theorem vT (a b:ByteArray):(a ++ b).extract a.size (a ++ b).size = b:=by
 rw [ByteArray.extract_append]
 have e:a.extract a.size (a ++ b).size = ⟨#[]⟩:=eq_empty (by simp only [al1];omega)
 rw [e,alO,show a.size - a.size = 0 from by omega,show a.size + b.size - a.size = b.size from by omega,anI]
 exact amN (by rw [anF];simp)
theorem empty_append (s:ByteArray):(⟨#[]⟩:ByteArray) ++ s = s:=by
 refine amN ?_
 rw [anF];simp
theorem append_empty (s:ByteArray):s ++ (⟨#[]⟩:ByteArray) = s:=by
 refine amN ?_
 rw [anF];simp
theorem GD : (⟨#[]⟩:ByteArray).size = 0:=rfl
theorem size_ext {s:ByteArray} {i n:Int} (h0:0 ≤ i) (hn:0 ≤ n) (hs:i + n ≤ (s.size:Int)):((s.extract i.toNat (i + n).toNat).size:Int) = n:=by
 simp only [al1];omega
theorem Qh {s:ByteArray} {i n j:Int} (h0:0 ≤ i) (hj:0 ≤ j) (hn:j < n) (hs:i + n ≤ (s.size:Int)):bt (s.extract i.toNat (i + n).toNat) j = bt s (i + j):=by
 rw [oo hj (by rw [size_ext h0 (by omega) hs];exact hn)]
 congr 1
 omega
theorem aY (a b:Bool):(a == !b) = (a != b):=by cases a <;> cases b <;> rfl
theorem aZ (a b:Bool):(a != !b) = (a == b):=by cases a <;> cases b <;> rfl
section
open Go
variable {P : Program} {d c j:Nat} {e:TypeId} {xs ys:Array Value} {js:List Nat} {a b:Value} {r s:Bool} {w:World}
theorem Qi (ha:(part e xs (j * c)).run P w = .ok a w) (hb:(part e ys (j * c)).run P w = .ok b w) (he:(Op.equalIn d e a b).run P w = .ok r w):(Op.eqItems d e c xs ys [j]).run P w = .ok r w:=by
 simp only [Op.eqItems,Sem.run_bind,ha,hb,he,Result.andThen_ok]
 cases r <;> simp
theorem GH (ha:(part e xs (j * c)).run P w = .ok a w) (hb:(part e ys (j * c)).run P w = .ok b w) (he:(Op.equalIn d e a b).run P w = .ok r w) (hr:(Op.eqItems d e c xs ys js).run P w = .ok s w):(Op.eqItems d e c xs ys (j :: js)).run P w = .ok (r && s) w:=by
 rw [Op.eqItems]
 simp only [Sem.run_bind,ha,hb,he,Result.andThen_ok]
 cases r
 ·simp
 ·simpa using hr
theorem Qj {t:TypeId} {n:Nat} (hu:P.underlying t = some (.array n e)) (hi:(P.info? e).isSome = true) (hc:P.cellsOf e = 1) (h:(Op.eqItems d e 1 xs ys (List.range n)).run P w = .ok r w):(Op.equalIn (d + 1) t (.agg xs) (.agg ys)).run P w = .ok r w:=by
 obtain ⟨i,hi⟩:=am6.mp hi
 rw [run_equalIn_array (P:=P) w d xs ys hu hi,hc]
 exact h
end
end
section
open Go.RowKit Go.Proofs.YtfokaoeinpnagaaGreatW.bI
def xX (w:World) (g:Nat) (xs:List Int):Prop:=∀ j,j < xs.length → w.cell? ⟨g,j,none⟩ = some (.int .u8 (xs.getD j 0)) ∧ w.frozen? ⟨g,j,none⟩ = false
def jD (c:Int):Int:=if 65 ≤ c ∧ c ≤ 90 then c + 32 else c
def numsOf (s:ByteArray):List Int:=s.data.toList.map fun b=>(b.toNat:Int)
theorem numsOf_length (s:ByteArray):(numsOf s).length = s.size:=by simp [numsOf]
theorem numsOf_at (s:ByteArray) (j:Nat):(numsOf s).getD j 0 = bt s j:=by
 rw [qB,numsOf,al8,alG]
 rw [show ((j:Int)).toNat = j from by omega]
 cases s.data.toList[j]? <;> rfl
def qM (s:ByteArray):ByteArray:=strOfNums ((numsOf s).map jD)
def jL (k:Nat) (xs:List Int):List Int:=(xs.take k).map jD ++ xs.drop k
theorem iK (k:Nat) (xs:List Int):(jL k xs).length = xs.length:=by simp [jL];omega
theorem Aj (xs:List Int):jL 0 xs = xs:=by simp [jL]
theorem Cz (xs:List Int):jL xs.length xs = xs.map jD:=by simp [jL]
theorem GI (k:Nat) (xs:List Int) (h:k < xs.length):(jL k xs).getD k 0 = xs.getD k 0:=by
 simp only [jL,al8]
 rw [anr (by simp;omega)]
 simp only [alA,alP,amB]
 congr 2
 omega
theorem xq (k:Nat) (xs:List Int) (h:k < xs.length):(jL k xs).set k (jD (xs.getD k 0)) = jL (k + 1) xs:=by
 apply amQ
 intro i
 rw [List.getElem?_set]
 have hl:=iK k xs
 by_cases e:k = i
 ·subst e
  rw [alx rfl,alx (by omega)]
  simp only [jL]
  rw [am3 (by simp;omega),alG,amr,alx (by omega),al8,alT h]
  rfl
 ·rw [aly e]
  simp only [jL]
  by_cases h2:i < k
  ·rw [am3 (by simp;omega),am3 (by simp;omega),alG,alG,amr,amr,alx h2,alx (by omega)]
  ·by_cases h3:i < xs.length
   ·rw [anr (by simp;omega),anr (by simp;omega),amB,amB]
    congr 1
    simp only [alA,alP]
    omega
   ·rw [am0 (by simp;omega),am0 (by simp;omega)]
theorem CB (s:ByteArray) (k:Nat):0 ≤ bt s k ∧ bt s k ≤ 255:=iA s k
theorem Ak (w:World) (e:TypeId) (s:ByteArray):xX (Lib.bytesWorld w e s) w.heap.size (numsOf s):=by
 intro j hj
 rw [numsOf_length] at hj
 refine ⟨?_,?_⟩
 ·rw [Lib.bytesWorld_cell w e s j hj,numsOf_at,qB,al8]
  rfl
 ·have hlt:j < (Lib.bytesCells w e s).size:=by
   have:s.size ≤ (Lib.bytesCells w e s).size:=by simp [Lib.bytesCells]
   omega
  simp [World.frozen?,Lib.bytesWorld_at_new]
  omega
theorem rowAt_set {w:World} {g:Nat} {xs:List Int} (h:xX w g xs) (k:Nat) (v:Int) (hk:k < xs.length):xX (w.setCell ⟨g,k,none⟩ (.int .u8 v)) g (xs.set k v):=by
 intro j hj
 rw [anj] at hj
 obtain ⟨h1,h2⟩:=h j hj
 refine ⟨?_,by rw [World.frozen?_setCell];exact h2⟩
 by_cases e:j = k
 ·subst e
  rw [World.cell?_setCell_same w _ _ h1]
  simp [al8,hj]
 ·rw [World.cell?_setCell_other w _ _ _ (by intro hc;injection hc with _ h3 _;exact e h3.symm),h1]
  simp [al8,List.getElem?_set,Ne.symm e]
theorem Al {B:Nat} {a w:World} (h:Below B a w) (hB:B ≤ w.heap.size) (e:TypeId) (s:ByteArray):Below B a (Lib.bytesWorld w e s) :=
 ⟨h.os,h.tape,h.output,by rw [Lib.bytesWorld_size];have:=h.size;omega,fun k hk=>(Lib.bytesWorld_at_old w e s k (by omega)).trans (h.block k hk)⟩
end
section
open Go.RowKit Go.Proofs.YtfokaoeinpnagaaGreatW.bI
def sg (b:Int):ByteArray:=strOfNums [b]
def root : ByteArray:=⟨#[0]⟩
theorem sK (b:Int):(sg b).size = 1:=by unfold sg;rw [strOfNums_size];rfl
theorem mq : root.size = 1:=rfl
theorem Qk (b:Int) (h:0 ≤ b ∧ b ≤ 255):bt (sg b) 0 = b:=by
 unfold sg;rw [Uf [b] 0 (by simpa using h)];rfl
theorem KE : bt root 0 = 0:=by decide
def BI : List ByteArray → ByteArray
 | []=>⟨#[]⟩
 | x :: l=>sg x.size ++ x ++ BI l
def enc (l:List ByteArray):ByteArray:=BI l ++ root
def Mj (x:ByteArray):Prop:=1 ≤ x.size ∧ x.size ≤ 63
instance (x : ByteArray):Decidable (Mj x):=by unfold Mj;infer_instance
theorem KF : enc [] = root:=empty_append _
theorem Am (x:ByteArray) (l:List ByteArray):enc (x :: l) = sg x.size ++ x ++ enc l:=by unfold enc;rw [BI,ant]
theorem GJ (l m:List ByteArray):BI (l ++ m) = BI l ++ BI m:=by
 induction l with
 | nil=>simp only [List.nil_append,BI];exact (empty_append _).symm
 | cons x l ih=>simp only [List.cons_append,BI,ih,ant]
theorem qC (l:List ByteArray):1 ≤ (enc l).size:=by unfold enc;rw [alO,mq];omega
theorem Y4 {b:Int} {x r:ByteArray} (h:0 ≤ b ∧ b ≤ 255):bt (sg b ++ x ++ r) 0 = b:=by
 rw [ant,Ai (by omega) (by rw [sK];omega),Qk b h]
theorem Mk {b:Int} {x r:ByteArray}:(sg b ++ x ++ r).extract 1 (1 + x.size) = x:=by
 rw [ant,show (1:Nat) = (sg b).size + 0 from by rw [sK],show (sg b).size + 0 + x.size = (sg b).size + x.size from by omega,ByteArray.extract_append_size_add,ByteArray.extract_append_eq_left rfl]
theorem Ql {b:Int} {x r:ByteArray}:(sg b ++ x ++ r).extract (1 + x.size) (sg b ++ x ++ r).size = r:=by
 have:(sg b ++ x).size = 1 + x.size:=by rw [alO,sK]
 have h:=vT (sg b ++ x) r
 rw [this] at h
 exact h
theorem rJ {b:Int} {x r:ByteArray}:(sg b ++ x ++ r).size = 1 + x.size + r.size:=by simp only [alO,sK]
theorem acU (n:ByteArray) (k:Nat) (hk:(k:Int) = bt n 0) (hlt:1 + k ≤ n.size):n = sg k ++ n.extract 1 (1 + k) ++ n.extract (1 + k) n.size:=by
 have h1:n.extract 0 1 = sg k:=by
  have hz:(n.extract 0 1).size = 1:=by rw [al1];omega
  refine Jf (by rw [hz,sK]) fun i h0 hi=>?_
  have:i = 0:=by omega
  subst this
  have hr:=iA n 0
  rw [oo (by omega) (by rw [hz];omega),Qk _ (by omega),hk]
  rfl
 rw [← h1,ByteArray.extract_append_extract,show min 0 1 = 0 from rfl,show max 1 (1 + k) = 1 + k from by omega,ByteArray.extract_append_extract]
 rw [show min 0 (1 + k) = 0 from by omega,show max (1 + k) n.size = n.size from by omega,anI]
def kP : Nat → ByteArray → Option (List ByteArray)
 | 0,_=>none
 | k + 1,n =>
  if n.size = 0 then none
  else if n = root then some []
  else if 1 ≤ bt n 0 ∧ bt n 0 ≤ 63 ∧ bt n 0 + 1 < (n.size:Int) then
   (kP k (n.extract (1 + (bt n 0).toNat) n.size)).map (n.extract 1 (1 + (bt n 0).toNat) :: ·)
  else none
theorem mP : ∀ (k:Nat) (n:ByteArray) (l:List ByteArray),kP k n = some l → n = enc l ∧ ∀ x ∈ l,Mj x
 | 0,_,_,h=>by simp [kP] at h
 | k + 1,n,l,h=>by
  rw [kP] at h
  split at h
  ·cases h
  ·split at h
   ·rename_i hr
    cases h
    exact ⟨by rw [KF];exact hr,by simp⟩
   ·split at h
    ·rename_i hc
     obtain ⟨m,hm,rfl⟩:=zmm h
     obtain ⟨e,hok⟩:=mP k _ m hm
     have hz:(n.extract 1 (1 + (bt n 0).toNat)).size = (bt n 0).toNat:=by rw [al1];omega
     refine ⟨?_,?_⟩
     ·rw [Am,hz,← e]
      exact acU n _ (by omega) (by omega)
     ·intro x hx
      rcases alZ.mp hx with rfl | hx
      ·unfold Mj;omega
      ·exact hok x hx
    ·cases h
theorem GK (x:ByteArray) (l:List ByteArray) (h:Mj x):enc (x :: l) ≠ root:=by
 intro e
 have:=al2 ByteArray.size e
 have h2:=qC l
 have h1:=h.1
 rw [Am,rJ,mq] at this
 omega
theorem sM : ∀ (k:Nat) (l:List ByteArray),(∀ x ∈ l,Mj x) → (enc l).size ≤ k → kP k (enc l) = some l
 | 0,l,_,hk=>by have:=qC l;omega
 | k + 1,[],_,_=>by
  rw [kP,KF,aly (by rw [mq];omega),alx rfl]
 | k + 1,x :: l,hok,hk=>by
  have hx:=hok x (by simp)
  have h1:=qC l
  have hr:=GK x l hx
  obtain ⟨hx1,hx2⟩:=hx
  rw [Am] at hk hr ⊢
  rw [rJ] at hk
  rw [kP,aly (by rw [rJ];omega),aly hr,Y4 (by omega),rJ,alx (by omega)]
  have e:((x.size:Int)).toNat = x.size:=by omega
  have hc:=@Ql (x.size:Int) x (enc l)
  rw [rJ] at hc
  rw [e,Mk,hc,sM k l (fun y hy=>hok y (by simp [hy])) (by omega)]
  rfl
def vU (n:ByteArray):Option (List ByteArray):=if n.size ≤ 255 then kP 255 n else none
theorem Ml {n:ByteArray} {l:List ByteArray} (h:vU n = some l):n = enc l ∧ (∀ x ∈ l,Mj x) ∧ n.size ≤ 255:=by
 unfold vU at h
 split at h
 ·exact ⟨(mP _ _ _ h).1,(mP _ _ _ h).2,by assumption⟩
 ·cases h
theorem Qm {l:List ByteArray} (hok:∀ x ∈ l,Mj x) (hz:(enc l).size ≤ 255):vU (enc l) = some l:=by
 unfold vU
 rw [alx hz,sM _ _ hok hz]
theorem Ao : ∀ (k:Nat) (n:ByteArray),n.size ≤ k → kP k n = kP n.size n:=by
 intro k n hk
 cases h:kP k n with
 | some l =>
  obtain ⟨e,hok⟩:=mP _ _ _ h
  subst e
  exact (sM _ _ hok (alC _)).symm
 | none =>
  cases h2:kP n.size n with
  | none=>rfl
  | some l =>
   obtain ⟨e,hok⟩:=mP _ _ _ h2
   rw [e] at h hk
   rw [sM k l hok hk] at h
   cases h
theorem Ap {n:ByteArray} (h:1 ≤ n.size):kP n.size n = if n = root then some [] else if 1 ≤ bt n 0 ∧ bt n 0 ≤ 63 ∧ bt n 0 + 1 < (n.size:Int) then
   (kP (n.extract (1 + (bt n 0).toNat) n.size).size (n.extract (1 + (bt n 0).toNat) n.size)).map (n.extract 1 (1 + (bt n 0).toNat) :: ·) else none:=by
 obtain ⟨k,hk⟩:∃ k,n.size = k + 1:=⟨n.size - 1,by omega⟩
 conv=>lhs;rw [hk,kP]
 rw [aly (by omega)]
 split
 ·rfl
 ·split
  ·rw [Ao k _ (by rw [al1];omega)]
  ·rfl
def kK (n:ByteArray):Bool:=(vU n).isSome
def up (n:ByteArray):ByteArray × Bool:=match vU n with
 | some (_ :: l)=>(enc l,true)
 | _=>(⟨#[]⟩,false)
def same (a b:ByteArray):Bool:=kK a && kK b && decide (qM a = qM b)
theorem KG {n:ByteArray}:kK n = true ↔ ∃ l,n = enc l ∧ (∀ x ∈ l,Mj x) ∧ n.size ≤ 255:=by
 unfold kK
 constructor
 ·intro h
  obtain ⟨l,hl⟩:=am6.mp h
  exact ⟨l,Ml hl⟩
 ·rintro ⟨l,rfl,h1,h2⟩
  rw [Qm h1 h2];rfl
end
end Go.Proofs.YtfokaoeinpnagaaGreat.B
namespace Go.Proofs.YtfokaoeinpnagaaGreatW.eF
open Go.Proofs.YtfokaoeinpnagaaGreatW.bI (aj)
def sN (md:Region.Mode) (o:Oper):List Nat:=(o.after.toList.filter (fun e=>Region.binds md e)).map (fun e=>e.on)
def Eu (md:Region.Mode) (ops:Array Oper) (i:Nat) (oi:Oper):List Nat:=(List.range ops.size).filter fun j=>!(j == i) && match ops[j]? with
 | some oj=>!(oj.after.any (fun e=>Region.binds md e && e.on == i) || oi.apart ops oj)
 | none=>false
def oI (md:Region.Mode) (ops:Array Oper):Bool × List (List Nat × List Nat):=(Region.noSelect ops,(List.range ops.size).map fun i=>match ops[i]? with
 | some o=>(sN md o,Eu md ops i o)
 | none=>([],[]))
def oM (T:List (List Nat × List Nat)) (l:List Bool) (i:Nat):Bool:=!l.getD i true && match T[i]? with
 | some r=>r.1.all (fun j=>l.getD j false)
 | none=>false
def Aq (T:List (List Nat × List Nat)) (l:List Bool):List Nat:=(List.range T.length).filter (oM T l)
def GL (T:List (List Nat × List Nat)) (l:List Bool) (i:Nat):Bool:=match T[i]? with
 | some r=>r.2.all (fun j=>l.getD j true)
 | none=>false
def yV (T:List (List Nat × List Nat)) (l:List Bool):Bool:=(List.range T.length).all fun j=>!l.getD j false || match T[j]? with
 | some r=>r.1.all (fun k=>l.getD k false)
 | none=>true
def xu (T:List (List Nat × List Nat)) (i:Nat):Nat → Nat → Bool
 | 0,_=>false
 | fuel + 1,d=>match T[d]? with
  | some r=>r.1.any fun j=>j == i || xu T i fuel j
  | none=>false
def lastT (T:List (List Nat × List Nat)) (l:List Bool) (ds:List Nat) (i:Nat):Bool:=ds.all fun d=>l.getD d true || xu T i T.length d
section
variable {md : Region.Mode} {ops:Array Oper} {T:Bool × List (List Nat × List Nat)} {l l' li lj lk:Array Bool} {ds:List Nat} {i j k:Nat}
theorem gd (l:Array Bool) (j:Nat) (b:Bool):l.getD j b = l.toList.getD j b:=by simp [amq,al8]
theorem CG (o:Oper) (p:Nat → Bool):o.after.all (fun e=>!Region.binds md e || p e.on) = (sN md o).all p:=by
 unfold sN
 rw [← Array.all_toList]
 induction o.after.toList with
 | nil=>rfl
 | cons e r ih =>
  rw [List.all_cons,ih,ana]
  cases h:Region.binds md e <;> simp
theorem Mr (o:Oper) (p:Nat → Bool):o.after.any (fun e=>Region.binds md e && p e.on) = (sN md o).any p:=by
 unfold sN
 rw [← Array.any_toList]
 induction o.after.toList with
 | nil=>rfl
 | cons e r ih =>
  rw [List.any_cons,ih,ana]
  cases h:Region.binds md e <;> simp
theorem oN : (oI md ops).2.length = ops.size:=by simp [oI]
theorem sO {o:Oper} (h:ops[i]? = some o):(oI md ops).2[i]? = some (sN md o,Eu md ops i o):=by
 have hi:=(amI.1 h).1
 unfold oI
 rw [alG,List.getElem?_range hi,Option.map_some,h]
theorem sP (h:ops[i]? = none):(oI md ops).2[i]? = none:=by
 have hi:ops.size ≤ i:=Array.getElem?_eq_none_iff.1 h
 exact am0 (by rw [oN];exact hi)
theorem Jg : oM (oI md ops).2 l.toList i = (!l.getD i true && ((ops[i]?).map (·.after.all fun e=>!Region.binds md e || l.getD e.on false)).getD false):=by
 unfold oM
 rw [gd]
 cases h:ops[i]? with
 | none=>rw [sP h];rfl
 | some o =>
  rw [sO h]
  simp only [Option.map_some,Option.getD_some]
  rw [← CG]
  simp only [gd]
theorem ready_eq : Region.ready md ops l = Aq (oI md ops).2 l.toList:=by
 unfold Region.ready Aq
 rw [oN]
 refine List.filter_congr (fun i _=>?_)
 rw [Jg]
theorem free_eq : Region.free md ops l i = GL (oI md ops).2 l.toList i:=by
 unfold Region.free GL
 cases h:ops[i]? with
 | none=>rw [sP h]
 | some oi =>
  rw [sO h]
  simp only [Eu]
  rw [List.all_filter]
  congr 1
  funext j
  rw [gd]
  cases hj:ops[j]? with
  | none=>cases (j == i) <;> cases (l.toList.getD j true) <;> simp
  | some oj =>
   cases (j == i) <;> cases (l.toList.getD j true) <;> cases (oj.after.any (fun e=>Region.binds md e && e.on == i) || oi.apart ops oj) <;> simp_all
theorem Ms : Region.vR md ops l = yV (oI md ops).2 l.toList:=by
 unfold Region.vR yV
 rw [oN]
 congr 1
 funext j
 rw [gd]
 cases h:ops[j]? with
 | none=>rw [sP h]
 | some o =>
  rw [sO h]
  simp only
  rw [← CG]
  simp only [gd]
theorem GN : ∀ (fuel d:Nat),Region.ng md ops i fuel d = xu (oI md ops).2 i fuel d
 | 0,_=>rfl
 | fuel + 1,d=>by
  unfold Region.ng xu
  cases h:ops[d]? with
  | none=>rw [sP h]
  | some o =>
   rw [sO h]
   simp only
   rw [← Mr]
   congr 1
   funext e
   rw [GN fuel]
theorem Ug : Region.lastB md ops l ds i = lastT (oI md ops).2 l.toList ds i:=by
 unfold Region.lastB lastT
 rw [oN]
 congr 1
 funext d
 rw [gd,GN]
theorem xY (h:oM T.2 l.toList i = true) (hT:oI md ops = T):(Region.ready md ops l).contains i = true:=by
 subst hT
 rw [ready_eq]
 unfold Aq
 rw [List.contains_iff_mem,am4,amh]
 refine ⟨?_,h⟩
 unfold oM at h
 rw [alN] at h
 cases hq:(oI md ops).2[i]? with
 | none=>rw [hq] at h;simp at h
 | some r=>exact (amm.1 hq).1
theorem Jh (h:(l.toList.set i true == l'.toList) = true):(l.setIfInBounds i true == l') = true:=by
 rw [alW] at h ⊢
 apply Array.ext'
 rw [Array.toList_setIfInBounds]
 exact h
def acV (T:Bool × List (List Nat × List Nat)) (l l':List Bool) (i:Nat):Bool:=T.1 && GL T.2 l i && oM T.2 l i && (l.set i true == l')
theorem kI (hT:oI md ops = T) (h:acV T l.toList l'.toList i = true):Ub md ops l l' i = true:=by
 simp only [acV,alN] at h
 obtain ⟨⟨⟨h1,h2⟩,h3⟩,h4⟩:=h
 have h5:=xY h3 hT
 have h6:=Jh h4
 subst hT
 simp only [Ub,alN]
 exact ⟨⟨⟨h1,by rw [free_eq];exact h2⟩,h5⟩,h6⟩
def Qo (T:Bool × List (List Nat × List Nat)) (ds:List Nat) (l l':List Bool) (i:Nat):Bool:=T.1 && GL T.2 l i && oM T.2 l i && yV T.2 l && lastT T.2 l ds i && (l.set i true == l')
theorem Uh (hT:oI md ops = T) (h:Qo T ds l.toList l'.toList i = true):takeB md ops ds l l' i = true:=by
 simp only [Qo,alN] at h
 obtain ⟨⟨⟨⟨⟨h1,h2⟩,h3⟩,h4⟩,h5⟩,h6⟩:=h
 have h7:=xY h3 hT
 have h8:=Jh h6
 subst hT
 simp only [takeB,alN]
 exact ⟨⟨⟨⟨⟨h1,by rw [free_eq];exact h2⟩,h7⟩,by rw [Ms];exact h4⟩,by rw [Ug];exact h5⟩,h8⟩
theorem Ji (hT:oI md ops = T) (h:(Aq T.2 l.toList == [i] && l.toList.set i true == l'.toList) = true):Et md ops l l' i = true:=by
 simp only [alN] at h
 obtain ⟨h1,h2⟩:=h
 subst hT
 simp only [Et,alN]
 exact ⟨by rw [ready_eq];exact h1,Jh h2⟩
theorem KH (hT:oI md ops = T) (h:(Aq T.2 l.toList == []) = true):(Region.ready md ops l == []) = true:=by
 subst hT
 rw [ready_eq]
 exact h
def Y5 (B:List Nat) (d:Nat):List Nat → Nat
 | []=>0
 | n :: r=>(2 ^ n ||| (if n < d then B.getD n 0 else 0)) ||| Y5 B d r
def sQ (T:List (List Nat × List Nat)) (B:List Nat):Bool:=(List.range T.length).all fun d=>match T[d]? with
 | some r=>(B.getD d 0 ||| Y5 B d r.1) == Y5 B d r.1
 | none=>false
theorem KI {B:List Nat} {d i:Nat}:∀ {ns:List Nat},(Y5 B d ns).testBit i = true → ∃ n ∈ ns,n = i ∨ (n < d ∧ (B.getD n 0).testBit i = true)
 | [],h=>by simp [Y5] at h
 | n :: r,h=>by
  unfold Y5 at h
  rw [Nat.testBit_or,Nat.testBit_or,amv,amv] at h
  rcases h with (h | h) | h
  ·rw [Nat.testBit_two_pow] at h
   exact ⟨n,amX,.inl (by simpa using h)⟩
  ·by_cases hn:n < d
   ·rw [alx hn] at h
    exact ⟨n,amX,.inr ⟨hn,h⟩⟩
   ·rw [aly hn] at h
    simp at h
  ·obtain ⟨m,hm,h2⟩:=KI h
   exact ⟨m,amu _ hm,h2⟩
theorem CJ {T:List (List Nat × List Nat)} {B:List Nat} (hB:sQ T B = true):∀ (fuel d:Nat),d < fuel → d < T.length → (B.getD d 0).testBit i = true → xu T i fuel d = true
 | 0,d,h,_,_=>by omega
 | fuel + 1,d,h,hd,hb=>by
  have h1:=alY.1 hB d (amh.2 hd)
  cases hr:T[d]? with
  | none=>rw [hr] at h1;simp at h1
  | some r =>
   rw [hr] at h1
   simp only [alW] at h1
   have h2:(Y5 B d r.1).testBit i = true:=by rw [← h1,Nat.testBit_or,hb,Bool.true_or]
   obtain ⟨n,hn,h3⟩:=KI h2
   unfold xu
   rw [hr]
   simp only
   rw [amF]
   refine ⟨n,hn,?_⟩
   rcases h3 with rfl | ⟨h4,h5⟩
   ·simp
   ·rw [CJ hB fuel n (by omega) (by omega) h5,Bool.or_true]
def Wy (T:List (List Nat × List Nat)) (B:List Nat) (l:List Bool) (ds:List Nat) (i:Nat):Bool:=ds.all fun d=>l.getD d true || (decide (d < T.length) && (B.getD d 0).testBit i)
def Wz (T:Bool × List (List Nat × List Nat)) (B:List Nat) (ds:List Nat) (l l':List Bool) (i:Nat):Bool:=T.1 && GL T.2 l i && oM T.2 l i && yV T.2 l && Wy T.2 B l ds i && (l.set i true == l')
theorem Au {B:List Nat} (hT:oI md ops = T) (hB:sQ T.2 B = true) (h:Wz T B ds l.toList l'.toList i = true):takeB md ops ds l l' i = true:=by
 refine Uh hT ?_
 simp only [Wz,Qo,alN] at h ⊢
 obtain ⟨⟨⟨⟨⟨h1,h2⟩,h3⟩,h4⟩,h5⟩,h6⟩:=h
 refine ⟨⟨⟨⟨⟨h1,h2⟩,h3⟩,h4⟩,?_⟩,h6⟩
 unfold Wy at h5
 unfold lastT
 rw [alY] at h5 ⊢
 intro d hd
 have h7:=h5 d hd
 rw [amv,alN,alL] at h7
 rcases h7 with h7 | ⟨h8,h9⟩
 ·rw [h7,Bool.true_or]
 ·rw [CJ hB _ d h8 h8 h9,Bool.or_true]
theorem CK {P:Program} {Q:Exit → Act → World → Prop} {S:World → Prop} {n:Nat} {a:Act} {w:World} {B:List Nat} (hT:oI md ops = T) (hB:sQ T.2 B = true) (h:aj (oI md ops = T) → aj (sQ T.2 B = true) → dP P md ops Q S ds n l a w):dP P md ops Q S ds n l a w:=h ⟨hT⟩ ⟨hB⟩
end
def tX : Code → Nat → Option (Array Oper)
 | .region id ops _,k=>if id == k then some ops else none
 | .seq a b,k=>match tX a k with
  | some o=>some o
  | none=>tX b k
 | .cond _ a b,k=>match tX a k with
  | some o=>some o
  | none=>tX b k
 | .block _ c,k=>tX c k
 | .loop c,k=>tX c k
 | .scope c,k=>tX c k
 | .rangeFunc _ _ a b,k=>match tX a k with
  | some o=>some o
  | none=>tX b k
 | _,_=>none
def opsOf (f:Func) (k:Nat):Array Oper:=((f.body.bind fun c=>tX c k)).getD #[]
end Go.Proofs.YtfokaoeinpnagaaGreatW.eF
namespace Go.Proofs.YtfokaoeinpnagaaGreatW.bI
theorem gU.one {α:Type} {R:α → List Value → Prop} {ps:List α} {cs:List Value} {p:α} {v:Value} (hp:R p [v]) (h:gU R 1 ps cs):gU R 1 (p :: ps) (v :: cs):=by
 refine ⟨by simp [h.1],fun j q hq=>?_⟩
 cases j with
 | zero =>
  simp only [List.getElem?_cons_zero,alI] at hq
  subst hq
  simpa using hp
 | succ j =>
  simp only [List.getElem?_cons_succ] at hq
  have h1:=h.2 j q hq
  simpa [Nat.mul_one] using h1
theorem gU.front {α:Type} {R:α → List Value → Prop} {size:Nat} {ps:List α} {cs c all:List Value} {p:α} (hp:R p c) (hc:c.length = size) (h:gU R size ps cs) (ha:c ++ cs = all):gU R size (p :: ps) all:=by
 subst ha
 refine ⟨by rw [alX,hc,h.1,List.length_cons,ams,Nat.add_comm],fun j q hq=>?_⟩
 cases j with
 | zero =>
  simp only [List.getElem?_cons_zero,alI] at hq
  subst hq
  rw [amK,amG,anG (by omega),am7 (by omega)]
  exact hp
 | succ j =>
  simp only [List.getElem?_cons_succ] at hq
  have h1:=h.2 j q hq
  rw [ams,List.drop_append,List.drop_of_length_le (by rw [hc];exact Nat.le_add_left _ _),List.nil_append,hc,Nat.add_sub_cancel]
  exact h1
theorem gU.c2 {α:Type} {R:α → List Value → Prop} {ps:List α} {cs:List Value} {p:α} {va vb:Value} (hp:R p [va,vb]) (h:gU R 2 ps cs):gU R 2 (p :: ps) (va :: vb :: cs):=gU.front hp rfl h rfl
theorem gU.c3 {α:Type} {R:α → List Value → Prop} {ps:List α} {cs:List Value} {p:α} {va vb vc:Value} (hp:R p [va,vb,vc]) (h:gU R 3 ps cs):gU R 3 (p :: ps) (va :: vb :: vc :: cs):=gU.front hp rfl h rfl
theorem gU.c4 {α:Type} {R:α → List Value → Prop} {ps:List α} {cs:List Value} {p:α} {va vb vc vd:Value} (hp:R p [va,vb,vc,vd]) (h:gU R 4 ps cs):gU R 4 (p :: ps) (va :: vb :: vc :: vd :: cs):=gU.front hp rfl h rfl
theorem gU.c5 {α:Type} {R:α → List Value → Prop} {ps:List α} {cs:List Value} {p:α} {va vb vc vd ve:Value} (hp:R p [va,vb,vc,vd,ve]) (h:gU R 5 ps cs):gU R 5 (p :: ps) (va :: vb :: vc :: vd :: ve :: cs):=gU.front hp rfl h rfl
theorem gU.c6 {α:Type} {R:α → List Value → Prop} {ps:List α} {cs:List Value} {p:α} {va vb vc vd ve vf:Value} (hp:R p [va,vb,vc,vd,ve,vf]) (h:gU R 6 ps cs):gU R 6 (p :: ps) (va :: vb :: vc :: vd :: ve :: vf :: cs):=gU.front hp rfl h rfl
theorem gU.c7 {α:Type} {R:α → List Value → Prop} {ps:List α} {cs:List Value} {p:α} {va vb vc vd ve vf vg:Value} (hp:R p [va,vb,vc,vd,ve,vf,vg]) (h:gU R 7 ps cs):gU R 7 (p :: ps) (va :: vb :: vc :: vd :: ve :: vf :: vg :: cs):=gU.front hp rfl h rfl
theorem gU.c8 {α:Type} {R:α → List Value → Prop} {ps:List α} {cs:List Value} {p:α} {va vb vc vd ve vf vg vh:Value} (hp:R p [va,vb,vc,vd,ve,vf,vg,vh]) (h:gU R 8 ps cs):gU R 8 (p :: ps) (va :: vb :: vc :: vd :: ve :: vf :: vg :: vh :: cs):=gU.front hp rfl h rfl
theorem gU.c9 {α:Type} {R:α → List Value → Prop} {ps:List α} {cs:List Value} {p:α} {va vb vc vd ve vf vg vh vi:Value} (hp:R p [va,vb,vc,vd,ve,vf,vg,vh,vi]) (h:gU R 9 ps cs):gU R 9 (p :: ps) (va :: vb :: vc :: vd :: ve :: vf :: vg :: vh :: vi :: cs):=gU.front hp rfl h rfl
theorem gU.c10 {α:Type} {R:α → List Value → Prop} {ps:List α} {cs:List Value} {p:α} {va vb vc vd ve vf vg vh vi vj:Value} (hp:R p [va,vb,vc,vd,ve,vf,vg,vh,vi,vj]) (h:gU R 10 ps cs):gU R 10 (p :: ps) (va :: vb :: vc :: vd :: ve :: vf :: vg :: vh :: vi :: vj :: cs):=gU.front hp rfl h rfl
end Go.Proofs.YtfokaoeinpnagaaGreatW.bI
namespace Go.Proofs.YtfokaoeinpnagaaGreatW.eF
def up (b:Nat → Bool) (i:Nat):Nat → Bool:=fun j=>if j = i then true else b j
section
variable {P : Program} {ops:Array Oper} {Q:Exit → Act → World → Prop} {md:Region.Mode} {T:Bool × List (List Nat × List Nat)} {B:List Nat} {O:List Nat} {b:Nat → Bool} {i j n:Nat}
end
end Go.Proofs.YtfokaoeinpnagaaGreatW.eF
namespace Go.Proofs.YtfokaoeinpnagaaGreatW.bI
open Go.RowKit
section
variable {P : Program} {ops:Array Oper} {rest:List Oper} {o:Oper} {a:Act} {Q:Exit → Act → World → Prop} {W:World}
theorem Av (hw:Region.wanted o (yielded ops a.tmps) = true) (h:wpList P ops Q ({ o with guard:=none } :: rest) a W):wpList P ops Q (o :: rest) a W:=by
 have h1:Region.wanted { o with guard:=none } (yielded ops a.tmps) = true:=rfl
 unfold wpList at h ⊢
 rw [alx h1] at h
 rw [alx hw]
 exact h
end
end Go.Proofs.YtfokaoeinpnagaaGreatW.bI
namespace Go.Proofs.YtfokaoeinpnagaaGreat.ZQ
section
open Go.RowKit Go.Proofs.YtfokaoeinpnagaaGreatW.bI Go.Proofs.YtfokaoeinpnagaaGreatW.eF Go.Proofs.YtfokaoeinpnagaaGreatW.fK
attribute [local go_sem] j4 j5 lS lT ji jk j6 kg
def acW : Option Int → Value
 | none=>.nilIface
 | some c=>.iface 0 (.int .i64 c)
theorem aM : acW none = .nilIface:=rfl
theorem aN (c:Int):acW (some c) = .iface 0 (.int .i64 c):=rfl
theorem KJ : (Tryz.prog.info? 9).map (fun i=>(i.zero,i.size,i.bytes)) = some (some (.string ⟨#[]⟩),1,16):=by kernel_rfl
end
section
open Go.RowKit Go.Proofs.YtfokaoeinpnagaaGreatW.bI Go.Proofs.YtfokaoeinpnagaaGreatW.eF Go.Proofs.YtfokaoeinpnagaaGreatW.fK
attribute [local go_sem] j4 j5 lS lT ji jk j6 kg
mutual
def bT.l0 : Nat → ByteArray → List ByteArray → Option (List ByteArray × Bool)
 | 0,_,_=>none
 | k + 1,x0,x4=>if (x0.size:Int) > 0 then (bT.j1 k x0 x4 (x0.toList != ([0]:List UInt8))) else (bT.j1 k x0 x4 false)
def bT.j1 : Nat → ByteArray → List ByteArray → Bool → Option (List ByteArray × Bool)
 | 0,_,_,_=>none
 | k + 1,x0,x4,x15=>if x15 = true then (if 0 < (x0.size:Int) then (if (wrap64 (bt x0 0)) < 1 then (some (([]:List ByteArray),false)) else (if (wrap64 (bt x0 0)) > 63 then (some (([]:List ByteArray),false)) else (if (wrap64 ((wrap64 (bt x0 0)) + 1)) ≥ (x0.size:Int) then (some (([]:List ByteArray),false)) else (if 1 ≤ (wrap64 (1 + (wrap64 (bt x0 0)))) then (if (wrap64 (1 + (wrap64 (bt x0 0)))) ≤ (x0.size:Int) then (if x4.length < 8796093022208 then (if 0 ≤ (wrap64 (1 + (wrap64 (bt x0 0)))) then (bT.l0 k (x0.extract ((wrap64 (1 + (wrap64 (bt x0 0)))):Int).toNat x0.size) (x4 ++ [x0.extract 1 ((wrap64 (1 + (wrap64 (bt x0 0)))):Int).toNat])) else (none)) else (none)) else (none)) else (none))))) else (none)) else (some (x4,(x0.toList == ([0]:List UInt8))))
end
def bT.f (k:Nat) (a0:ByteArray):Option (List ByteArray × Bool):=if (a0.size:Int) > 255 then (some (([]:List ByteArray),false)) else (bT.l0 k a0 ([]:List ByteArray))
def bT.T8 : Bool × List (List Nat × List Nat):=(true,[([],[]),([],[]),([],[]),([2],[2]),([1,3],[1,3]),([4],[4]),([0,5],[0,5]),([],[]),([],[]),([8],[8]),([7,9],[7,9]),([6,6,0,1,2,3,4,5,6],[0,6]),([10,11,0,1,2,3,4,5,6,7,8,9,10,11],[1,7,10])])
def bT.B8 : List Nat:=[0,0,0,4,14,30,63,0,0,256,896,127,4095]
theorem bT.aiC : oI .any (opsOf Tryz.f126 8) = bT.T8:=by kernel_rfl
theorem bT.acX : sQ bT.T8.2 bT.B8 = true:=by kernel_rfl
theorem bT.calls (k:Nat) (a0:ByteArray) (r1:List ByteArray) (r2:Bool) (w:World) (h:bT.f k a0 = some (r1,r2)) :
  Calls Tryz.prog 126 #[.string a0] w fun e w'=>∃ Qp:Value,e = .returned (.tuple #[Qp,.bool r2]) ∧ Kd.R Kd.string 9 w' w.heap.size (fun _=>True) Qp r1 ∧ Below w.heap.size w w':=by
 have HB:=aj.mk (Below.refl w.heap.size w)
 have H:(if (a0.size:Int) > 255 then (some (([]:List ByteArray),false)) else (bT.l0 k a0 ([]:List ByteArray))) = some (r1,r2):=h
 clear h
 by_cases c2:(a0.size:Int) > 255
 ·rw [alx c2] at H
  have yL:decide (255 < (a0.size:Int)) = true:=alz c2
  have Mt:decide (255 < a0.size) = true:=alz (by omega)
  clear c2
  simp only [alI,alK] at H
  obtain ⟨rfl,rfl⟩:=H
  go_enter Tryz.func126,Tryz.ntmps126
  go_wp2
  go_ret2
  exact ⟨_,by first | rfl | (simp [aM,aN] <;> rfl) | (simp [*,aM,aN] <;> rfl),by first | exact Kd.kF _ _ _ _ _ | exact Kd.mM _ _ _ _ _ | exact Kd.mO _ _ _ _ _ | exact Kd.mJ _ _ _ _ _ | exact Kd.mK _ _ _ _ _,by repeat (first | exact HB.out | apply ak | apply ah | apply au)⟩
 ·rw [aly c2] at H
  have yL:decide (255 < (a0.size:Int)) = false:=alB c2
  have Mt:decide (255 < a0.size) = false:=alB (by omega)
  clear c2
  have H':=aj.mk H
  clear H
  go_enter Tryz.func126,Tryz.ntmps126
  go_wp2
  go_loopg [0,4] k (fun kq v0 v4 w'=>∃ (bS:ByteArray) (tC:List ByteArray),v0 = .string bS ∧ aj (bT.l0 kq bS tC = some (r1,r2)) ∧ aj (kq ≤ k) ∧ aj (Kd.R Kd.string 9 w' w.heap.size (fun _=>True) v4 tC) ∧ aj (Below w.heap.size w w'))
  case atStart=>exact ⟨(a0),(([]:List ByteArray)),(by first | rfl | (simp;done) | (simp [*];done) | (simp [B.aY];done) | (simp [B.aZ];done)),H',⟨alC _⟩,⟨by first | exact Kd.kF _ _ _ _ _ | exact Kd.mM _ _ _ _ _ | exact Kd.mO _ _ _ _ _ | exact Kd.mJ _ _ _ _ _ | exact Kd.mK _ _ _ _ _⟩,⟨by repeat (first | exact HB.out | apply ak | apply ah | apply au)⟩⟩
  case round =>
   clear H'
   try clear c1
   try clear c2
   try clear yL
   try clear Mt
   try clear p2
   obtain ⟨bS,tC,rfl,HA,vV,tF,HB⟩:=hrel
   cases gk with
   | zero=>exact absurd HA.out (by simp [bT.l0])
   | succ k1 =>
    have H:=HA.out
    clear HA
    simp only [bT.l0] at H
    have HC3:=aj.mk H
    clear H
    go_upto_region 4 with (fail)
    go_cut [15] (fun v15 wc=>∃ (kq:Nat) (KL:Bool),v15 = .bool KL ∧ aj (bT.j1 kq bS tC KL = some (r1,r2)) ∧ aj (kq ≤ k1) ∧ aj (Kd.R Kd.string 9 wc w.heap.size (fun _=>True) u4 tC) ∧ aj (Below w.heap.size w wc))
    case first =>
     have H:=HC3.out
     clear HC3
     by_cases c4:(bS.size:Int) > 0
     ·rw [alx c4] at H
      have tH:decide (0 < (bS.size:Int)) = true:=alz c4
      have Mv:decide (0 < bS.size) = true:=alz (by omega)
      clear c4
      (first | rw [tH] | rw [Qq] | (simp only [iN,iZ];rw [tH]) | skip)
      have H':=aj.mk H
      clear H
      go_wp2
      go_meet
      case rel=>exact ⟨_,((bS.toList != ([0]:List UInt8))),(by first | rfl | (simp;done) | (simp [*];done) | (simp [B.aY];done) | (simp [B.aZ];done)),H',⟨by have:=vV.out;first | omega | exact alC _⟩,⟨by (with_reducible repeat (first | apply Kd.fH | apply Kd.gB | apply Kd.gL));exact tF.out⟩,⟨by repeat (first | exact HB.out | apply ak | apply ah | apply au)⟩⟩
     ·rw [aly c4] at H
      have tH:decide (0 < (bS.size:Int)) = false:=alB c4
      have Mv:decide (0 < bS.size) = false:=alB (by omega)
      clear c4
      (first | rw [tH] | rw [Qq] | (simp only [iN,iZ];rw [tH]) | skip)
      have H':=aj.mk H
      clear H
      go_wp2
      go_meet
      case rel=>exact ⟨_,(false),(by first | rfl | (simp;done) | (simp [*];done) | (simp [B.aY];done) | (simp [B.aZ];done)),H',⟨by have:=vV.out;first | omega | exact alC _⟩,⟨by (with_reducible repeat (first | apply Kd.fH | apply Kd.gB | apply Kd.gL));exact tF.out⟩,⟨by repeat (first | exact HB.out | apply ak | apply ah | apply au)⟩⟩
    case rest =>
     clear HC3
     try clear c1
     try clear c2
     try clear yL
     try clear Mt
     try clear p2
     try clear c4
     try clear tH
     try clear Mv
     try clear Qq
     try clear p2
     obtain ⟨kq,KL,rfl,HA,HJ2,tF,HB⟩:=hcut
     cases kq with
     | zero=>exact absurd HA.out (by simp [bT.j1])
     | succ kj2 =>
      have H:=HA.out
      clear HA
      simp only [bT.j1] at H
      by_cases c5:KL = true
      ·subst c5
       have H1:(if 0 < (bS.size:Int) then (if (wrap64 (bt bS 0)) < 1 then (some (([]:List ByteArray),false)) else (if (wrap64 (bt bS 0)) > 63 then (some (([]:List ByteArray),false)) else (if (wrap64 ((wrap64 (bt bS 0)) + 1)) ≥ (bS.size:Int) then (some (([]:List ByteArray),false)) else (if 1 ≤ (wrap64 (1 + (wrap64 (bt bS 0)))) then (if (wrap64 (1 + (wrap64 (bt bS 0)))) ≤ (bS.size:Int) then (if tC.length < 8796093022208 then (if 0 ≤ (wrap64 (1 + (wrap64 (bt bS 0)))) then (bT.l0 kj2 (bS.extract ((wrap64 (1 + (wrap64 (bt bS 0)))):Int).toNat bS.size) (tC ++ [bS.extract 1 ((wrap64 (1 + (wrap64 (bt bS 0)))):Int).toNat])) else (none)) else (none)) else (none)) else (none))))) else (none)) = some (r1,r2):=by rw [alx rfl] at H;exact H
       clear H
       have H:=H1
       clear H1
       by_cases c6:0 < (bS.size:Int)
       ·rw [alx c6] at H
        have BJ:decide (0 < (bS.size:Int)) = true:=alz c6
        have Qr:decide (0 < bS.size) = true:=alz (by omega)
        clear c6
        by_cases c8:(wrap64 (bt bS 0)) < 1
        ·rw [alx c8] at H
         have uE:decide ((wrap64 (bt bS 0)) < 1) = true:=alz c8
         (try (have uF:decide (((bt bS 0)) < 1) = true:=by have h_:decide ((wrap64 (bt bS 0)) < 1) = true:=alz c8;rw [B.iC (by omega) (by omega)] at h_;exact h_))
         clear c8
         simp only [alI,alK] at H
         obtain ⟨rfl,rfl⟩:=H
         have p7:0 ≤ (0:Int):=(by omega)
         have q7:0 < bS.size:=(by have:(0:Int) < (bS.size:Int):=alQ (by first | (with_reducible assumption) | assumption);omega)
         have hx7:∀ h:0 < bS.size,((bS[0]'h).toNat:Int) = bt bS 0:=pW bS 0
         clear p7
         have qi7:(0 < (bS.size:Int)) = True:=alH (alQ (by first | (with_reducible assumption) | assumption))
         replace q7:=alH q7
         go_wp2
         go_ret2
         exact ⟨_,by first | rfl | (simp [aM,aN] <;> rfl) | (simp [*,aM,aN] <;> rfl),by first | exact Kd.kF _ _ _ _ _ | exact Kd.mM _ _ _ _ _ | exact Kd.mO _ _ _ _ _ | exact Kd.mJ _ _ _ _ _ | exact Kd.mK _ _ _ _ _,by repeat (first | exact HB.out | apply ak | apply ah | apply au)⟩
        ·rw [aly c8] at H
         have uE:decide ((wrap64 (bt bS 0)) < 1) = false:=alB c8
         (try (have uF:decide (((bt bS 0)) < 1) = false:=by have h_:decide ((wrap64 (bt bS 0)) < 1) = false:=alB c8;rw [B.iC (by omega) (by omega)] at h_;exact h_))
         clear c8
         by_cases c9:(wrap64 (bt bS 0)) > 63
         ·rw [alx c9] at H
          have vW:decide (63 < (wrap64 (bt bS 0))) = true:=alz c9
          (try (have GQ:decide (63 < ((bt bS 0))) = true:=by have h_:decide (63 < (wrap64 (bt bS 0))) = true:=alz c9;rw [B.iC (by omega) (by omega)] at h_;exact h_))
          clear c9
          simp only [alI,alK] at H
          obtain ⟨rfl,rfl⟩:=H
          have p7:0 ≤ (0:Int):=(by omega)
          have q7:0 < bS.size:=(by have:(0:Int) < (bS.size:Int):=alQ (by first | (with_reducible assumption) | assumption);omega)
          have hx7:∀ h:0 < bS.size,((bS[0]'h).toNat:Int) = bt bS 0:=pW bS 0
          clear p7
          have qi7:(0 < (bS.size:Int)) = True:=alH (alQ (by first | (with_reducible assumption) | assumption))
          replace q7:=alH q7
          go_wp2
          go_ret2
          exact ⟨_,by first | rfl | (simp [aM,aN] <;> rfl) | (simp [*,aM,aN] <;> rfl),by first | exact Kd.kF _ _ _ _ _ | exact Kd.mM _ _ _ _ _ | exact Kd.mO _ _ _ _ _ | exact Kd.mJ _ _ _ _ _ | exact Kd.mK _ _ _ _ _,by repeat (first | exact HB.out | apply ak | apply ah | apply au)⟩
         ·rw [aly c9] at H
          have vW:decide (63 < (wrap64 (bt bS 0))) = false:=alB c9
          (try (have GQ:decide (63 < ((bt bS 0))) = false:=by have h_:decide (63 < (wrap64 (bt bS 0))) = false:=alB c9;rw [B.iC (by omega) (by omega)] at h_;exact h_))
          clear c9
          by_cases c10:(wrap64 ((wrap64 (bt bS 0)) + 1)) ≥ (bS.size:Int)
          ·rw [alx c10] at H
           have tY:decide ((bS.size:Int) ≤ (wrap64 ((wrap64 (bt bS 0)) + 1))) = true:=alz c10
           (try (have CO:decide ((bS.size:Int) ≤ ((((bt bS 0)) + 1))) = true:=by have h_:decide ((bS.size:Int) ≤ (wrap64 ((wrap64 (bt bS 0)) + 1))) = true:=alz c10;rw [B.iC (by omega) (by omega)] at h_;rw [B.iC (by omega) (by omega)] at h_;exact h_))
           clear c10
           simp only [alI,alK] at H
           obtain ⟨rfl,rfl⟩:=H
           have p7:0 ≤ (0:Int):=(by omega)
           have q7:0 < bS.size:=(by have:(0:Int) < (bS.size:Int):=alQ (by first | (with_reducible assumption) | assumption);omega)
           have hx7:∀ h:0 < bS.size,((bS[0]'h).toNat:Int) = bt bS 0:=pW bS 0
           clear p7
           have qi7:(0 < (bS.size:Int)) = True:=alH (alQ (by first | (with_reducible assumption) | assumption))
           replace q7:=alH q7
           go_wp2
           go_ret2
           exact ⟨_,by first | rfl | (simp [aM,aN] <;> rfl) | (simp [*,aM,aN] <;> rfl),by first | exact Kd.kF _ _ _ _ _ | exact Kd.mM _ _ _ _ _ | exact Kd.mO _ _ _ _ _ | exact Kd.mJ _ _ _ _ _ | exact Kd.mK _ _ _ _ _,by repeat (first | exact HB.out | apply ak | apply ah | apply au)⟩
          ·rw [aly c10] at H
           have tY:decide ((bS.size:Int) ≤ (wrap64 ((wrap64 (bt bS 0)) + 1))) = false:=alB c10
           (try (have CO:decide ((bS.size:Int) ≤ ((((bt bS 0)) + 1))) = false:=by have h_:decide ((bS.size:Int) ≤ (wrap64 ((wrap64 (bt bS 0)) + 1))) = false:=alB c10;rw [B.iC (by omega) (by omega)] at h_;rw [B.iC (by omega) (by omega)] at h_;exact h_))
           clear c10
           by_cases c11:1 ≤ (wrap64 (1 + (wrap64 (bt bS 0))))
           ·rw [alx c11] at H
            have Qs:=alH c11
            have acY:decide (1 ≤ (wrap64 (1 + (wrap64 (bt bS 0))))) = true:=alz c11
            by_cases c12:(wrap64 (1 + (wrap64 (bt bS 0)))) ≤ (bS.size:Int)
            ·rw [alx c12] at H
             have vX:=alH c12
             have vY:decide ((wrap64 (1 + (wrap64 (bt bS 0)))) ≤ (bS.size:Int)) = true:=alz c12
             by_cases c13:tC.length < 8796093022208
             ·rw [alx c13] at H
              have acZ:=aj.mk c13
              clear c13
              obtain ⟨y101,hy101⟩:∃ y_:List ByteArray,y_ = (tC ++ [bS.extract 1 ((wrap64 (1 + (wrap64 (bt bS 0)))):Int).toNat]):=⟨_,rfl⟩
              replace H:(if 0 ≤ (wrap64 (1 + (wrap64 (bt bS 0)))) then (bT.l0 kj2 (bS.extract ((wrap64 (1 + (wrap64 (bt bS 0)))):Int).toNat bS.size) y101) else (none)) = some (r1,r2):=by first | (rw [hy101];with_reducible exact H) | (have Jj:=(Option.bind_some _ _).symm.trans H;rw [hy101];with_reducible exact Jj) | (have Jj:=(Option.bind_some _ _).symm.trans H;with_reducible exact Jj) | with_reducible exact H | (rw [hy101];exact H) | exact H
              have WA:=aj.mk hy101
              clear hy101
              obtain ⟨Ew,rM⟩:∃ j_:Int,(wrap64 (1 + (wrap64 (bt bS 0)))) = j_:=⟨_,rfl⟩
              replace H:(if 0 ≤ (Ew) then (bT.l0 kj2 (bS.extract ((Ew):Int).toNat bS.size) y101) else (none)) = some (r1,r2):=by first | (rw [rM] at H;exact H) | (simp only [rM] at H ⊢;exact H)
              (try rw [rM] at Qs)
              (try rw [rM] at acY)
              (try rw [rM] at c11)
              (try rw [rM] at vX)
              (try rw [rM] at vY)
              (try rw [rM] at c12)
              (try rw [rM] at WA)
              have aiD:(IntKind.i64.wrap (1 + (wrap64 (bt bS 0)))) = Ew:=(iN _).trans rM
              by_cases c15:0 ≤ (Ew)
              ·rw [alx c15] at H
               have ac0:=alH c15
               have aj3:decide (0 ≤ (Ew)) = true:=alz c15
               clear c15
               have KM:=alH (alQ (by first | (with_reducible assumption) | assumption):(Ew) ≤ (bS.size:Int))
               have H':=aj.mk H
               clear H
               have p7:0 ≤ (0:Int):=(by omega)
               have q7:0 < bS.size:=(by have:(0:Int) < (bS.size:Int):=alQ (by first | (with_reducible assumption) | assumption);omega)
               have hx7:∀ h:0 < bS.size,((bS[0]'h).toNat:Int) = bt bS 0:=pW bS 0
               clear p7
               have qi7:(0 < (bS.size:Int)) = True:=alH (alQ (by first | (with_reducible assumption) | assumption))
               replace q7:=alH q7
               try go_wp2
               have fJ:=aj.mk (Kd.gL tF.out)
               have jr:=aj.mk (au HB.out)
               clear tF
               clear HB
               have tF:=fJ
               have HB:=jr
               clear fJ jr
               refine Qf (n:=13) (S:=fun w'=>True) (ds:=[]) #[false,false,false,false,false,false,false,false,false,false,false,false,false] (by kernel_rfl) rfl rfl trivial (fun hHeld=>?_);refine CK bT.aiC bT.acX (fun yM HW_=>?_)
               generalize wc.drew = w17 at tF HB hHeld ⊢
               refine nA (i:=0) (N:=some 32) (v:=?_) (a':=?_) #[true,false,false,false,false,false,false,false,false,false,false,false,false] rfl rfl (kI yM.out (by kernel_rfl)) (fun _ _ _ h=>h) (Or.inl ⟨by rfl,?_⟩) ?_ ?_
               rotate_left
               ·intro w'
                go_simp
                with_reducible rfl
               rotate_left
               ·simp only [Act.put,ame,List.set_cons_zero,List.set_cons_succ,iN,iZ]
                rfl
               refine nA (i:=1) (N:=some 33) (v:=?_) (a':=?_) #[true,true,false,false,false,false,false,false,false,false,false,false,false] rfl rfl (kI yM.out (by kernel_rfl)) (fun _ _ _ h=>h) (Or.inl ⟨by rfl,?_⟩) ?_ ?_
               rotate_left
               ·intro w'
                go_simp
                with_reducible rfl
               rotate_left
               ·simp only [Act.put,ame,List.set_cons_zero,List.set_cons_succ,iN,iZ]
                rfl
               refine nA (i:=2) (N:=some 34) (v:=?_) (a':=?_) #[true,true,true,false,false,false,false,false,false,false,false,false,false] rfl rfl (kI yM.out (by kernel_rfl)) (fun _ _ _ h=>h) (Or.inl ⟨by rfl,?_⟩) ?_ ?_
               rotate_left
               ·intro w'
                go_simp
                with_reducible rfl
               rotate_left
               ·simp only [Act.put,ame,List.set_cons_zero,List.set_cons_succ,iN,iZ]
                rfl
               refine nA (i:=3) (N:=some 35) (v:=?_) (a':=?_) #[true,true,true,true,false,false,false,false,false,false,false,false,false] rfl rfl (kI yM.out (by kernel_rfl)) (fun _ _ _ h=>h) (Or.inl ⟨by rfl,?_⟩) ?_ ?_
               rotate_left
               ·intro w'
                go_simp
                with_reducible rfl
               rotate_left
               ·simp only [Act.put,ame,List.set_cons_zero,List.set_cons_succ,iN,iZ]
                rfl
               refine nA (i:=4) (N:=some 36) (v:=?_) (a':=?_) #[true,true,true,true,true,false,false,false,false,false,false,false,false] rfl rfl (kI yM.out (by kernel_rfl)) (fun _ _ _ h=>h) (Or.inl ⟨by rfl,?_⟩) ?_ ?_
               rotate_left
               ·intro w'
                go_simp
                with_reducible rfl
               rotate_left
               ·simp only [Act.put,ame,List.set_cons_zero,List.set_cons_succ,iN,iZ]
                rfl
               refine nA (i:=7) (N:=some 39) (v:=?_) (a':=?_) #[true,true,true,true,true,false,false,true,false,false,false,false,false] rfl rfl (kI yM.out (by kernel_rfl)) (fun _ _ _ h=>h) (Or.inl ⟨by rfl,?_⟩) ?_ ?_
               rotate_left
               ·intro w'
                go_simp
                with_reducible rfl
               rotate_left
               ·simp only [Act.put,ame,List.set_cons_zero,List.set_cons_succ,iN,iZ]
                rfl
               refine nA (i:=8) (N:=some 40) (v:=?_) (a':=?_) #[true,true,true,true,true,false,false,true,true,false,false,false,false] rfl rfl (kI yM.out (by kernel_rfl)) (fun _ _ _ h=>h) (Or.inl ⟨by rfl,?_⟩) ?_ ?_
               rotate_left
               ·intro w'
                go_simp
                with_reducible rfl
               rotate_left
               ·simp only [Act.put,ame,List.set_cons_zero,List.set_cons_succ,iN,iZ]
                rfl
               refine nA (i:=9) (N:=some 41) (v:=?_) (a':=?_) #[true,true,true,true,true,false,false,true,true,true,false,false,false] rfl rfl (kI yM.out (by kernel_rfl)) (fun _ _ _ h=>h) (Or.inl ⟨by rfl,?_⟩) ?_ ?_
               rotate_left
               ·intro w'
                go_simp
                with_reducible rfl
               rotate_left
               ·simp only [Act.put,ame,List.set_cons_zero,List.set_cons_succ,iN,iZ]
                rfl
               refine nA (i:=10) (N:=some 42) (v:=?_) (a':=?_) #[true,true,true,true,true,false,false,true,true,true,true,false,false] rfl rfl (kI yM.out (by kernel_rfl)) (fun _ _ _ h=>h) (Or.inl ⟨by rfl,?_⟩) ?_ ?_
               rotate_left
               ·intro w'
                go_simp
                with_reducible rfl
               rotate_left
               ·simp only [Act.put,ame,List.set_cons_zero,List.set_cons_succ,iN,iZ]
                rfl
               refine Y2 (i:=5) (N:=some 37) #[true,true,true,true,true,true,false,true,true,true,true,false,false] rfl rfl (Ji yM.out (by kernel_rfl)) (by decide) (fun K hK=>?_)
               refine Y3 (w1:=?_) (v:=?_) (by rfl) rfl ?_ ?_
               rotate_left 2
               ·go_simp
                constructor
                ·rfl
                ·rfl
               refine hK.out _ _ trivial (fun hHeld=>?_)
               clear hK K
               refine Wx (a':=?_) ?_ ?_
               rotate_left
               ·show Act.put _ (some 37) _ = _
                simp only [Act.put,ame,List.set_cons_zero,List.set_cons_succ,iN,iZ]
                rfl
               refine Y2 (i:=6) (N:=some 38) #[true,true,true,true,true,true,true,true,true,true,true,false,false] rfl rfl (Ji yM.out (by kernel_rfl)) (by decide) (fun K hK=>?_)
               refine Kd.BF Kd.string (w0:=w) w.heap.size (by rfl) (.tmp 32) (.tmp 37) 40 9 (.string ⟨#[]⟩) 16 rfl Tryz.underlying40 KJ rfl (by decide) (by omega) u4 tC (bS.extract 1 ((Ew):Int).toNat) [.string (bS.extract 1 ((Ew):Int).toNat)] (fun _=>True) (fun _=>False) rfl rfl ?aP (fun _ hk=>hk.elim) ?aF ?aO ?aB ?aS ?aL ?_
               (case aP=>exact rfl)
               (case aB=>exact (by repeat first | exact HB.out | apply ak | apply ah | apply au))
               (case aF=>exact (fun _ _=>trivial))
               (case aO=>exact (by (with_reducible repeat (first | apply Kd.fH | apply Kd.gB | apply Kd.gL));exact tF.out))
               (case aS=>exact (cB (by repeat first | exact HB.out | apply ak | apply ah | apply au)))
               (case aL=>have:=acZ.out;omega)
               intro ale w18 ho hb hg hat
               rw [← WA.out] at ho
               have fJ:=aj.mk (hb)
               have jr:=aj.mk (ho)
               clear HB
               clear tF
               have HB:=fJ
               have ac1:=jr
               clear fJ jr
               clear ho hb hg hat
               refine hK.out _ _ trivial (fun hHeld=>?_)
               clear hK K
               refine Wx (a':=?_) ?_ ?_
               rotate_left
               ·show Act.put _ (some 38) _ = _
                simp only [Act.put,ame,List.set_cons_zero,List.set_cons_succ,iN,iZ]
                rfl
               refine nA (i:=11) (N:=some 4) (v:=?_) (a':=?_) #[true,true,true,true,true,true,true,true,true,true,true,true,false] rfl rfl (kI yM.out (by kernel_rfl)) (fun _ _ _ h=>h) (Or.inl ⟨by rfl,?_⟩) ?_ ?_
               rotate_left
               ·intro w'
                go_simp
                with_reducible rfl
               rotate_left
               ·simp only [Act.put,ame,List.set_cons_zero,List.set_cons_succ,iN,iZ]
                rfl
               refine nA (i:=12) (N:=some 0) (v:=?_) (a':=?_) #[true,true,true,true,true,true,true,true,true,true,true,true,true] rfl rfl (kI yM.out (by kernel_rfl)) (fun _ _ _ h=>h) (Or.inl ⟨by rfl,?_⟩) ?_ ?_
               rotate_left
               ·intro w'
                go_simp
                with_reducible rfl
               rotate_left
               ·simp only [Act.put,ame,List.set_cons_zero,List.set_cons_succ,iN,iZ]
                rfl
               refine Ww (KH yM.out (by kernel_rfl)) ?_
               try go_wp2
               go_roundg kj2
               case measure=>have:=vV.out;have:=HJ2.out;omega
               case rel=>exact ⟨(bS.extract ((Ew):Int).toNat bS.size),(y101),(by first | rfl | (simp;done) | (simp only [← rM] <;> (first | rfl | simp)) | (simp [*];done)),H',⟨by have:=vV.out;have:=HJ2.out;omega⟩,⟨by (with_reducible repeat (first | apply Kd.fH | apply Kd.gB | apply Kd.gL));exact ac1.out⟩,⟨by repeat (first | exact HB.out | apply ak | apply ah | apply au)⟩⟩
              ·rw [aly c15] at H
               exact absurd H (by simp)
             ·rw [aly c13] at H
              exact absurd H (by simp)
            ·rw [aly c12] at H
             exact absurd H (by simp)
           ·rw [aly c11] at H
            exact absurd H (by simp)
       ·rw [aly c6] at H
        exact absurd H (by simp)
      ·replace c5:=amg.mpr c5
       subst c5
       have H1:(some (tC,(bS.toList == ([0]:List UInt8)))) = some (r1,r2):=by rw [aly (show ¬ (false = true) by decide)] at H;exact H
       clear H
       have H:=H1
       clear H1
       simp only [alI,alK] at H
       obtain ⟨rfl,rfl⟩:=H
       go_wp2
       go_ret2
       exact ⟨_,by first | rfl | (simp [aM,aN] <;> rfl) | (simp [*,aM,aN] <;> rfl),by (with_reducible repeat (first | apply Kd.fH | apply Kd.gB | apply Kd.gL));exact tF.out,by repeat (first | exact HB.out | apply ak | apply ah | apply au)⟩
def jE.f (k:Nat) (a0:ByteArray):Option (Bool):=(bT.f k a0).bind fun Qt=>(some Qt.2)
theorem jE.calls (k:Nat) (a0:ByteArray) (r:Bool) (w:World) (h:jE.f k a0 = some r) :
  Calls Tryz.prog 109 #[.string a0] w fun e w'=>e = .returned (.bool r) ∧ Below w.heap.size w w':=by
 have HB:=aj.mk (Below.refl w.heap.size w)
 have H:((bT.f k a0).bind fun Qt=>(some Qt.2)) = some r:=h
 clear h
 replace H:=zbm H
 obtain ⟨⟨aiE,t105⟩,Qu,H⟩:=H
 replace H:(some t105) = some r:=H
 have A2:=aj.mk Qu
 clear Qu
 obtain rfl:=al0 H
 go_enter Tryz.func109,Tryz.ntmps109
 go_wp2_with (first | ((with_reducible refine aQ (f:=126) rfl ?_);refine bW (some 7) rfl rfl Tryz.func126 (by kernel_rfl) rfl #[.string a0] rfl (by (try simp only [alJ,alD,alE]) <;> rfl) ?_;(with_reducible refine (bT.calls k a0 aiE t105 _ A2.out).mono ?_);rintro e w3 ⟨alf,rfl,ho0,hb⟩;refine ⟨_,rfl,?_⟩;have fJ:=aj.mk (Kd.sI ho0 (cB (by repeat first | exact HB.out | apply ak | apply ah | apply au)));have jr:=aj.mk (bP (by repeat first | exact HB.out | apply ak | apply ah | apply au) hb);clear HB;have aj4:=fJ;have HB:=jr;clear fJ jr;(try clear hb);(try clear hb2);(try clear hk);(try clear hi);(try clear ho0)))
 go_ret
 exact ⟨by first | rfl | (simp [aM,aN] <;> rfl) | (simp [*,aM,aN] <;> rfl),by repeat (first | exact HB.out | apply ak | apply ah | apply au)⟩
def oq.f (a0:Int):Option (Int):=if a0 ≥ 65 then (if a0 ≤ 90 then (some ((a0 + 32) % 256)) else (some a0)) else (some a0)
theorem oq.calls (a0:Int) (r:Int) (w:World) (h:oq.f a0 = some r) :
  Calls Tryz.prog 127 #[.int .u8 a0] w fun e w'=>e = .returned (.int .u8 r) ∧ bA w w':=by
 have H:(if a0 ≥ 65 then (if a0 ≤ 90 then (some ((a0 + 32) % 256)) else (some a0)) else (some a0)) = some r:=h
 clear h
 by_cases c2:a0 ≥ 65
 ·rw [alx c2] at H
  have yL:decide (65 ≤ a0) = true:=alz c2
  clear c2
  by_cases c3:a0 ≤ 90
  ·rw [alx c3] at H
   have tJ:decide (a0 ≤ 90) = true:=alz c3
   clear c3
   obtain rfl:=al0 H
   go_enter Tryz.func127,Tryz.ntmps127
   go_wp2
   go_ret
   exact ⟨by first | rfl | (simp;done) | (simp [*];done),by repeat (first | exact bA.refl _ | apply bA.step)⟩
  ·rw [aly c3] at H
   have tJ:decide (a0 ≤ 90) = false:=alB c3
   clear c3
   obtain rfl:=al0 H
   go_enter Tryz.func127,Tryz.ntmps127
   go_wp2
   go_ret
   exact ⟨by first | rfl | (simp;done) | (simp [*];done),by repeat (first | exact bA.refl _ | apply bA.step)⟩
 ·rw [aly c2] at H
  have yL:decide (65 ≤ a0) = false:=alB c2
  clear c2
  obtain rfl:=al0 H
  go_enter Tryz.func127,Tryz.ntmps127
  go_wp2
  go_ret
  exact ⟨by first | rfl | (simp;done) | (simp [*];done),by repeat (first | exact bA.refl _ | apply bA.step)⟩
def jM.f (a0:ByteArray):Option ByteArray:=if a0.size ≤ 140737488355328 then some (B.qM a0) else none
theorem jM.small (c:Int) (h0:0 ≤ c) (h1:c ≤ 255):oq.f c = some (B.jD c):=by
 unfold oq.f B.jD
 by_cases h2:65 ≤ c
 ·by_cases h3:c ≤ 90
  ·rw [alx (by omega),alx h3,alx ⟨h2,h3⟩];congr 1;omega
  ·rw [alx (by omega),aly h3,aly (by omega)]
 ·rw [aly (by omega),aly (by omega)]
theorem jM.calls (a0:ByteArray) (r:ByteArray) (w:World) (h:jM.f a0 = some r) :
  Calls Tryz.prog 110 #[.string a0] w fun e w'=>e = .returned (.string r) ∧ Below w.heap.size w w':=by
 unfold jM.f at h
 by_cases hs:a0.size ≤ 140737488355328
 ·rw [alx hs] at h
  obtain rfl:=al0 h
  clear h
  have kc:=fun (W:World)=>Lib.run_convert_string_bytes (P:=Tryz.prog) W 9 189 5 a0 Tryz.underlying9 Tryz.underlying189 Tryz.underlying5
  have hb0:=aj.mk (B.Al (Below.refl w.heap.size w) (alC _) 5 a0)
  have hr0:=aj.mk (B.Ak w 5 a0)
  go_enter Tryz.func110,Tryz.ntmps110
  go_wp2
  generalize Lib.bytesWorld w 5 a0 = w1 at hb0 hr0 ⊢
  generalize grownCap w a0.size 0 5 = C
  have hz:=aj.mk (B.numsOf_length a0)
  have hg:=aj.mk (alC w.heap.size)
  generalize hgg:w.heap.size = g at hb0 hr0 hg ⊢
  have hg':=aj.mk hgg
  clear hgg
  go_loopw [10] (fun v wr=>∃ k:Nat,k ≤ a0.size ∧ v = .int .i64 k ∧ aj (B.xX wr g (B.jL k (B.numsOf a0))) ∧ aj (Below g w wr)) (fun v _=>a0.size - (intOf v).toNat)
  case atStart=>exact ⟨0,amn _,rfl,⟨by rw [B.Aj];exact hr0.out⟩,hb0⟩
  case round =>
   obtain ⟨k,hk,rfl,hrow,hbel⟩:=hrel
   clear hr0 hb0 kc
   by_cases hlt:k < a0.size
   ·have hkl:k < (B.numsOf a0).length:=by rw [hz.out];exact hlt
    have hc:=(hrow.out k (by rw [B.iK];exact hkl))
    rw [B.GI k _ hkl,B.numsOf_at] at hc
    obtain ⟨hc1,hc2⟩:=hc
    have hrange:=B.CB a0 k
    have hsm:=aj.mk (jM.small (bt a0 k) hrange.1 hrange.2)
    have hset:=aj.mk (B.rowAt_set hrow.out k (B.jD (bt a0 k)) (by rw [B.iK];exact hkl))
    have hset':=aj.mk (show B.xX (wr.setCell ⟨g,k,none⟩ (.int .u8 (B.jD (bt a0 k)))) g (B.jL (k + 1) (B.numsOf a0)) by
     have h1:=hset.out
     rw [← B.numsOf_at,B.xq k _ hkl] at h1
     rw [← B.numsOf_at]
     exact h1)
    have mQ:=aj.mk (hbel.out.setCell (p:=⟨g,k,none⟩) (alC _) (.int .u8 (B.jD (bt a0 k))))
    clear hset hrow hbel hkl
    generalize bt a0 k = c at *
    go_wp2_with (go_at_call 127;(with_reducible refine (oq.calls c _ _ hsm.out).mono ?_);rintro e w' ⟨rfl,⟨nd,rfl⟩⟩)
    go_roundw
    case rel=>exact ⟨k + 1,by omega,by go_num,⟨fun j hj=>hset'.out j hj⟩,⟨by first | exact mQ.out | exact ⟨mQ.out.os,mQ.out.tape,mQ.out.output,mQ.out.size,mQ.out.block⟩⟩⟩
    case measure=>simp [intOf];omega
   ·obtain rfl:k = a0.size:=by omega
    have hl:(B.jL a0.size (B.numsOf a0)).length = a0.size:=by rw [B.iK];exact hz.out
    have kd:=fun (dst:TypeId) (hd:Tryz.prog.underlying dst = some .string)=>run_convert_bytes_arg (P:=Tryz.prog) wr 189 5 Tryz.underlying189 Tryz.underlying5 g 0 a0.size C (B.jL a0.size (B.numsOf a0)) hl (fun i hi=>by rw [amc];exact (hrow.out i (by rw [hl];exact hi)).1) dst hd
    replace kd:=kd 9 Tryz.underlying9
    have he:=aj.mk (show strOfNums (B.jL a0.size (B.numsOf a0)) = B.qM a0 by
     have:=B.Cz (B.numsOf a0)
     rw [hz.out] at this
     rw [this];rfl)
    generalize strOfNums (B.jL a0.size (B.numsOf a0)) = q at kd he
    clear hrow hl hlt
    have he':=he.out
    clear he
    subst he'
    go_wp2
    go_ret
    exact ⟨rfl,by rw [hg'.out];exact hbel.out⟩
 ·rw [aly hs] at h
  exact absurd h (by simp)
def ou.f (k:Nat) (a0:ByteArray):Option (ByteArray):=(jE.f k a0).bind fun Mw=>(if Mw = true then ((jM.f a0).bind fun t109=>(some t109)) else (some (⟨#[]⟩:ByteArray)))
theorem ou.calls (k:Nat) (a0:ByteArray) (r:ByteArray) (w:World) (h:ou.f k a0 = some r) :
  Calls Tryz.prog 68 #[.string a0] w fun e w'=>e = .returned (.string r) ∧ Below w.heap.size w w':=by
 have HB:=aj.mk (Below.refl w.heap.size w)
 have H:((jE.f k a0).bind fun Mw=>(if Mw = true then ((jM.f a0).bind fun t109=>(some t109)) else (some (⟨#[]⟩:ByteArray)))) = some r:=h
 clear h
 replace H:=zbm H
 obtain ⟨Mw,Qu,H⟩:=H
 replace H:(if Mw = true then ((jM.f a0).bind fun t109=>(some t109)) else (some (⟨#[]⟩:ByteArray))) = some r:=H
 have A2:=aj.mk Qu
 clear Qu
 by_cases c3:Mw = true
 ·subst c3
  have H1:((jM.f a0).bind fun t109=>(some t109)) = some r:=by rw [alx rfl] at H;exact H
  clear H
  have H:=H1
  clear H1
  replace H:=zbm H
  obtain ⟨t109,GR,H⟩:=H
  replace H:(some t109) = some r:=H
  have A4:=aj.mk GR
  clear GR
  obtain rfl:=al0 H
  go_enter Tryz.func68,Tryz.ntmps68
  go_wp2_with (first | ((with_reducible refine aQ (f:=109) rfl ?_);refine bW (some 4) rfl rfl Tryz.func109 (by kernel_rfl) rfl #[.string a0] rfl (by (try simp only [alJ,alD,alE]) <;> rfl) ?_;(with_reducible refine (jE.calls k a0 true _ A2.out).mono ?_);rintro e w5 ⟨rfl,hb⟩;refine ⟨_,rfl,?_⟩;have fJ:=aj.mk (bP (by repeat first | exact HB.out | apply ak | apply ah | apply au) hb);clear HB;have HB:=fJ;clear fJ;(try clear hb);(try clear hb2);(try clear hk);(try clear hi)) | ((with_reducible refine aQ (f:=110) rfl ?_);refine bW (some 7) rfl rfl Tryz.func110 (by kernel_rfl) rfl #[.string a0] rfl (by (try simp only [alJ,alD,alE]) <;> rfl) ?_;(with_reducible refine (jM.calls a0 t109 _ A4.out).mono ?_);rintro e w6 ⟨rfl,hb⟩;refine ⟨_,rfl,?_⟩;have fJ:=aj.mk (bP (by repeat first | exact HB.out | apply ak | apply ah | apply au) hb);clear HB;have HB:=fJ;clear fJ;(try clear hb);(try clear hb2);(try clear hk);(try clear hi)))
  go_ret
  exact ⟨by first | rfl | (simp [aM,aN] <;> rfl) | (simp [*,aM,aN] <;> rfl),by repeat (first | exact HB.out | apply ak | apply ah | apply au)⟩
 ·replace c3:=amg.mpr c3
  subst c3
  have H1:(some (⟨#[]⟩:ByteArray)) = some r:=by rw [aly (show ¬ (false = true) by decide)] at H;exact H
  clear H
  have H:=H1
  clear H1
  obtain rfl:=al0 H
  go_enter Tryz.func68,Tryz.ntmps68
  go_wp2_with (first | ((with_reducible refine aQ (f:=109) rfl ?_);refine bW (some 4) rfl rfl Tryz.func109 (by kernel_rfl) rfl #[.string a0] rfl (by (try simp only [alJ,alD,alE]) <;> rfl) ?_;(with_reducible refine (jE.calls k a0 false _ A2.out).mono ?_);rintro e w7 ⟨rfl,hb⟩;refine ⟨_,rfl,?_⟩;have fJ:=aj.mk (bP (by repeat first | exact HB.out | apply ak | apply ah | apply au) hb);clear HB;have HB:=fJ;clear fJ;(try clear hb);(try clear hb2);(try clear hk);(try clear hi)))
  go_ret
  exact ⟨by first | rfl | (simp [aM,aN] <;> rfl) | (simp [*,aM,aN] <;> rfl),by repeat (first | exact HB.out | apply ak | apply ah | apply au)⟩
end
end Go.Proofs.YtfokaoeinpnagaaGreat.ZQ
namespace Go.Proofs.YtfokaoeinpnagaaGreat.B
open Go.RowKit Go.Proofs.YtfokaoeinpnagaaGreatW.bI
structure xw (T e:TypeId) (B b o:Nat) (cs:Array Value) (p v:Value) (bs:List Value) (w:World):Prop where
 base:B ≤ b
 blk:w.heap[b]? = some (.cells cs T (0,0))
 p_:cs[o]? = some p
 v_:cs[o + 1]? = some v
 self:p = .pointer none ∨ p = .pointer (some ⟨b,o,none⟩)
 own:w.ownsRow B e 1 v bs.length bs
 ne:v.ownBlock ≠ some b
theorem xw.lt {T e:TypeId} {B b o:Nat} {cs:Array Value} {p v:Value} {bs:List Value} {w:World} (h:xw T e B b o cs p v bs w):b < w.heap.size:=by
 rcases amV b w.heap.size with h' | h'
 ·exact h'
 ·have:=h.blk;rw [amL h'] at this;cases this
theorem heap_set {w:World} {b o:Nat} {cs:Array Value} {T:TypeId} {fr:Nat × Nat} (h:w.heap[b]? = some (.cells cs T fr)) (x:Value):(w.setCell ⟨b,o,none⟩ x).heap[b]? = some (.cells (cs.setIfInBounds o x) T fr):=by
 simp [World.setCell,Array.getElem?_modify,h]
theorem Ey {w:World} {B b o:Nat} {e:TypeId} {n k:Nat} {v x:Value} {xs:List Value} (h:w.ownsRow B e n v k xs) (hne:v.ownBlock ≠ some b):(w.setCell ⟨b,o,none⟩ x).ownsRow B e n v k xs :=
 h.kept (row:=some b) ⟨rfl,rfl,rfl,by simp [World.setCell],fun k _ hk=>Below.heap_setCell _ _ _ _ (fun e=>hk (by simp [e]))⟩ (Or.inr hne)
theorem xw.used {T e:TypeId} {B b o:Nat} {cs:Array Value} {p v:Value} {bs:List Value} {w:World} (h:xw T e B b o cs p v bs w) :
  xw T e B b o (cs.setIfInBounds o (.pointer (some ⟨b,o,none⟩))) (.pointer (some ⟨b,o,none⟩)) v bs (w.setCell ⟨b,o,none⟩ (.pointer (some ⟨b,o,none⟩))):=by
 have ho:o < cs.size:=by
  rcases amV o cs.size with h' | h'
  ·exact h'
  ·have:=h.p_;rw [amL h'] at this;cases this
 exact ⟨h.base,heap_set h.blk _,by simp [ho],by simpa [amJ] using h.v_,.inr rfl,Ey h.own h.ne,h.ne⟩
theorem xw.Mx {T e:TypeId} {B b o:Nat} {cs:Array Value} {v:Value} {bs:List Value} {w:World} (h:xw T e B b o cs (.pointer (some ⟨b,o,none⟩)) v bs w) :
  cs.setIfInBounds o (.pointer (some ⟨b,o,none⟩)) = cs:=by
 apply Array.ext_getElem?
 intro i
 rw [amJ]
 by_cases e:o = i
 ·subst e
  have:=h.p_
  rw [alx rfl]
  split
  ·exact this.symm
  ·rename_i hn;rw [amL (by omega)] at this;cases this
 ·rw [aly e]
theorem xw.put {T e:TypeId} {B b o:Nat} {cs:Array Value} {p v v':Value} {bs bs':List Value} {w w':World} (h:xw T e B b o cs p v bs w) (hb:w'.heap[b]? = some (.cells cs T (0,0))) (hown:w'.ownsRow B e 1 v' bs'.length bs') (hTe:T ≠ e) :
  xw T e B b o (cs.setIfInBounds (o + 1) v') p v' bs' (w'.setCell ⟨b,o + 1,none⟩ v'):=by
 have hne:=Lib.ownBlock_ne hown hb hTe
 have ho:o + 1 < cs.size:=by
  rcases amV (o + 1) cs.size with h' | h'
  ·exact h'
  ·have:=h.v_;rw [amL h'] at this;cases this
 exact ⟨h.base,heap_set hb _,by simpa [amJ] using h.p_,by simp [ho],h.self,Ey hown hne,hne⟩
theorem xw.set {T e:TypeId} {B b o:Nat} {cs:Array Value} {p v:Value} {bs:List Value} {w:World} (h:xw T e B b o cs p v bs w) (i:Nat) (x:Value) (h1:i ≠ o) (h2:i ≠ o + 1) :
  xw T e B b o (cs.setIfInBounds i x) p v bs (w.setCell ⟨b,i,none⟩ x) :=
 ⟨h.base,heap_set h.blk _,by rw [amJ,aly h1];exact h.p_,by rw [amJ,aly h2];exact h.v_,h.self,Ey h.own h.ne,h.ne⟩
theorem xw.drewN {T e:TypeId} {B b o:Nat} {cs:Array Value} {p v:Value} {bs:List Value} {w:World} (h:xw T e B b o cs p v bs w) (n:Nat):xw T e B b o cs p v bs (w.drewN n):=⟨h.base,h.blk,h.p_,h.v_,h.self,h.own,h.ne⟩
theorem xw.below {T e:TypeId} {B b o:Nat} {cs:Array Value} {p v:Value} {bs:List Value} {w w':World} (h:xw T e B b o cs p v bs w) (hb:Below w.heap.size w w'):xw T e B b o cs p v bs w' :=
 ⟨h.base,(hb.block b h.lt).trans h.blk,h.p_,h.v_,h.self,vM h.own hb,h.ne⟩
theorem yN (t s:ByteArray):Lib.strCells t ++ Lib.strCells s = Lib.strCells (t ++ s):=by
 simp [Lib.strCells]
theorem Aw (t:ByteArray):Lib.strCells t = Lib.byteCells t.data.toList:=rfl
end Go.Proofs.YtfokaoeinpnagaaGreat.B

/- A part of the proof of NegCovers: cut, joined and given short names by a program of this session (wip/tools/pack.py); Lean checks it. No condition. -/
import Derived.Test.YtdkkgecdhapfhaaPNCrsj
import Derived.Test.YtdkkgecdhapfhaaProg
import Derived.WideMake
import Derived.WalkKit
import Derived.Below
import Derived.Test.YtdkkgecdhapfhaaPNCrsi
import Derived.Deep.RegionHeld3
import Derived.Test.YtdkkgecdhapfhaaPNCrsd
set_option linter.unusedSectionVars false
set_option linter.unusedSimpArgs false
set_option linter.unusedVariables false
namespace Go.Proofs.Ytdkkgecdhapfhaa.ZQ
open Go.RowKit Go.Proofs.YtdkkgecdhapfhaaW.bD Go.Proofs.YtdkkgecdhapfhaaW.dL Go.Proofs.YtdkkgecdhapfhaaW.eP Go.Proofs.Ytdkkgecdhapfhaa.B
theorem IE {msg:ByteArray} {i:Int} (h:192 ≤ bt msg i):49152 ≤ gY 2 msg i ∧ gY 2 msg i ≤ 65535:=by
  have h1:=gB msg i
  have h2:=gB msg (i + 1)
  simp [gY]
  omega
theorem afl (a b:Nat) (c:Int) (h:(b:Int) = 1 + c) (ha:a ≤ 254) (hb:c ≤ 63) (h0:0 ≤ c):wrap64 (((a + b:Nat):Int) + 1) = a + (1 + c) + 1:=by
  rw [dQ (by omega) (by omega)];omega
set_option maxHeartbeats 4000000 in
theorem Ke (d:Nat):∀ (k:Nat) (msg:ByteArray) (i l n:Int) (t:ByteArray),l.toNat + (255 - t.size) < d → d + 10 ≤ k → msg.size ≤ 100000 → t.size ≤ 254 → (n = -1 ∨ 0 ≤ n) →
    ∃ R,bF.l k msg i l n t = some R ∧ aU.l0 k msg i t n l = some R:=by
  induction d with
  | zero=>intro k msg i l n t h;omega
  | succ d ih =>
    intro k msg i l n t hd hk hm ht hn
    obtain ⟨k,rfl⟩:∃ m,k = m + 1:=⟨k - 1,by omega⟩
    rw [bF.l,aU.l0,su k (by omega) msg i 1 (by omega),su k (by omega) msg i 2 (by omega)]
    simp only [Option.bind_some]
    by_cases g1:j3 msg i 1
    · have hr:=gB msg i
      have e1:gY (1:Int).toNat msg i = bt msg i:=EW msg i
      have hi0:=g1.1
      have hi1:=g1.2.2.2
      simp only [if_pos g1,e1,if_true]
      by_cases c0:bt msg i = 0
      · simp only [if_pos c0]
        have z:t.size + 1 ≤ 9223372036854775807:=by omega
        simp only [if_pos z]
        rw [dQ (n:=i + 1) (by omega) (by omega)]
        rcases hn with rfl | hn
        · rw [if_pos (show (-1:Int) < 0 by omega),if_pos rfl];exact ⟨_,rfl,rfl⟩
        · rw [if_neg (show ¬ n < 0 by omega),if_neg (show ¬ n = -1 by omega)];exact ⟨_,rfl,rfl⟩
      · simp only [if_neg c0]
        by_cases c1:192 ≤ bt msg i
        · have hg:=IE c1
          simp only [if_pos c1,if_pos (show bt msg i ≥ 192 from c1)]
          by_cases g2:j3 msg i 2
          · have e2:gY (2:Int).toNat msg i = gY 2 msg i:=rfl
            have hi2:=g2.2.2.2
            simp only [if_pos g2,e2,if_true]
            rw [dQ (n:=gY 2 msg i - 49152) (by omega) (by omega),dQ (n:=i + 2) (by omega) (by omega)]
            by_cases c2:gY 2 msg i - 49152 ≥ l
            · rw [if_pos c2,if_pos c2]
              exact ⟨_,rfl,rfl⟩
            · rw [if_neg c2,if_neg c2]
              rcases hn with rfl | hn
              · rw [if_pos (show (-1:Int) < 0 by omega),if_pos rfl]
                exact ih k msg _ _ _ t (by omega) (by omega) hm ht (.inr (by omega))
              · rw [if_neg (show ¬ n < 0 by omega),if_neg (show ¬ n = -1 by omega)]
                exact ih k msg _ _ _ t (by omega) (by omega) hm ht (.inr hn)
          · simp only [if_neg g2,Bool.false_eq_true,if_false]
            exact ⟨_,rfl,rfl⟩
        · simp only [if_neg c1,if_neg (show ¬ bt msg i ≥ 192 from c1)]
          by_cases c2:63 < bt msg i
          · rw [if_pos c2,if_pos (show bt msg i > 63 from c2)]
            exact ⟨_,rfl,rfl⟩
          · rw [if_neg c2,if_neg (show ¬ bt msg i > 63 from c2),dQ (n:=bt msg i + 1) (by omega) (by omega),pY msg i _ (by omega),show bt msg i + 1 = 1 + bt msg i from by omega]
            simp only [Option.bind_some]
            by_cases g3:gT msg i (1 + bt msg i)
            · have hz:=size_ext g3.1 g3.2.1 g3.2.2
              simp only [if_pos g3,if_true]
              have hsz:t.size + (msg.extract i.toNat (i + (1 + bt msg i)).toNat).size ≤ 9223372036854775807:=by omega
              rw [if_pos hsz,ByteArray.size_append,afl _ _ _ hz ht (by omega) (by omega)]
              clear hsz
              by_cases c3:(t.size:Int) + (1 + bt msg i) ≥ 255
              · rw [if_pos c3,if_pos (show (t.size:Int) + (1 + bt msg i) + 1 > 255 by omega)]
                exact ⟨_,rfl,rfl⟩
              · have hb:=g3.2.2
                rw [if_neg c3,if_neg (show ¬ (t.size:Int) + (1 + bt msg i) + 1 > 255 by omega),dQ (n:=i + bt msg i) (by omega) (by omega),dQ (n:=i + bt msg i + 1) (by omega) (by omega),show i + bt msg i + 1 = i + (1 + bt msg i) from by omega]
                exact ih k msg _ _ _ _ (by rw [ByteArray.size_append];omega) (by omega) hm (by rw [ByteArray.size_append];omega) hn
            · simp only [if_neg g3,Bool.false_eq_true,if_false]
              exact ⟨_,rfl,rfl⟩
    · simp only [if_neg g1,Bool.false_eq_true,if_false]
      exact ⟨_,rfl,rfl⟩
theorem EX {k k':Nat} (hk:k ≤ k') {msg:ByteArray} {i:Int} {R:ByteArray × Int × Int} (h:bF.f k msg i = some R):bF.f k' msg i = some R:=vF (fun k=>bF.mono msg i k) hk h
def rounds (i:Int):Nat:=i.toNat + 300
theorem Bb (k:Nat) (msg:ByteArray) (i:Int) (hm:msg.size ≤ 100000) (hk:rounds i ≤ k):∃ R,bF.f k msg i = some R ∧ aU.f k msg i = some R:=by
  unfold rounds at hk
  obtain ⟨R,h1,h2⟩:=Ke (i.toNat + 256) k msg i i (-1) ⟨#[]⟩ (by rw [EI];omega) (by omega) hm (by decide) (.inl rfl)
  refine ⟨R,?_,h2⟩
  unfold bF.f
  rw [if_pos (by omega)]
  exact h1
def pre (t:ByteArray):Prop:=∃ ls,t = zU ls ∧ ∀ x ∈ ls,JW x
theorem pre_nil : pre ⟨#[]⟩:=⟨[],rfl,by simp⟩
theorem Ns {t x:ByteArray} (h:pre t) (hx:JW x):pre (t ++ (sg x.size ++ x)):=by
  obtain ⟨ls,rfl,hok⟩:=h
  refine ⟨ls ++ [x],?_,?_⟩
  · rw [EL];simp only [zU];rw [append_empty]
  · intro y hy
    rcases List.mem_append.mp hy with hy | hy
    · exact hok y hy
    · rw [List.mem_singleton] at hy;subst hy;exact hx
theorem Kg {msg:ByteArray} {i:Int} (h:gT msg i (1 + bt msg i)) (h1:1 ≤ bt msg i) (h2:bt msg i ≤ 63):∃ x,JW x ∧ msg.extract i.toNat (i + (1 + bt msg i)).toNat = sg x.size ++ x:=by
  obtain ⟨g0,g1,g2⟩:=h
  have hz:=size_ext g0 g1 g2
  refine ⟨msg.extract (i.toNat + 1) (i + (1 + bt msg i)).toNat,?_,?_⟩
  · unfold JW;rw [ByteArray.size_extract];omega
  · have e:(msg.extract (i.toNat + 1) (i + (1 + bt msg i)).toNat).size = (bt msg i).toNat:=by rw [ByteArray.size_extract];omega
    rw [e]
    have h3:msg.extract i.toNat (i.toNat + 1) = sg ((bt msg i).toNat:Nat):=by
      refine Gs (by rw [qz,ByteArray.size_extract];omega) fun j j0 j1=>?_
      rw [ByteArray.size_extract] at j1
      have:j = 0:=by omega
      subst this
      rw [mH (by omega) (by rw [ByteArray.size_extract];omega),M4 _ (by omega)]
      rw [show ((i.toNat:Nat):Int) + 0 = i from by omega]
      omega
    rw [← h3,ByteArray.extract_append_extract]
    congr 1 <;> omega
theorem Kh (k:Nat):∀ (msg:ByteArray) (a i l n:Int) (t:ByteArray) (R:ByteArray × Int × Int),0 ≤ a → pre t → t.size ≤ 254 → ((n = -1 ∧ a ≤ i) ∨ (a < n ∧ n ≤ (msg.size:Int))) → bF.l k msg i l n t = some R →
    (R.2.2 = 0 ∧ jM R.1 = true ∧ a < R.2.1 ∧ R.2.1 ≤ (msg.size:Int)) ∨ ((R.2.2 = 2 ∨ R.2.2 = 3) ∧ R.1 = ⟨#[]⟩ ∧ R.2.1 = 0):=by
  induction k with
  | zero=>intro msg a i l n t R _ _ _ _ h;simp [bF.l] at h
  | succ k ih =>
    intro msg a i l n t R ha hp ht hn h
    rw [bF.l] at h
    by_cases g1:j3 msg i 1
    · have hr:=gB msg i
      have hi0:=g1.1
      have hi1:=g1.2.2.2
      rw [if_pos g1] at h
      by_cases c0:bt msg i = 0
      · rw [if_pos c0] at h
        cases h
        left
        refine ⟨rfl,?_,?_⟩
        · obtain ⟨ls,rfl,hok⟩:=hp
          exact Io.mpr ⟨ls,rfl,hok,by rw [ByteArray.size_append];show _ + root.size ≤ 255;rw [kX];omega⟩
        · rcases hn with ⟨rfl,hn⟩ | hn
          · rw [if_pos rfl];exact ⟨(by show a < i + 1;omega),(by show i + 1 ≤ (msg.size:Int);omega)⟩
          · rw [if_neg (by omega)];exact hn
      · rw [if_neg c0] at h
        by_cases c1:192 ≤ bt msg i
        · rw [if_pos c1] at h
          have hg:=IE c1
          by_cases g2:j3 msg i 2
          · rw [if_pos g2] at h
            have hi2:=g2.2.2.2
            by_cases c2:gY 2 msg i - 49152 ≥ l
            · rw [if_pos c2] at h
              cases h;right;exact ⟨.inr rfl,rfl,rfl⟩
            · rw [if_neg c2] at h
              rcases hn with ⟨rfl,hn⟩ | hn
              · rw [if_pos rfl] at h
                exact ih msg a _ _ _ t R ha hp ht (.inr ⟨by omega,by omega⟩) h
              · rw [if_neg (by omega)] at h
                exact ih msg a _ _ _ t R ha hp ht (.inr hn) h
          · rw [if_neg g2] at h
            cases h;right;exact ⟨.inl rfl,rfl,rfl⟩
        · rw [if_neg c1] at h
          by_cases c2:63 < bt msg i
          · rw [if_pos c2] at h
            cases h;right;exact ⟨.inr rfl,rfl,rfl⟩
          · rw [if_neg c2] at h
            by_cases g3:gT msg i (1 + bt msg i)
            · rw [if_pos g3] at h
              by_cases c3:(t.size:Int) + (1 + bt msg i) ≥ 255
              · rw [if_pos c3] at h
                cases h;right;exact ⟨.inr rfl,rfl,rfl⟩
              · rw [if_neg c3] at h
                have hz:=size_ext g3.1 g3.2.1 g3.2.2
                obtain ⟨x,hx,hxe⟩:=Kg g3 (by omega) (by omega)
                refine ih msg a _ _ _ _ R ha ?_ (by rw [ByteArray.size_append];omega) ?_ h
                · rw [hxe];exact Ns hp hx
                · rcases hn with ⟨rfl,hn⟩ | hn
                  · exact .inl ⟨rfl,by omega⟩
                  · exact .inr hn
            · rw [if_neg g3] at h
              cases h;right;exact ⟨.inl rfl,rfl,rfl⟩
    · rw [if_neg g1] at h
      cases h;right;exact ⟨.inl rfl,rfl,rfl⟩
theorem VR {k:Nat} {msg:ByteArray} {i:Int} {R:ByteArray × Int × Int} (hm:msg.size ≤ 100000):bF.f k msg i = some R ↔ bF.l k msg i i (-1) ⟨#[]⟩ = some R:=by
  unfold bF.f;rw [if_pos (by omega)]
theorem GA {k:Nat} {msg:ByteArray} {i:Int} {R:ByteArray × Int × Int} (hm:msg.size ≤ 100000) (h:bF.f k msg i = some R) :
    (R.2.2 = 0 ∧ jM R.1 = true ∧ 0 ≤ i ∧ i < R.2.1 ∧ R.2.1 ≤ (msg.size:Int)) ∨ ((R.2.2 = 2 ∨ R.2.2 = 3) ∧ R.1 = ⟨#[]⟩ ∧ R.2.1 = 0):=by
  rw [VR hm] at h
  by_cases h0:0 ≤ i
  · rcases Kh k msg i i i (-1) ⟨#[]⟩ R h0 pre_nil (by decide) (.inl ⟨rfl,Int.le_refl _⟩) h with ⟨h1,h2,h3,h4⟩ | h1
    · exact .inl ⟨h1,h2,h0,h3,h4⟩
    · exact .inr h1
  · cases k with
    | zero=>simp [bF.l] at h
    | succ k =>
      rw [bF.l,if_neg (fun g=>h0 g.1)] at h
      cases h;right;exact ⟨.inl rfl,rfl,rfl⟩
end Go.Proofs.Ytdkkgecdhapfhaa.ZQ
namespace Go.Proofs.Ytdkkgecdhapfhaa.ZQ
open Go.RowKit Go.Proofs.YtdkkgecdhapfhaaW.bD Go.Proofs.YtdkkgecdhapfhaaW.dL Go.Proofs.YtdkkgecdhapfhaaW.eP Go.Proofs.Ytdkkgecdhapfhaa.B
def plL : List ByteArray → Int → ByteArray → Int
  | [],_,_=>-1
  | x :: m,o,r=>if same (enc (x :: m)) r then o else plL m (o + 1 + x.size) r
def wrL (m:List ByteArray) (a:Int):List ByteArray → ByteArray → ByteArray
  | [],p=>p ++ root
  | x :: l,p=>if 0 ≤ plL m 0 (enc (x :: l)) then p ++ afh (49152 + a + plL m 0 (enc (x :: l))) 2 else wrL m a l (p ++ (sg x.size ++ x))
def wr (base:ByteArray) (a:Int) (n:ByteArray):ByteArray:=match uz base,uz n with
  | some m,some ls=>if 0 ≤ a ∧ a ≤ 16000 then wrL m a ls ⟨#[]⟩ else ⟨#[]⟩
  | _,_=>⟨#[]⟩
theorem Bc (a:ByteArray):(oK a).size = a.size:=by unfold oK;rw [strOfNums_size,List.length_map,numsOf_length]
end Go.Proofs.Ytdkkgecdhapfhaa.ZQ
namespace Go.Proofs.Ytdkkgecdhapfhaa.Mi
open Go Go.Proofs.YtdkkgecdhapfhaaW.bD
def ents : Nat → List (Int × Value) → List MapEntry
  | _,[]=>[]
  | i,(k,v) :: l=>{ key:=.int .i64 k,val:=v,born:=i } :: ents (i + 1) l
def sQ (k:Int):List (Int × Value) → Option Value
  | []=>none
  | (k',v) :: l=>if k = k' then some v else sQ k l
theorem oz (k:Int):∀ (l:List (Int × Value)) (i j:Nat),∃ r,Instr.findNow (.int .i64) (.int .i64 k) (ents i l) j = some r ∧ r.map (·.2) = sQ k l
  | [],i,j=>⟨none,rfl,rfl⟩
  | (k',v) :: l,i,j=>by
    obtain ⟨r,h1,h2⟩:=oz k l (i + 1) (j + 1)
    unfold ents sQ Instr.findNow
    by_cases h:k = k'
    · subst h
      exact ⟨some (j,v),by simp [Instr.sameNow],by simp⟩
    · have hb:(k == k') = false:=by simpa using h
      exact ⟨r,by simp [Instr.sameNow,hb,h1],by simp [h,h2]⟩
theorem Bd (k:Int) (v:Value):∀ (l:List (Int × Value)) (i:Nat),ents i (l ++ [(k,v)]) = ents i l ++ [{ key:=.int .i64 k,val:=v,born:=i + l.length }]
  | [],i=>rfl
  | (k',v') :: l,i=>by
    simp only [List.cons_append,ents,Bd k v l (i + 1),List.length_cons]
    rw [show i + 1 + l.length = i + (l.length + 1) from by omega]
def At (w:World) (b:Nat) (l:List (Int × Value)):Prop:=w.heap[b]? = some (.map (ents 0 l).toArray l.length)
variable {P : Program}
theorem GD {w:World} {b:Nat} {l:List (Int × Value)} (h:At w b l) (t kt et:TypeId) (hm:P.underlying t = some (.map kt et)) (hk:P.underlying kt = some (.int .i64)) (k:Int) (v:Value) (hn:sQ k l = none) :
    ∃ w',(Instr.mapUpdate t (.map (some b)) (.int .i64 k) v).run P w = .ok () w' ∧ At w' b (l ++ [(k,v)]) ∧ w.grownBy w' (some b):=by
  obtain ⟨r,h1,h2⟩:=oz k l 0 0
  rw [hn] at h2
  obtain rfl:r = none:=by cases r with | none=>rfl | some x=>cases h2
  have hc:(Instr.checkKey false 10000 kt (.int .i64 k)).run P w = .ok () w:=MapKept.run_checkKey (k:=.int .i64 k) hk (by simp [MapKept.IsKey]) false 9999
  refine ⟨{ w with heap:=w.heap.setIfInBounds b (.map (ents 0 (l ++ [(k,v)])).toArray (l ++ [(k,v)]).length) },?_,(MapKept.heap_set h).1,⟨rfl,rfl,rfl,by simp,fun i _ hi=>(MapKept.heap_set h).2 i (fun e=>hi (by rw [e]))⟩⟩
  unfold At at h
  simp [Instr.mapUpdate,run_underlying hm,MapKept.run_getObj_map h,hc,MapKept.run_findKey hk h1,MapKept.run_setObj_map _ h,Result.andThen]
  rw [Bd]
  simp
theorem look {w:World} {b:Nat} {l:List (Int × Value)} (h:At w b l) (t kt et:TypeId) (hm:P.underlying t = some (.map kt et)) (hk:P.underlying kt = some (.int .i64)) (z:Value) (hz:(zeroValue et).run P w = .ok z w) (k:Int) :
    (Instr.lookup t (.map (some b)) (.int .i64 k) true).run P w = .ok (.tuple #[(sQ k l).getD z,.bool (sQ k l).isSome]) w:=by
  obtain ⟨r,h1,h2⟩:=oz k l 0 0
  unfold At at h
  have hc:∀ e,(Instr.checkKey e 10000 kt (.int .i64 k)).run P w = .ok () w:=fun e=>MapKept.run_checkKey (k:=.int .i64 k) hk (by simp [MapKept.IsKey]) e 9999
  rw [← h2]
  cases r with
  | none=>simp [Instr.lookup,run_underlying hm,MapKept.run_getObj_map h,hc,MapKept.run_findKey hk h1,Result.andThen,hz]
  | some x=>obtain ⟨i,v⟩:=x;simp [Instr.lookup,run_underlying hm,MapKept.run_getObj_map h,hc,MapKept.run_findKey hk h1,Result.andThen]
theorem Ki (w:World) {ops:Array Oper} {rest:List Oper} {o:Oper} {a:Act} {Q:Exit → Act → World → Prop}
    (hg:o.guard = none) (m x v:Operand) (t:TypeId) (hop:o.op = Op.insert t m x v)
    (kt et:TypeId) (ht:P.underlying t = some (.map kt et)) (hk:P.underlying kt = some (.int .i64)) (b:Nat) (l:List (Int × Value)) (hm:a.eval m = .map (some b)) (hat:At w b l) (k:Int) (val:Value) (hx:a.eval x = .int .i64 k) (hv:a.eval v = val) (hn:sQ k l = none)
    (hK:∀ w',At w' b (l ++ [(k,val)]) → w.grownBy w' (some b) → wpList P ops Q rest (a.put o.dst undef) w') :
    wpList P ops Q (o :: rest) a w:=by
  refine wpList_plain hg fun K' hK'=>?_
  obtain ⟨w',hrun,r1,r2⟩:=GD hat t kt et ht hk k val hn
  unfold Oper.wp
  simp [execOp,hop,hm,hx,hv,hrun,Result.andThen]
  exact hK' _ _ (hK w' r1 r2)
theorem Qm (w:World):At (w.alloc (.map #[] 0)) w.heap.size []:=by
  unfold At ents
  exact heap_alloc_new w _
structure In (B0:Nat) (w0 w:World) (b:Nat) (l:List (Int × Value)):Prop where
  at_:At w b l
  ge:B0 ≤ b
  N9:RowKit.Below B0 w0 w
theorem In.made {w:World}:In w.heap.size w (w.alloc (.map #[] 0)) w.heap.size []:=⟨Qm w,Nat.le_refl _,(RowKit.Below.refl _ _).alloc (Nat.le_refl _) _⟩
theorem In.grown {B0 b:Nat} {w0 w w':World} {l l':List (Int × Value)} (h:In B0 w0 w b l) (h':At w' b l') (hg:w.grownBy w' (some b)):In B0 w0 w' b l':=by
  refine ⟨h',h.ge,h.N9.grown hg ?_ (fun k e=>by cases e;exact h.ge)⟩
  have:=(Array.getElem?_eq_some_iff.1 h.at_).1
  have:=h.ge
  omega
theorem EY {w:World} {ops:Array Oper} {rest:List Oper} {o:Oper} {a:Act} {Q:Exit → Act → World → Prop} (t:TypeId) (m x v:Operand) (hop:o.op = Op.insert t m x v) (h:wpList P ops Q (o :: rest) a w):wpList P ops Q (o :: rest) a w:=h
theorem aax (w:World) {ops:Array Oper} {rest:List Oper} {o:Oper} {a:Act} {Q:Exit → Act → World → Prop}
    (hg:o.guard = none) (m x v:Operand) (t:TypeId) (hop:o.op = Op.insert t m x v)
    (kt et:TypeId) (ht:P.underlying t = some (.map kt et)) (hk:P.underlying kt = some (.int .i64)) (b:Nat) (l:List (Int × Value)) (hm:a.eval m = .map (some b)) {B0:Nat} {w0:World} (hin:In B0 w0 w b l) (k:Int) (val:Value) (hx:a.eval x = .int .i64 k) (hv:a.eval v = val) (hn:sQ k l = none)
    (hK:∀ w',aj (In B0 w0 w' b (l ++ [(k,val)])) → wpList P ops Q rest (a.put o.dst undef) w') :
    wpList P ops Q (o :: rest) a w :=
  Ki w hg m x v t hop kt et ht hk b l hm hin.at_ k val hx hv hn fun w' h1 h2=>hK w' ⟨hin.grown h1 h2⟩
end Go.Proofs.Ytdkkgecdhapfhaa.Mi
namespace Go.Proofs.Ytdkkgecdhapfhaa.ZQ
open Go.RowKit Go.Proofs.YtdkkgecdhapfhaaW.bD Go.Proofs.YtdkkgecdhapfhaaW.dL Go.Proofs.YtdkkgecdhapfhaaW.eP
attribute [local go_sem] jv jw kF kG iG iH jy jA
theorem iJ.keep {a b:ByteArray} {v:Value} {l:List ByteArray} {base g:Nat} {ok:Nat → Prop} {w w1 w2:World}
    (h:(w1.cell? ⟨g,0,none⟩ = some (.string a) ∧ w1.cell? ⟨g,1,none⟩ = some (.string b) ∧ w1.cell? ⟨g,2,none⟩ = some v) ∧ aj (Below g w w1 ∧ g < w1.heap.size ∧ Kd.R Kd.string 9 w1 base ok v l)) (hb:Below w1.heap.size w1 w2) :
    (w2.cell? ⟨g,0,none⟩ = some (.string a) ∧ w2.cell? ⟨g,1,none⟩ = some (.string b) ∧ w2.cell? ⟨g,2,none⟩ = some v) ∧ aj (Below g w w2 ∧ g < w2.heap.size ∧ Kd.R Kd.string 9 w2 base ok v l):=by
  obtain ⟨⟨c0,c1,c2⟩,⟨h1,h2,h3⟩⟩:=h
  have hs:=hb.size
  exact ⟨⟨(hb.cell h2).trans c0,(hb.cell h2).trans c1,(hb.cell h2).trans c2⟩,⟨h1.trans (hb.mono (by omega)),by omega,Kd.kE h3 hb⟩⟩
set_option maxHeartbeats 4000000 in
set_option maxRecDepth 100000 in
theorem iJ.calls (a b:ByteArray) (v:Value) (l:List ByteArray) (base:Nat) (ok:Nat → Prop) (w:World) (hr:Kd.R Kd.string 9 w base ok v l) (hl:l.length ≤ 1000000) (hz:a.size + (strings_Join.cat l).size + b.size ≤ 140737488355328) :
    Calls Try.prog 113 #[.agg #[.string a,.string b,v]] w fun e w'=>e = .returned (.string (a ++ strings_Join.cat l ++ b)) ∧ Below w.heap.size w w':=by
  have HB:=aj.mk (ak (Below.refl w.heap.size w) (.cells #[.string a,.string b,v] 148 (0,0)))
  have HR:=aj.mk (Kd.fu hr (.cells #[.string a,.string b,v] 148 (0,0)))
  have HC:(w.alloc (.cells #[.string a,.string b,v] 148 (0,0))).cell? ⟨w.heap.size,0,none⟩ = some (.string a) ∧ (w.alloc (.cells #[.string a,.string b,v] 148 (0,0))).cell? ⟨w.heap.size,1,none⟩ = some (.string b) ∧ (w.alloc (.cells #[.string a,.string b,v] 148 (0,0))).cell? ⟨w.heap.size,2,none⟩ = some v:=by
    refine ⟨?_,?_,?_⟩ <;> (rw [Lib.cell_of_heap (heap_alloc_new w _)];rfl)
  have HC0:=aj.mk HC
  clear HC
  have HC:=HC0
  clear HC0
  have hs:w.heap.size < (w.alloc (.cells #[.string a,.string b,v] 148 (0,0))).heap.size:=by show _ < (w.heap.push _).size;rw [Array.size_push];omega
  have HS:=aj.mk hs
  have HZ:=aj.mk hz
  have HL:=aj.mk hl
  clear hs hz hr hl
  go_enter Try.func113,Try.ntmps113
  go_wp2
  generalize w.alloc (.cells #[.string a,.string b,v] 148 (0,0)) = w1 at *
  generalize hgg:w.heap.size = g at *
  have hgg:=aj.mk hgg
  have hf1:a.size + (strings_Join.cat l).size ≤ 9223372036854775807:=by have:=HZ.out;omega
  have hf2:a.size + (strings_Join.cat l).size + b.size ≤ 9223372036854775807:=by have:=HZ.out;omega
  have c0:=HC.out.1
  have c1:=HC.out.2.1
  have c2:=HC.out.2.2
  go_region_held (fun w'=>(w'.cell? ⟨g,0,none⟩ = some (.string a) ∧ w'.cell? ⟨g,1,none⟩ = some (.string b) ∧ w'.cell? ⟨g,2,none⟩ = some v) ∧ aj (Below g w w' ∧ g < w'.heap.size ∧ Kd.R Kd.string 9 w' base ok v l)) ((first | assumption | exact iJ.keep ⟨⟨c0,c1,c2⟩,⟨HB.out,HS.out,HR.out⟩⟩ (jq (Below.refl _ _)) | exact iJ.keep (by assumption) (by assumption))) ((first | (go_at_call 123;refine (strings_Join.calls v l base ok _ (Kd.fU HR.out) HL.out (by have:=HZ.out;omega)).mono ?_;rintro e w' ⟨rfl,hb'⟩)))
  all_goals
    rename_i hx
    go_wp2
    go_ret
    exact ⟨rfl,hgg.out ▸ hx.2.out.1⟩
def bX.agg (a b c:Int):Value:=.agg #[.int .i64 a,.int .i64 b,.int .i64 c]
def bX.tab : List (Int × Value):=[(1,bX.agg 4 0 0),(28,bX.agg 16 0 0),(2,bX.agg 0 1 0),(5,bX.agg 0 1 0),(12,bX.agg 0 1 0),(6,bX.agg 0 2 20),(15,bX.agg 2 1 0),(33,bX.agg 6 1 0)]
set_option maxHeartbeats 8000000 in
set_option maxRecDepth 100000 in
theorem bX.calls (w:World):Calls Try.prog 120 #[] w fun e w'=>∃ g,e = .returned (.map (some g)) ∧ Mi.In w.heap.size w w' g bX.tab:=by
  have hmm:=@run_makeMap Try.prog
  have hi:=aj.mk (Mi.In.made (w:=w))
  generalize hg:w.heap.size = g at hi
  have hg':=aj.mk hg
  go_enter Try.func120,Try.ntmps120
  go_wp2_with (first | (refine Mi.EY 159 _ _ _ rfl ?_;refine Mi.aax _ rfl _ _ _ 159 rfl 3 157 Try.underlying159 Try.underlying3 _ _ rfl (aj.out (by assumption)) _ _ rfl rfl rfl ?_;clear hi;intro w1 hi))
  go_ret
  exact ⟨g,rfl,hi.out⟩
def bV.l0 : Nat → ByteArray → Int → Int → Int → Int → Int → Int → Int → ByteArray → ByteArray → List ByteArray → Option (ByteArray × ByteArray × List ByteArray × Bool)
  | 0,_,_,_,_,_,_,_,_,_,_,_=>none
  | k + 1,x0,x1,x2,x37,x38,Qo,Qp,IG,II,Qq,CX=>if x38 < x37 then ((bF.f k x0 x1).bind fun IJ=>(if IJ.2.2 = 0 then (if IJ.2.1 > x2 then (some ((⟨#[]⟩:ByteArray),(⟨#[]⟩:ByteArray),([]:List ByteArray),false)) else (if CX.length < 8796093022208 then (bV.l0 k x0 IJ.2.1 x2 x37 (wrap64 (x38 + 1)) Qo Qp IG II Qq (CX ++ [IJ.1])) else (none))) else (some ((⟨#[]⟩:ByteArray),(⟨#[]⟩:ByteArray),([]:List ByteArray),false)))) else (if 0 ≤ x1 then (if x1 ≤ x2 then (if x2 ≤ (x0.size:Int) then (some (II,x0.extract (x1:Int).toNat (x2:Int).toNat,CX,(((x0.extract (x1:Int).toNat (x2:Int).toNat).size:Int) == IG))) else (none)) else (none)) else (none))
def bV.f (k:Nat) (a0:ByteArray) (a1:Int) (a2:Int) (eT:Int) (iR:Int) (jW:Int):Option (ByteArray × ByteArray × List ByteArray × Bool):=if (eT ≤ (wrap64 (a2 - a1))) then (if 0 ≤ a1 then (if a1 ≤ (wrap64 (a1 + eT)) then (if (wrap64 (a1 + eT)) ≤ (a0.size:Int) then (bV.l0 k a0 (wrap64 (a1 + eT)) a2 iR 0 eT iR jW (a0.extract (a1:Int).toNat ((wrap64 (a1 + eT)):Int).toNat) (⟨#[]⟩:ByteArray) ([]:List ByteArray)) else (none)) else (none)) else (none)) else (some ((⟨#[]⟩:ByteArray),(⟨#[]⟩:ByteArray),([]:List ByteArray),false))
def bV.T15 : Bool × List (List Nat × List Nat):=(true,[([],[]),([],[]),([1],[1]),([2],[2]),([],[]),([4],[4]),([3,5],[3,5]),([0,0],[0]),([6,7,0,1,2,3,4,5,6,7],[6])])
def bV.B15 : List Nat:=[0,0,2,6,0,16,62,1,255]
theorem bV.aay : mQ .any (opsOf Try.f121 15) = bV.T15:=by kernel_rfl
theorem bV.VT : qE bV.T15.2 bV.B15 = true:=by kernel_rfl
set_option maxHeartbeats 8000000 in
set_option maxRecDepth 100000 in
theorem bV.calls (k:Nat) (a0:ByteArray) (a1:Int) (a2:Int) (eT:Int) (iR:Int) (jW:Int) (r1:ByteArray) (r2:ByteArray) (r3:List ByteArray) (r4:Bool) (w:World) (h:bV.f k a0 a1 a2 eT iR jW = some (r1,r2,r3,r4)) :
    Calls Try.prog 121 #[.string a0,.int .i64 a1,.int .i64 a2,.agg #[.int .i64 eT,.int .i64 iR,.int .i64 jW]] w fun e w'=>∃ v2_:Value,e = .returned (.tuple #[.agg #[.string r1,.string r2,v2_],.bool r4]) ∧ Kd.R Kd.string 9 w' w.heap.size (fun _=>True) v2_ r3 ∧ Below w.heap.size w w':=by
  have agF:=Try.underlying157
  have agG:=Try.underlying148
  have HB:=aj.mk (Below.refl w.heap.size w)
  have H:(if (eT ≤ (wrap64 (a2 - a1))) then (if 0 ≤ a1 then (if a1 ≤ (wrap64 (a1 + eT)) then (if (wrap64 (a1 + eT)) ≤ (a0.size:Int) then (bV.l0 k a0 (wrap64 (a1 + eT)) a2 iR 0 eT iR jW (a0.extract (a1:Int).toNat ((wrap64 (a1 + eT)):Int).toNat) (⟨#[]⟩:ByteArray) ([]:List ByteArray)) else (none)) else (none)) else (none)) else (some ((⟨#[]⟩:ByteArray),(⟨#[]⟩:ByteArray),([]:List ByteArray),false))) = some (r1,r2,r3,r4):=h
  clear h
  by_cases c5:(eT ≤ (wrap64 (a2 - a1)))
  · rw [if_pos c5] at H
    have pX:decide (eT ≤ (wrap64 (a2 - a1))) = true:=decide_eq_true c5
    (try (have vJ:decide (eT ≤ ((a2 - a1))) = true:=by have h_:decide (eT ≤ (wrap64 (a2 - a1))) = true:=decide_eq_true c5;rw [B.dQ (by omega) (by omega)] at h_;exact h_))
    clear c5
    by_cases c6:0 ≤ a1
    · rw [if_pos c6] at H
      have zV:=eq_true c6
      have M9:decide (0 ≤ a1) = true:=decide_eq_true c6
      clear c6
      by_cases c7:a1 ≤ (wrap64 (a1 + eT))
      · rw [if_pos c7] at H
        have uK:=eq_true c7
        have J8:decide (a1 ≤ (wrap64 (a1 + eT))) = true:=decide_eq_true c7
        by_cases c8:(wrap64 (a1 + eT)) ≤ (a0.size:Int)
        · rw [if_pos c8] at H
          have rZ:=eq_true c8
          have r9:decide ((wrap64 (a1 + eT)) ≤ (a0.size:Int)) = true:=decide_eq_true c8
          have H':=aj.mk H
          clear H
          go_enter Try.func121,Try.ntmps121
          go_wp2_with (first | ((with_reducible refine gI (N:=7) rfl ?_);refine fQ ?hg (N:=7) ?hd (cs:=#[.int .i64 eT,.int .i64 iR,.int .i64 jW]) (t:=157) ?hr ?_;(case hd=>rfl);(case hg=>rfl);(case hr=>first | (go_simp;done) | (go_simp;rfl));intro fK hg w9 gU hb;have d9:=aj.mk (bE (by repeat (first | (with_reducible first | exact HB.out | apply ak | apply ah | apply au) | exact HB.out)) hb);have gX:=aj.mk (gU);have jg:=aj.mk ((by rw [hg];exact (bL (by repeat (first | (with_reducible first | exact HB.out | apply ak | apply ah | apply au) | exact HB.out))):w.heap.size ≤ fK));have jN:=aj.mk ((by rw [hg];exact (bL (by repeat (first | (with_reducible first | exact HB.out | apply ak | apply ah | apply au) | exact HB.out))):w.heap.size ≤ fK));clear HB;have HB:=d9;have dI:=gX;have aaz:=jg;have iX:=jN;clear d9 gX jg jN;clear hb gU hg) | ((with_reducible refine gI (N:=8) rfl ?_);refine fQ ?hg (N:=8) ?hd (cs:=#[.string (⟨#[]⟩:ByteArray),.string (⟨#[]⟩:ByteArray),.slice none 0 0]) (t:=148) ?hr ?_;(case hd=>rfl);(case hg=>rfl);(case hr=>first | (go_simp;done) | (go_simp;rfl));intro dD hg w10 gU hb;have d9:=aj.mk (dO (g:=fK) (o:=.cells #[.int .i64 eT,.int .i64 iR,.int .i64 jW] 157 (0,0)) (by (with_reducible repeat (first | refine aG ?_ _ | refine aI ?_ | refine aA ?_ _));exact dI.out) hb);have gX:=aj.mk (bE (by repeat (first | (with_reducible first | exact HB.out | apply ak | apply ah | apply au | refine aR ?_ iX.out) | exact HB.out)) hb);have jg:=aj.mk (gU);have jN:=aj.mk ((by rw [hg];exact (bL (by repeat (first | (with_reducible first | exact HB.out | apply ak | apply ah | apply au | refine aR ?_ iX.out) | exact HB.out))):w.heap.size ≤ dD));have qU:=aj.mk ((by rw [hg];exact (bL (by repeat (first | (with_reducible first | exact HB.out | apply ak | apply ah | apply au | refine aR ?_ iX.out) | exact HB.out))):w.heap.size ≤ dD));have Nu:=aj.mk ((by rw [hg];exact Nat.ne_of_lt (jK (g:=fK) (o:=.cells #[.int .i64 eT,.int .i64 iR,.int .i64 jW] 157 (0,0)) (by (with_reducible repeat (first | refine aG ?_ _ | refine aI ?_ | refine aA ?_ _));exact dI.out)):fK ≠ dD));have Nw:=aj.mk ((by rw [hg];exact Nat.ne_of_gt (jK (g:=fK) (o:=.cells #[.int .i64 eT,.int .i64 iR,.int .i64 jW] 157 (0,0)) (by (with_reducible repeat (first | refine aG ?_ _ | refine aI ?_ | refine aA ?_ _));exact dI.out)):dD ≠ fK));clear dI;clear HB;have dI:=d9;have HB:=gX;have dA:=jg;have aaA:=jN;have kL:=qU;have fF:=Nu;have j5:=Nw;clear d9 gX jg jN qU Nu Nw;clear hb gU hg) | ((with_reducible refine gI (N:=10) rfl ?_);refine fQ ?hg (N:=10) ?hd (cs:=#[.string (⟨#[]⟩:ByteArray),.string (⟨#[]⟩:ByteArray),.slice none 0 0]) (t:=148) ?hr ?_;(case hd=>rfl);(case hg=>rfl);(case hr=>first | (go_simp;done) | (go_simp;rfl));intro fE hg VU gU hb;have d9:=aj.mk (dO (g:=fK) (o:=.cells #[.int .i64 eT,.int .i64 iR,.int .i64 jW] 157 (0,0)) (by (with_reducible repeat (first | refine aG ?_ _ | refine aI ?_ | refine aA ?_ _));exact dI.out) hb);have gX:=aj.mk (dO (g:=dD) (o:=.cells #[.string (⟨#[]⟩:ByteArray),.string (⟨#[]⟩:ByteArray),.slice none 0 0] 148 (0,0)) (by (with_reducible repeat (first | refine aG ?_ _ | refine aI ?_ | refine aA ?_ _));exact dA.out) hb);have jg:=aj.mk (bE (by repeat (first | (with_reducible first | exact HB.out | apply ak | apply ah | apply au | refine aR ?_ iX.out | refine aR ?_ kL.out) | exact HB.out)) hb);have jN:=aj.mk (gU);have qU:=aj.mk ((by rw [hg];exact (bL (by repeat (first | (with_reducible first | exact HB.out | apply ak | apply ah | apply au | refine aR ?_ iX.out | refine aR ?_ kL.out) | exact HB.out))):w.heap.size ≤ fE));have Nu:=aj.mk ((by rw [hg];exact (bL (by repeat (first | (with_reducible first | exact HB.out | apply ak | apply ah | apply au | refine aR ?_ iX.out | refine aR ?_ kL.out) | exact HB.out))):w.heap.size ≤ fE));have Nw:=aj.mk ((by rw [hg];exact Nat.ne_of_lt (jK (g:=fK) (o:=.cells #[.int .i64 eT,.int .i64 iR,.int .i64 jW] 157 (0,0)) (by (with_reducible repeat (first | refine aG ?_ _ | refine aI ?_ | refine aA ?_ _));exact dI.out)):fK ≠ fE));have n7_:=aj.mk ((by rw [hg];exact Nat.ne_of_gt (jK (g:=fK) (o:=.cells #[.int .i64 eT,.int .i64 iR,.int .i64 jW] 157 (0,0)) (by (with_reducible repeat (first | refine aG ?_ _ | refine aI ?_ | refine aA ?_ _));exact dI.out)):fE ≠ fK));have n8_:=aj.mk ((by rw [hg];exact Nat.ne_of_lt (jK (g:=dD) (o:=.cells #[.string (⟨#[]⟩:ByteArray),.string (⟨#[]⟩:ByteArray),.slice none 0 0] 148 (0,0)) (by (with_reducible repeat (first | refine aG ?_ _ | refine aI ?_ | refine aA ?_ _));exact dA.out)):dD ≠ fE));have n9_:=aj.mk ((by rw [hg];exact Nat.ne_of_gt (jK (g:=dD) (o:=.cells #[.string (⟨#[]⟩:ByteArray),.string (⟨#[]⟩:ByteArray),.slice none 0 0] 148 (0,0)) (by (with_reducible repeat (first | refine aG ?_ _ | refine aI ?_ | refine aA ?_ _));exact dA.out)):fE ≠ dD));clear dI;clear dA;clear HB;have dI:=d9;have dA:=gX;have HB:=jg;have dV:=jN;have aaB:=qU;have nM:=Nu;have j6:=Nw;have nN:=n7_;have gQ:=n8_;have fB:=n9_;clear d9 gX jg jN qU Nu Nw n7_ n8_ n9_;clear hb gU hg;have agH:=fF.out;have agI:=j5.out;have agJ:=j6.out;have agK:=nN.out;have Qr:VU.cell? ⟨fK,0,none⟩ = some (.int .i64 eT):=(aM dI.out 0).trans rfl;have Qs:VU.cell? ⟨fK,1,none⟩ = some (.int .i64 iR):=(aM dI.out 1).trans rfl;have Qt:VU.cell? ⟨fK,2,none⟩ = some (.int .i64 jW):=(aM dI.out 2).trans rfl;have Qu:=ay dI.out 0;have Qv:=ay dI.out 1;have Qw:=ay dI.out 2;have agL:=fB.out;have agM:=gQ.out;have Qx:VU.cell? ⟨fE,0,none⟩ = some (.string (⟨#[]⟩:ByteArray)):=(aM dV.out 0).trans rfl;have Qy:VU.cell? ⟨fE,1,none⟩ = some (.string (⟨#[]⟩:ByteArray)):=(aM dV.out 1).trans rfl;have Qz:VU.cell? ⟨fE,2,none⟩ = some (.slice none 0 0):=(aM dV.out 2).trans rfl;have QA:=ay dV.out 0;have QB:=ay dV.out 1;have QC:=ay dV.out 2))
          go_loopg [1,38] k (fun kq v1 v38 w'=>∃ (dU:Int) (uM:Int) (gG:ByteArray) (fG:ByteArray) (gZ:List ByteArray) (iT:Value),v1 = .int .i64 dU ∧ v38 = .int .i64 uM ∧ aj (bV.l0 kq a0 dU a2 iR uM eT iR jW (a0.extract (a1:Int).toNat ((wrap64 (a1 + eT)):Int).toNat) (⟨#[]⟩:ByteArray) gZ = some (r1,r2,r3,r4)) ∧ aj (kq ≤ k) ∧ aj (Kd.R Kd.string 9 w' w.heap.size (fun _=>True) iT gZ) ∧ aj (w'.heap[fK]? = some (.cells #[.int .i64 eT,.int .i64 iR,.int .i64 jW] 157 (0,0))) ∧ aj (w'.heap[dD]? = some (.cells #[.string gG,.string fG,(.slice none 0 0)] 148 (0,0))) ∧ aj (w'.heap[fE]? = some (.cells #[.string (a0.extract (a1:Int).toNat ((wrap64 (a1 + eT)):Int).toNat),.string (⟨#[]⟩:ByteArray),iT] 148 (0,0))) ∧ aj (Below w.heap.size w w'))
          case atStart=>exact ⟨(wrap64 (a1 + eT)),(0),((⟨#[]⟩:ByteArray)),((⟨#[]⟩:ByteArray)),(([]:List ByteArray)),(.slice none 0 0),(by first | rfl | (simp;done) | (simp [*];done) | (simp [B.aV];done) | (simp [B.aW];done)),(by first | rfl | (simp;done) | (simp [*];done) | (simp [B.aV];done) | (simp [B.aW];done)),H',⟨Nat.le_refl _⟩,⟨by first | exact Kd.jG _ _ _ _ _ | exact Kd.lD _ _ _ _ _ | exact Kd.lF _ _ _ _ _ | exact Kd.lu _ _ _ _ _ | exact Kd.lC _ _ _ _ _⟩,⟨by (with_reducible repeat (first | refine aG ?_ _ | refine aI ?_ | refine aA ?_ _));refine nZ ?_ j6.out _;(with_reducible repeat (first | refine aG ?_ _ | refine aI ?_ | refine aA ?_ _));exact dI.out⟩,⟨by (with_reducible repeat (first | refine aG ?_ _ | refine aI ?_ | refine aA ?_ _));refine nZ ?_ gQ.out _;(with_reducible repeat (first | refine aG ?_ _ | refine aI ?_ | refine aA ?_ _));exact dA.out⟩,⟨by (with_reducible repeat (first | refine aG ?_ _ | refine aI ?_ | refine aA ?_ _));refine bU (cs:=#[.string (⟨#[]⟩:ByteArray),.string (⟨#[]⟩:ByteArray),.slice none 0 0]) ?_ 0 _ rfl;(with_reducible repeat (first | refine aG ?_ _ | refine aI ?_ | refine aA ?_ _));exact dV.out⟩,⟨by repeat (first | (with_reducible first | exact HB.out | apply ak | apply ah | apply au | refine aR ?_ iX.out | refine aR ?_ kL.out | refine aR ?_ nM.out) | exact HB.out)⟩⟩
          case round =>
            clear H'
            try clear c1
            try clear p2
            try clear c5
            try clear pX
            try clear vJ
            try clear c6
            try clear zV
            try clear M9
            try clear p6
            try clear c7
            try clear uK
            try clear J8
            try clear c8
            try clear rZ
            try clear r9
            try clear c12
            try clear c13
            try clear c15
            try clear Qr
            try clear Qs
            try clear Qt
            try clear Qx
            try clear Qy
            try clear Qz
            try clear Qu
            try clear Qv
            try clear Qw
            try clear QA
            try clear QB
            try clear QC
            obtain ⟨dU,uM,gG,fG,gZ,iT,rfl,rfl,HA,uD,dP,dI,dA,dV,HB⟩:=hrel
            cases gk with
            | zero=>exact absurd HA.out (by simp [bV.l0])
            | succ k1 =>
              have H:=HA.out
              clear HA
              simp only [bV.l0] at H
              by_cases c17:uM < iR
              · rw [if_pos c17] at H
                have Tf:decide (uM < iR) = true:=decide_eq_true c17
                clear c17
                replace H:=zbm H
                obtain ⟨⟨GH,zX,t127⟩,Nq,H⟩:=H
                replace H:(if t127 = 0 then (if zX > a2 then (some ((⟨#[]⟩:ByteArray),(⟨#[]⟩:ByteArray),([]:List ByteArray),false)) else (if gZ.length < 8796093022208 then (bV.l0 k1 a0 zX a2 iR (wrap64 (uM + 1)) eT iR jW (a0.extract (a1:Int).toNat ((wrap64 (a1 + eT)):Int).toNat) (⟨#[]⟩:ByteArray) (gZ ++ [GH])) else (none))) else (some ((⟨#[]⟩:ByteArray),(⟨#[]⟩:ByteArray),([]:List ByteArray),false))) = some (r1,r2,r3,r4):=H
                have VQ:=aj.mk Nq
                clear Nq
                by_cases c19:t127 = 0
                · rw [if_pos c19] at H
                  have aaC:(t127 == 0) = true:=beq_iff_eq.mpr c19
                  have aaD:(t127 != 0) = false:=bne_eq_false_iff_eq.mpr c19
                  clear c19
                  by_cases c20:zX > a2
                  · rw [if_pos c20] at H
                    have Nr:decide (a2 < zX) = true:=decide_eq_true c20
                    clear c20
                    simp only [Option.some.injEq,Prod.mk.injEq] at H
                    obtain ⟨rfl,rfl,rfl,rfl⟩:=H
                    go_wp2_with (first | ((with_reducible refine aQ (f:=125) rfl ?_);refine bP (some 43) rfl rfl Try.func125 (by kernel_rfl) rfl #[.string a0,.int .i64 dU] rfl (by (try simp only [List.map_toArray,List.map_cons,List.map_nil]);first | done | rfl | (simp only [List.length_drop,List.length_take];rfl) | (simp only [ByteArray.size_append,Int.natCast_add];rfl) | (rw [B.dQ] <;> first | rfl | omega | (simp only [decide_eq_false_iff_not,decide_eq_true_eq,Int.not_lt,Nat.not_lt,gt_iff_lt] at * <;> omega))) ?_;(with_reducible refine (bF.calls k1 a0 dU GH zX t127 _ VQ.out).mono ?_);rintro e w21 ⟨rfl,hb⟩;refine ⟨_,rfl,?_⟩;have d9:=aj.mk (Kd.kE (by (with_reducible repeat (first | apply Kd.fu | apply Kd.fI | apply Kd.fU));exact dP.out) hb);have gX:=aj.mk (dO (g:=fK) (o:=.cells #[.int .i64 eT,.int .i64 iR,.int .i64 jW] 157 (0,0)) (by (with_reducible repeat (first | refine aG ?_ _ | refine aI ?_ | refine aA ?_ _));exact dI.out) hb);have jg:=aj.mk (dO (g:=dD) (o:=.cells #[.string gG,.string fG,.slice none 0 0] 148 (0,0)) (by (with_reducible repeat (first | refine aG ?_ _ | refine aI ?_ | refine aA ?_ _));exact dA.out) hb);have jN:=aj.mk (dO (g:=fE) (o:=.cells #[.string (a0.extract (a1:Int).toNat ((wrap64 (a1 + eT)):Int).toNat),.string (⟨#[]⟩:ByteArray),iT] 148 (0,0)) (by (with_reducible repeat (first | refine aG ?_ _ | refine aI ?_ | refine aA ?_ _));exact dV.out) hb);have qU:=aj.mk (bE (by repeat (first | (with_reducible first | exact HB.out | apply ak | apply ah | apply au | refine aR ?_ iX.out | refine aR ?_ kL.out | refine aR ?_ nM.out) | exact HB.out)) hb);clear dP;clear dI;clear dA;clear dV;clear HB;have dP:=d9;have dI:=gX;have dA:=jg;have dV:=jN;have HB:=qU;clear d9 gX jg jN qU;(try clear hb);(try clear hb2);(try clear hk);(try clear hi);have agN:=j5.out;have agO:=fF.out;have agP:=gQ.out;have agQ:=fB.out;have acz:w21.cell? ⟨dD,0,none⟩ = some (.string gG):=(aM dA.out 0).trans rfl;have acA:w21.cell? ⟨dD,1,none⟩ = some (.string fG):=(aM dA.out 1).trans rfl;have acB:w21.cell? ⟨dD,2,none⟩ = some (.slice none 0 0):=(aM dA.out 2).trans rfl;have acC:=ay dA.out 0;have acD:=ay dA.out 1;have acE:=ay dA.out 2))
                    refine bodyPost_ret (jV rfl _ _ dD 148 #[.string (⟨#[]⟩:ByteArray),.string (⟨#[]⟩:ByteArray),.slice none 0 0] (0,0) _ rfl (by (with_reducible repeat (first | refine aG ?_ _ | refine aI ?_ | refine aA ?_ _));refine bU (cs:=#[.string (⟨#[]⟩:ByteArray),.string (⟨#[]⟩:ByteArray),.slice none 0 0]) ?_ 2 _ rfl;(with_reducible repeat (first | refine aG ?_ _ | refine aI ?_ | refine aA ?_ _));refine bU (cs:=#[.string (⟨#[]⟩:ByteArray),.string fG,.slice none 0 0]) ?_ 1 _ rfl;(with_reducible repeat (first | refine aG ?_ _ | refine aI ?_ | refine aA ?_ _));refine bU (cs:=#[.string gG,.string fG,.slice none 0 0]) ?_ 0 _ rfl;(with_reducible repeat (first | refine aG ?_ _ | refine aI ?_ | refine aA ?_ _));exact dA.out) Try.underlying148 rfl (by kernel_rfl)) rfl ?_
                    exact ⟨_,by first | rfl | (simp [aJ,aK] <;> rfl) | (simp [*,aJ,aK] <;> rfl),by first | exact Kd.jG _ _ _ _ _ | exact Kd.lD _ _ _ _ _ | exact Kd.lF _ _ _ _ _ | exact Kd.lu _ _ _ _ _ | exact Kd.lC _ _ _ _ _,by repeat (first | (with_reducible first | exact HB.out | apply ak | apply ah | apply au | refine aR ?_ iX.out | refine aR ?_ kL.out | refine aR ?_ nM.out) | exact HB.out)⟩
                  · rw [if_neg c20] at H
                    have Nr:decide (a2 < zX) = false:=decide_eq_false c20
                    clear c20
                    by_cases c25:gZ.length < 8796093022208
                    · rw [if_pos c25] at H
                      have aaE:=aj.mk c25
                      clear c25
                      obtain ⟨QD,hy128⟩:∃ y_:List ByteArray,y_ = (gZ ++ [GH]):=⟨_,rfl⟩
                      replace H:(bV.l0 k1 a0 zX a2 iR (wrap64 (uM + 1)) eT iR jW (a0.extract (a1:Int).toNat ((wrap64 (a1 + eT)):Int).toNat) (⟨#[]⟩:ByteArray) QD) = some (r1,r2,r3,r4):=by first | (rw [hy128];with_reducible exact H) | (have Gw:=(Option.bind_some _ _).symm.trans H;rw [hy128];with_reducible exact Gw) | (have Gw:=(Option.bind_some _ _).symm.trans H;with_reducible exact Gw) | with_reducible exact H | (rw [hy128];exact H) | exact H
                      have aaF:=aj.mk hy128
                      clear hy128
                      have H':=aj.mk H
                      clear H
                      go_wp2_with (first | ((with_reducible refine aQ (f:=125) rfl ?_);refine bP (some 43) rfl rfl Try.func125 (by kernel_rfl) rfl #[.string a0,.int .i64 dU] rfl (by (try simp only [List.map_toArray,List.map_cons,List.map_nil]);first | done | rfl | (simp only [List.length_drop,List.length_take];rfl) | (simp only [ByteArray.size_append,Int.natCast_add];rfl) | (rw [B.dQ] <;> first | rfl | omega | (simp only [decide_eq_false_iff_not,decide_eq_true_eq,Int.not_lt,Nat.not_lt,gt_iff_lt] at * <;> omega))) ?_;(with_reducible refine (bF.calls k1 a0 dU GH zX t127 _ VQ.out).mono ?_);rintro e w26 ⟨rfl,hb⟩;refine ⟨_,rfl,?_⟩;have d9:=aj.mk (Kd.kE (by (with_reducible repeat (first | apply Kd.fu | apply Kd.fI | apply Kd.fU));exact dP.out) hb);have gX:=aj.mk (dO (g:=fK) (o:=.cells #[.int .i64 eT,.int .i64 iR,.int .i64 jW] 157 (0,0)) (by (with_reducible repeat (first | refine aG ?_ _ | refine aI ?_ | refine aA ?_ _));exact dI.out) hb);have jg:=aj.mk (dO (g:=dD) (o:=.cells #[.string gG,.string fG,.slice none 0 0] 148 (0,0)) (by (with_reducible repeat (first | refine aG ?_ _ | refine aI ?_ | refine aA ?_ _));exact dA.out) hb);have jN:=aj.mk (dO (g:=fE) (o:=.cells #[.string (a0.extract (a1:Int).toNat ((wrap64 (a1 + eT)):Int).toNat),.string (⟨#[]⟩:ByteArray),iT] 148 (0,0)) (by (with_reducible repeat (first | refine aG ?_ _ | refine aI ?_ | refine aA ?_ _));exact dV.out) hb);have qU:=aj.mk (bE (by repeat (first | (with_reducible first | exact HB.out | apply ak | apply ah | apply au | refine aR ?_ iX.out | refine aR ?_ kL.out | refine aR ?_ nM.out) | exact HB.out)) hb);clear dP;clear dI;clear dA;clear dV;clear HB;have dP:=d9;have dI:=gX;have dA:=jg;have dV:=jN;have HB:=qU;clear d9 gX jg jN qU;(try clear hb);(try clear hb2);(try clear hk);(try clear hi);have agR:=nN.out;have agS:=j6.out;have agT:=fB.out;have agU:=gQ.out;have acF:w26.cell? ⟨fE,0,none⟩ = some (.string (a0.extract (a1:Int).toNat ((wrap64 (a1 + eT)):Int).toNat)):=(aM dV.out 0).trans rfl;have acG:w26.cell? ⟨fE,1,none⟩ = some (.string (⟨#[]⟩:ByteArray)):=(aM dV.out 1).trans rfl;have acH:w26.cell? ⟨fE,2,none⟩ = some (iT):=(aM dV.out 2).trans rfl;have acI:=ay dV.out 0;have acJ:=ay dV.out 1;have acK:=ay dV.out 2) | ((with_reducible refine oh (b:=.append) (xs:=#[.tmp 56,.tmp 58]) rfl ?_);at_builtin;refine Kd.yR Kd.string (w0:=w) w.heap.size rfl (.tmp 56) (.tmp 58) 33 9 (.string ⟨#[]⟩) 16 rfl Try.underlying33 Ir rfl (by decide) (by omega) iT gZ GH [.string GH] (fun _=>True) (fun _=>False) rfl rfl ?aP (fun _ hk=>hk.elim) ?aF ?aO ?aB ?aS ?aL ?_;(case aP=>exact rfl);(case aB=>exact (by repeat (first | (with_reducible first | exact HB.out | apply ak | apply ah | apply au | refine aR ?_ iX.out | refine aR ?_ kL.out | refine aR ?_ nM.out) | exact HB.out)));(case aF=>exact (fun _ _=>trivial));(case aO=>exact (by (with_reducible repeat (first | apply Kd.fu | apply Kd.fI | apply Kd.fU));exact dP.out));(case aS=>exact (bL (by repeat (first | (with_reducible first | exact HB.out | apply ak | apply ah | apply au | refine aR ?_ iX.out | refine aR ?_ kL.out | refine aR ?_ nM.out) | exact HB.out))));(case aL=>have:=aaE.out;omega);intro ahO w30 ho hb hg hat;rw [← aaF.out] at ho;have d9:=aj.mk (qy (g:=fK) (o:=.cells #[.int .i64 eT,.int .i64 iR,.int .i64 jW] 157 (0,0)) (by (with_reducible repeat (first | refine aG ?_ _ | refine aI ?_ | refine aA ?_ _));exact dI.out) hg (Kd.Qb dP.out dI.out (by decide)));have gX:=aj.mk (qy (g:=dD) (o:=.cells #[.string gG,.string fG,.slice none 0 0] 148 (0,0)) (by (with_reducible repeat (first | refine aG ?_ _ | refine aI ?_ | refine aA ?_ _));exact dA.out) hg (Kd.Qb dP.out dA.out (by decide)));have jg:=aj.mk (qy (g:=fE) (o:=.cells #[.string (a0.extract (a1:Int).toNat ((wrap64 (a1 + eT)):Int).toNat),.string (⟨#[]⟩:ByteArray),iT] 148 (0,0)) (by (with_reducible repeat (first | refine aG ?_ _ | refine aI ?_ | refine aA ?_ _));exact dV.out) hg (Kd.Qb dP.out dV.out (by decide)));have jN:=aj.mk (hb);have qU:=aj.mk (ho);clear dI;clear dA;clear dV;clear HB;clear dP;have dI:=d9;have dA:=gX;have dV:=jg;have HB:=jN;have Tg:=qU;clear d9 gX jg jN qU;clear ho hb hg hat;obtain ⟨aaG,aaH,afm⟩:=Kd.xk Tg.out;subst afm;have IK:w30.cell? ⟨fE,0,none⟩ = some (.string (a0.extract (a1:Int).toNat ((wrap64 (a1 + eT)):Int).toNat)):=(aM dV.out 0).trans rfl;have IL:w30.cell? ⟨fE,1,none⟩ = some (.string (⟨#[]⟩:ByteArray)):=(aM dV.out 1).trans rfl;have IQ:w30.cell? ⟨fE,2,none⟩ = some (iT):=(aM dV.out 2).trans rfl;have IU:=ay dV.out 0;have IV:=ay dV.out 1;have IW:=ay dV.out 2))
                      go_roundg k1
                      case measure=>have:=uD.out;omega
                      case rel=>exact ⟨(zX),(wrap64 (uM + 1)),(gG),(fG),(QD),(.slice aaG QD.length aaH),(by first | rfl | (simp;done) | (simp [*];done) | (simp [B.aV];done) | (simp [B.aW];done)),(by first | rfl | (simp;done) | (simp [*];done) | (simp [B.aV];done) | (simp [B.aW];done)),H',⟨by have:=uD.out;omega⟩,⟨by (with_reducible repeat (first | apply Kd.fu | apply Kd.fI | apply Kd.fU));exact Kd.pR (Kd.uj (p:=⟨fE,2,none⟩) (Kd.um Tg.out dV.out (by decide)) (fun _ hk=>hk.2) (.slice aaG QD.length aaH)) (fun _ hk=>trivial)⟩,⟨by (with_reducible repeat (first | refine aG ?_ _ | refine aI ?_ | refine aA ?_ _));refine nZ ?_ j6.out _;(with_reducible repeat (first | refine aG ?_ _ | refine aI ?_ | refine aA ?_ _));exact dI.out⟩,⟨by (with_reducible repeat (first | refine aG ?_ _ | refine aI ?_ | refine aA ?_ _));refine nZ ?_ gQ.out _;(with_reducible repeat (first | refine aG ?_ _ | refine aI ?_ | refine aA ?_ _));exact dA.out⟩,⟨by (with_reducible repeat (first | refine aG ?_ _ | refine aI ?_ | refine aA ?_ _));refine bU (cs:=#[.string (a0.extract (a1:Int).toNat ((wrap64 (a1 + eT)):Int).toNat),.string (⟨#[]⟩:ByteArray),iT]) ?_ 2 _ rfl;(with_reducible repeat (first | refine aG ?_ _ | refine aI ?_ | refine aA ?_ _));exact dV.out⟩,⟨by repeat (first | (with_reducible first | exact HB.out | apply ak | apply ah | apply au | refine aR ?_ iX.out | refine aR ?_ kL.out | refine aR ?_ nM.out) | exact HB.out)⟩⟩
                    · rw [if_neg c25] at H
                      exact absurd H (by simp)
                · rw [if_neg c19] at H
                  have aaC:(t127 == 0) = false:=beq_eq_false_iff_ne.mpr c19
                  have aaD:(t127 != 0) = true:=bne_iff_ne.mpr c19
                  simp only [Option.some.injEq,Prod.mk.injEq] at H
                  obtain ⟨rfl,rfl,rfl,rfl⟩:=H
                  go_wp2_with (first | ((with_reducible refine aQ (f:=125) rfl ?_);refine bP (some 43) rfl rfl Try.func125 (by kernel_rfl) rfl #[.string a0,.int .i64 dU] rfl (by (try simp only [List.map_toArray,List.map_cons,List.map_nil]);first | done | rfl | (simp only [List.length_drop,List.length_take];rfl) | (simp only [ByteArray.size_append,Int.natCast_add];rfl) | (rw [B.dQ] <;> first | rfl | omega | (simp only [decide_eq_false_iff_not,decide_eq_true_eq,Int.not_lt,Nat.not_lt,gt_iff_lt] at * <;> omega))) ?_;(with_reducible refine (bF.calls k1 a0 dU GH zX t127 _ VQ.out).mono ?_);rintro e w33 ⟨rfl,hb⟩;refine ⟨_,rfl,?_⟩;have d9:=aj.mk (Kd.kE (by (with_reducible repeat (first | apply Kd.fu | apply Kd.fI | apply Kd.fU));exact dP.out) hb);have gX:=aj.mk (dO (g:=fK) (o:=.cells #[.int .i64 eT,.int .i64 iR,.int .i64 jW] 157 (0,0)) (by (with_reducible repeat (first | refine aG ?_ _ | refine aI ?_ | refine aA ?_ _));exact dI.out) hb);have jg:=aj.mk (dO (g:=dD) (o:=.cells #[.string gG,.string fG,.slice none 0 0] 148 (0,0)) (by (with_reducible repeat (first | refine aG ?_ _ | refine aI ?_ | refine aA ?_ _));exact dA.out) hb);have jN:=aj.mk (dO (g:=fE) (o:=.cells #[.string (a0.extract (a1:Int).toNat ((wrap64 (a1 + eT)):Int).toNat),.string (⟨#[]⟩:ByteArray),iT] 148 (0,0)) (by (with_reducible repeat (first | refine aG ?_ _ | refine aI ?_ | refine aA ?_ _));exact dV.out) hb);have qU:=aj.mk (bE (by repeat (first | (with_reducible first | exact HB.out | apply ak | apply ah | apply au | refine aR ?_ iX.out | refine aR ?_ kL.out | refine aR ?_ nM.out) | exact HB.out)) hb);clear dP;clear dI;clear dA;clear dV;clear HB;have dP:=d9;have dI:=gX;have dA:=jg;have dV:=jN;have HB:=qU;clear d9 gX jg jN qU;(try clear hb);(try clear hb2);(try clear hk);(try clear hi);have agV:=j5.out;have agW:=fF.out;have agX:=gQ.out;have agY:=fB.out;have acL:w33.cell? ⟨dD,0,none⟩ = some (.string gG):=(aM dA.out 0).trans rfl;have acM:w33.cell? ⟨dD,1,none⟩ = some (.string fG):=(aM dA.out 1).trans rfl;have acN:w33.cell? ⟨dD,2,none⟩ = some (.slice none 0 0):=(aM dA.out 2).trans rfl;have acO:=ay dA.out 0;have acP:=ay dA.out 1;have acQ:=ay dA.out 2))
                  refine bodyPost_ret (jV rfl _ _ dD 148 #[.string (⟨#[]⟩:ByteArray),.string (⟨#[]⟩:ByteArray),.slice none 0 0] (0,0) _ rfl (by (with_reducible repeat (first | refine aG ?_ _ | refine aI ?_ | refine aA ?_ _));refine bU (cs:=#[.string (⟨#[]⟩:ByteArray),.string (⟨#[]⟩:ByteArray),.slice none 0 0]) ?_ 2 _ rfl;(with_reducible repeat (first | refine aG ?_ _ | refine aI ?_ | refine aA ?_ _));refine bU (cs:=#[.string (⟨#[]⟩:ByteArray),.string fG,.slice none 0 0]) ?_ 1 _ rfl;(with_reducible repeat (first | refine aG ?_ _ | refine aI ?_ | refine aA ?_ _));refine bU (cs:=#[.string gG,.string fG,.slice none 0 0]) ?_ 0 _ rfl;(with_reducible repeat (first | refine aG ?_ _ | refine aI ?_ | refine aA ?_ _));exact dA.out) Try.underlying148 rfl (by kernel_rfl)) rfl ?_
                  exact ⟨_,by first | rfl | (simp [aJ,aK] <;> rfl) | (simp [*,aJ,aK] <;> rfl),by first | exact Kd.jG _ _ _ _ _ | exact Kd.lD _ _ _ _ _ | exact Kd.lF _ _ _ _ _ | exact Kd.lu _ _ _ _ _ | exact Kd.lC _ _ _ _ _,by repeat (first | (with_reducible first | exact HB.out | apply ak | apply ah | apply au | refine aR ?_ iX.out | refine aR ?_ kL.out | refine aR ?_ nM.out) | exact HB.out)⟩
              · rw [if_neg c17] at H
                have Tf:decide (uM < iR) = false:=decide_eq_false c17
                clear c17
                by_cases c37:0 ≤ dU
                · rw [if_pos c37] at H
                  have agZ:=eq_true c37
                  have ag0:decide (0 ≤ dU) = true:=decide_eq_true c37
                  clear c37
                  by_cases Eh:dU ≤ a2
                  · rw [if_pos Eh] at H
                    have Ti:=eq_true Eh
                    have ag1:decide (dU ≤ a2) = true:=decide_eq_true Eh
                    clear Eh
                    by_cases N8:a2 ≤ (a0.size:Int)
                    · rw [if_pos N8] at H
                      have ag2:=eq_true N8
                      have ag3:decide (a2 ≤ (a0.size:Int)) = true:=decide_eq_true N8
                      clear N8
                      simp only [Option.some.injEq,Prod.mk.injEq] at H
                      obtain ⟨rfl,rfl,rfl,rfl⟩:=H
                      have ag4:=nN.out
                      have ag5:=j6.out
                      have ag6:=fB.out
                      have ag7:=gQ.out
                      have QE:wr.cell? ⟨fE,0,none⟩ = some (.string (a0.extract (a1:Int).toNat ((wrap64 (a1 + eT)):Int).toNat)):=(aM dV.out 0).trans rfl
                      have QF:wr.cell? ⟨fE,1,none⟩ = some (.string (⟨#[]⟩:ByteArray)):=(aM dV.out 1).trans rfl
                      have QG:wr.cell? ⟨fE,2,none⟩ = some (iT):=(aM dV.out 2).trans rfl
                      have QH:=ay dV.out 0
                      have QI:=ay dV.out 1
                      have QJ:=ay dV.out 2
                      try go_wp2
                      have d9:aj (Kd.R Kd.string 9 (wr.setCell ⟨fE,1,none⟩ (.string (a0.extract (dU:Int).toNat (a2:Int).toNat))) w.heap.size (fun _=>True) iT gZ):=⟨by (with_reducible repeat (first | apply Kd.fu | apply Kd.fI | apply Kd.fU));exact Kd.pR (Kd.uj (p:=⟨fE,1,none⟩) (Kd.um dP.out dV.out (by decide)) (fun _ hk=>hk.2) (.string (a0.extract (dU:Int).toNat (a2:Int).toNat))) (fun _ hk=>trivial)⟩
                      have gX:aj ((wr.setCell ⟨fE,1,none⟩ (.string (a0.extract (dU:Int).toNat (a2:Int).toNat))).heap[fK]? = some (.cells #[.int .i64 eT,.int .i64 iR,.int .i64 jW] 157 (0,0))):=⟨by (with_reducible repeat (first | refine aG ?_ _ | refine aI ?_ | refine aA ?_ _));refine nZ ?_ j6.out _;(with_reducible repeat (first | refine aG ?_ _ | refine aI ?_ | refine aA ?_ _));exact dI.out⟩
                      have jg:aj ((wr.setCell ⟨fE,1,none⟩ (.string (a0.extract (dU:Int).toNat (a2:Int).toNat))).heap[dD]? = some (.cells #[.string gG,.string fG,.slice none 0 0] 148 (0,0))):=⟨by (with_reducible repeat (first | refine aG ?_ _ | refine aI ?_ | refine aA ?_ _));refine nZ ?_ gQ.out _;(with_reducible repeat (first | refine aG ?_ _ | refine aI ?_ | refine aA ?_ _));exact dA.out⟩
                      have jN:aj ((wr.setCell ⟨fE,1,none⟩ (.string (a0.extract (dU:Int).toNat (a2:Int).toNat))).heap[fE]? = some (.cells #[.string (a0.extract (a1:Int).toNat ((wrap64 (a1 + eT)):Int).toNat),.string (a0.extract (dU:Int).toNat (a2:Int).toNat),iT] 148 (0,0))):=⟨by (with_reducible repeat (first | refine aG ?_ _ | refine aI ?_ | refine aA ?_ _));refine bU (cs:=#[.string (a0.extract (a1:Int).toNat ((wrap64 (a1 + eT)):Int).toNat),.string (⟨#[]⟩:ByteArray),iT]) ?_ 1 _ rfl;(with_reducible repeat (first | refine aG ?_ _ | refine aI ?_ | refine aA ?_ _));exact dV.out⟩
                      have qU:aj (Below w.heap.size w (wr.setCell ⟨fE,1,none⟩ (.string (a0.extract (dU:Int).toNat (a2:Int).toNat)))):=⟨by repeat (first | (with_reducible first | exact HB.out | apply ak | apply ah | apply au | refine aR ?_ iX.out | refine aR ?_ kL.out | refine aR ?_ nM.out) | exact HB.out)⟩
                      (try clear dP)
                      (try clear dI)
                      (try clear dA)
                      (try clear dV)
                      (try clear HB)
                      generalize (wr.setCell ⟨fE,1,none⟩ (.string (a0.extract (dU:Int).toNat (a2:Int).toNat))) = w43 at d9 gX jg jN qU ⊢
                      have dP:=d9
                      have dI:=gX
                      have dA:=jg
                      have dV:=jN
                      have HB:=qU
                      clear d9 gX jg jN qU
                      have d9:=aj.mk (Kd.fU dP.out)
                      have gX:=aj.mk (aI dI.out)
                      have jg:=aj.mk (aI dA.out)
                      have jN:=aj.mk (aI dV.out)
                      have qU:=aj.mk (au HB.out)
                      clear dP
                      clear dI
                      clear dA
                      clear dV
                      clear HB
                      have dP:=d9
                      have dI:=gX
                      have dA:=jg
                      have dV:=jN
                      have HB:=qU
                      clear d9 gX jg jN qU
                      obtain ⟨VW,VX,aaI⟩:=Kd.xk dP.out
                      (first | subst aaI | (injection aaI with f1_ f2_ f3_;have f4_:=f1_.symm;have f5_:=f3_.symm;clear f1_ f2_ f3_;subst f4_;subst f5_))
                      refine MV (n:=9) (S:=fun w'=>w'.cell? ⟨fE,0,none⟩ = some (.string (a0.extract (a1:Int).toNat ((wrap64 (a1 + eT)):Int).toNat)) ∧ w'.cell? ⟨fE,1,none⟩ = some (.string (a0.extract (dU:Int).toNat (a2:Int).toNat)) ∧ w'.cell? ⟨fE,2,none⟩ = some (.slice VW gZ.length VX) ∧ w'.cell? ⟨fK,0,none⟩ = some (.int .i64 eT) ∧ w'.cell? ⟨fK,1,none⟩ = some (.int .i64 iR) ∧ w'.cell? ⟨fK,2,none⟩ = some (.int .i64 jW)) (ds:=[]) #[false,false,false,false,false,false,false,false,false] (by kernel_rfl) rfl rfl ⟨(aM dV.out 0).trans rfl,(aM dV.out 1).trans rfl,(aM dV.out 2).trans rfl,(aM dI.out 0).trans rfl,(aM dI.out 1).trans rfl,(aM dI.out 2).trans rfl⟩ (fun hHeld=>?_);refine AZ bV.aay bV.VT (fun wM HW_=>?_)
                      generalize w43.drew = w44 at dP dI dA dV HB hHeld ⊢
                      refine lS (i:=1) (N:=some 69) (v:=?_) (a':=?_) #[false,true,false,false,false,false,false,false,false] rfl rfl (jL wM.out (by kernel_rfl)) (fun _ _ _ h=>h) (Or.inl ⟨by rfl,?_⟩) ?_ ?_
                      rotate_left
                      · intro w'
                        go_simp
                        with_reducible rfl
                      rotate_left
                      · simp only [Act.put,List.setIfInBounds_toArray,List.set_cons_zero,List.set_cons_succ,gP,iy]
                        rfl
                      refine lS (i:=4) (N:=some 72) (v:=?_) (a':=?_) #[false,true,false,false,true,false,false,false,false] rfl rfl (jL wM.out (by kernel_rfl)) (fun _ _ _ h=>h) (Or.inl ⟨by rfl,?_⟩) ?_ ?_
                      rotate_left
                      · intro w'
                        go_simp
                        with_reducible rfl
                      rotate_left
                      · simp only [Act.put,List.setIfInBounds_toArray,List.set_cons_zero,List.set_cons_succ,gP,iy]
                        rfl
                      refine EG (i:=0) (N:=some 68) (v:=?_) (a':=?_) #[true,true,false,false,true,false,false,false,false] rfl rfl (ze wM.out HW_.out (by kernel_rfl)) (fun _ _ _ h=>h) (Or.inl ⟨by rfl,?_⟩) hHeld ?_ ?_
                      rotate_left
                      · rintro w' ⟨s0,s1,s2,s3,s4,s5⟩
                        go_simp
                        with_reducible rfl
                      rotate_left
                      · simp only [Act.put,List.setIfInBounds_toArray,List.set_cons_zero,List.set_cons_succ,gP,iy]
                        rfl
                      refine EG (i:=2) (N:=some 70) (v:=?_) (a':=?_) #[true,true,true,false,true,false,false,false,false] rfl rfl (ze wM.out HW_.out (by kernel_rfl)) (fun _ _ _ h=>h) (Or.inl ⟨by rfl,?_⟩) hHeld ?_ ?_
                      rotate_left
                      · rintro w' ⟨s0,s1,s2,s3,s4,s5⟩
                        go_simp
                        with_reducible rfl
                      rotate_left
                      · simp only [Act.put,List.setIfInBounds_toArray,List.set_cons_zero,List.set_cons_succ,gP,iy]
                        rfl
                      refine lS (i:=3) (N:=some 71) (v:=?_) (a':=?_) #[true,true,true,true,true,false,false,false,false] rfl rfl (jL wM.out (by kernel_rfl)) (fun _ _ _ h=>h) (Or.inl ⟨by rfl,?_⟩) ?_ ?_
                      rotate_left
                      · intro w'
                        go_simp
                        with_reducible rfl
                      rotate_left
                      · simp only [Act.put,List.setIfInBounds_toArray,List.set_cons_zero,List.set_cons_succ,gP,iy]
                        rfl
                      refine EG (i:=5) (N:=some 73) (v:=?_) (a':=?_) #[true,true,true,true,true,true,false,false,false] rfl rfl (ze wM.out HW_.out (by kernel_rfl)) (fun _ _ _ h=>h) (Or.inl ⟨by rfl,?_⟩) hHeld ?_ ?_
                      rotate_left
                      · rintro w' ⟨s0,s1,s2,s3,s4,s5⟩
                        go_simp
                        with_reducible rfl
                      rotate_left
                      · simp only [Act.put,List.setIfInBounds_toArray,List.set_cons_zero,List.set_cons_succ,gP,iy]
                        rfl
                      refine lS (i:=6) (N:=some 74) (v:=?_) (a':=?_) #[true,true,true,true,true,true,true,false,false] rfl rfl (jL wM.out (by kernel_rfl)) (fun _ _ _ h=>h) (Or.inl ⟨by rfl,?_⟩) ?_ ?_
                      rotate_left
                      · intro w'
                        go_simp
                        with_reducible rfl
                      rotate_left
                      · simp only [Act.put,List.setIfInBounds_toArray,List.set_cons_zero,List.set_cons_succ,gP,iy]
                        rfl
                      refine VD (i:=7) (N:=none) #[true,true,true,true,true,true,true,true,false] rfl rfl (Gv wM.out (by kernel_rfl)) (by decide) (fun K hK=>?_)
                      have ahP:w44.cell? ⟨dD,0,none⟩ = some (.string gG):=(aM dA.out 0).trans rfl
                      have ag8:=ay dA.out 0
                      have acR:=fF.out
                      have acS:=fB.out
                      have acT:=j5.out
                      have acU:=gQ.out
                      have ahQ:w44.cell? ⟨dD,1,none⟩ = some (.string fG):=(aM dA.out 1).trans rfl
                      have ag9:=ay dA.out 1
                      have acV:=fF.out
                      have acW:=fB.out
                      have acX:=j5.out
                      have acY:=gQ.out
                      have ahR:w44.cell? ⟨dD,2,none⟩ = some (.slice none 0 0):=(aM dA.out 2).trans rfl
                      have aha:=ay dA.out 2
                      have acZ:=fF.out
                      have ac0:=fB.out
                      have ac1:=j5.out
                      have ac2:=gQ.out
                      refine ZI (w1:=?_) (by rfl) rfl ?_ ?_
                      rotate_left
                      · go_simp
                        rfl
                      refine hK.out _ _ ⟨((cell_far (p:=⟨dD,_,none⟩) fB.out _).trans (((cell_far (p:=⟨dD,_,none⟩) fB.out _).trans (((cell_far (p:=⟨dD,_,none⟩) fB.out _).trans (hHeld.1)))))),((cell_far (p:=⟨dD,_,none⟩) fB.out _).trans (((cell_far (p:=⟨dD,_,none⟩) fB.out _).trans (((cell_far (p:=⟨dD,_,none⟩) fB.out _).trans (hHeld.2.1)))))),((cell_far (p:=⟨dD,_,none⟩) fB.out _).trans (((cell_far (p:=⟨dD,_,none⟩) fB.out _).trans (((cell_far (p:=⟨dD,_,none⟩) fB.out _).trans (hHeld.2.2.1)))))),((cell_far (p:=⟨dD,_,none⟩) fF.out _).trans (((cell_far (p:=⟨dD,_,none⟩) fF.out _).trans (((cell_far (p:=⟨dD,_,none⟩) fF.out _).trans (hHeld.2.2.2.1)))))),((cell_far (p:=⟨dD,_,none⟩) fF.out _).trans (((cell_far (p:=⟨dD,_,none⟩) fF.out _).trans (((cell_far (p:=⟨dD,_,none⟩) fF.out _).trans (hHeld.2.2.2.2.1)))))),((cell_far (p:=⟨dD,_,none⟩) fF.out _).trans (((cell_far (p:=⟨dD,_,none⟩) fF.out _).trans (((cell_far (p:=⟨dD,_,none⟩) fF.out _).trans (hHeld.2.2.2.2.2))))))⟩ (fun hHeld=>?_)
                      clear hK K
                      refine lS (i:=8) (N:=some 9) (v:=?_) (a':=?_) #[true,true,true,true,true,true,true,true,true] rfl rfl (jL wM.out (by kernel_rfl)) (fun _ _ _ h=>h) (Or.inl ⟨by rfl,?_⟩) ?_ ?_
                      rotate_left
                      · intro w'
                        go_simp
                        with_reducible rfl
                      rotate_left
                      · simp only [Act.put,List.setIfInBounds_toArray,List.set_cons_zero,List.set_cons_succ,gP,iy]
                        rfl
                      refine SI (Ip wM.out (by kernel_rfl)) ?_
                      try go_wp2
                      refine bodyPost_ret (jV rfl _ _ dD 148 #[.string (a0.extract (a1:Int).toNat ((wrap64 (a1 + eT)):Int).toNat),.string (a0.extract (dU:Int).toNat (a2:Int).toNat),.slice VW gZ.length VX] (0,0) _ rfl (by (with_reducible repeat (first | refine aG ?_ _ | refine aI ?_ | refine aA ?_ _));refine bU (cs:=#[.string (a0.extract (a1:Int).toNat ((wrap64 (a1 + eT)):Int).toNat),.string (a0.extract (dU:Int).toNat (a2:Int).toNat),.slice none 0 0]) ?_ 2 _ rfl;(with_reducible repeat (first | refine aG ?_ _ | refine aI ?_ | refine aA ?_ _));refine bU (cs:=#[.string (a0.extract (a1:Int).toNat ((wrap64 (a1 + eT)):Int).toNat),.string fG,.slice none 0 0]) ?_ 1 _ rfl;(with_reducible repeat (first | refine aG ?_ _ | refine aI ?_ | refine aA ?_ _));refine bU (cs:=#[.string gG,.string fG,.slice none 0 0]) ?_ 0 _ rfl;(with_reducible repeat (first | refine aG ?_ _ | refine aI ?_ | refine aA ?_ _));exact dA.out) Try.underlying148 rfl (by kernel_rfl)) rfl ?_
                      exact ⟨_,by first | rfl | (simp [aJ,aK] <;> rfl) | (simp [*,aJ,aK] <;> rfl),by (with_reducible repeat (first | apply Kd.fu | apply Kd.fI | apply Kd.fU));exact Kd.pR (Kd.uj (p:=⟨dD,2,none⟩) (Kd.uj (p:=⟨dD,1,none⟩) (Kd.uj (p:=⟨dD,0,none⟩) (Kd.um dP.out dA.out (by decide)) (fun _ hk=>hk.2) (.string (a0.extract (a1:Int).toNat ((wrap64 (a1 + eT)):Int).toNat))) (fun _ hk=>hk.2) (.string (a0.extract (dU:Int).toNat (a2:Int).toNat))) (fun _ hk=>hk.2) (.slice VW gZ.length VX)) (fun _ hk=>trivial),by repeat (first | (with_reducible first | exact HB.out | apply ak | apply ah | apply au | refine aR ?_ iX.out | refine aR ?_ kL.out | refine aR ?_ nM.out) | exact HB.out)⟩
                    · rw [if_neg N8] at H
                      exact absurd H (by simp)
                  · rw [if_neg Eh] at H
                    exact absurd H (by simp)
                · rw [if_neg c37] at H
                  exact absurd H (by simp)
        · rw [if_neg c8] at H
          exact absurd H (by simp)
      · rw [if_neg c7] at H
        exact absurd H (by simp)
    · rw [if_neg c6] at H
      exact absurd H (by simp)
  · rw [if_neg c5] at H
    have pX:decide (eT ≤ (wrap64 (a2 - a1))) = false:=decide_eq_false c5
    (try (have vJ:decide (eT ≤ ((a2 - a1))) = false:=by have h_:decide (eT ≤ (wrap64 (a2 - a1))) = false:=decide_eq_false c5;rw [B.dQ (by omega) (by omega)] at h_;exact h_))
    clear c5
    simp only [Option.some.injEq,Prod.mk.injEq] at H
    obtain ⟨rfl,rfl,rfl,rfl⟩:=H
    go_enter Try.func121,Try.ntmps121
    go_wp2_with (first | ((with_reducible refine gI (N:=7) rfl ?_);refine fQ ?hg (N:=7) ?hd (cs:=#[.int .i64 eT,.int .i64 iR,.int .i64 jW]) (t:=157) ?hr ?_;(case hd=>rfl);(case hg=>rfl);(case hr=>first | (go_simp;done) | (go_simp;rfl));intro fK hg w49 gU hb;have d9:=aj.mk (bE (by repeat (first | (with_reducible first | exact HB.out | apply ak | apply ah | apply au) | exact HB.out)) hb);have gX:=aj.mk (gU);have jg:=aj.mk ((by rw [hg];exact (bL (by repeat (first | (with_reducible first | exact HB.out | apply ak | apply ah | apply au) | exact HB.out))):w.heap.size ≤ fK));have jN:=aj.mk ((by rw [hg];exact (bL (by repeat (first | (with_reducible first | exact HB.out | apply ak | apply ah | apply au) | exact HB.out))):w.heap.size ≤ fK));clear HB;have HB:=d9;have dI:=gX;have aaz:=jg;have iX:=jN;clear d9 gX jg jN;clear hb gU hg) | ((with_reducible refine gI (N:=8) rfl ?_);refine fQ ?hg (N:=8) ?hd (cs:=#[.string (⟨#[]⟩:ByteArray),.string (⟨#[]⟩:ByteArray),.slice none 0 0]) (t:=148) ?hr ?_;(case hd=>rfl);(case hg=>rfl);(case hr=>first | (go_simp;done) | (go_simp;rfl));intro dD hg w50 gU hb;have d9:=aj.mk (dO (g:=fK) (o:=.cells #[.int .i64 eT,.int .i64 iR,.int .i64 jW] 157 (0,0)) (by (with_reducible repeat (first | refine aG ?_ _ | refine aI ?_ | refine aA ?_ _));exact dI.out) hb);have gX:=aj.mk (bE (by repeat (first | (with_reducible first | exact HB.out | apply ak | apply ah | apply au | refine aR ?_ iX.out) | exact HB.out)) hb);have jg:=aj.mk (gU);have jN:=aj.mk ((by rw [hg];exact (bL (by repeat (first | (with_reducible first | exact HB.out | apply ak | apply ah | apply au | refine aR ?_ iX.out) | exact HB.out))):w.heap.size ≤ dD));have qU:=aj.mk ((by rw [hg];exact (bL (by repeat (first | (with_reducible first | exact HB.out | apply ak | apply ah | apply au | refine aR ?_ iX.out) | exact HB.out))):w.heap.size ≤ dD));have Nu:=aj.mk ((by rw [hg];exact Nat.ne_of_lt (jK (g:=fK) (o:=.cells #[.int .i64 eT,.int .i64 iR,.int .i64 jW] 157 (0,0)) (by (with_reducible repeat (first | refine aG ?_ _ | refine aI ?_ | refine aA ?_ _));exact dI.out)):fK ≠ dD));have Nw:=aj.mk ((by rw [hg];exact Nat.ne_of_gt (jK (g:=fK) (o:=.cells #[.int .i64 eT,.int .i64 iR,.int .i64 jW] 157 (0,0)) (by (with_reducible repeat (first | refine aG ?_ _ | refine aI ?_ | refine aA ?_ _));exact dI.out)):dD ≠ fK));clear dI;clear HB;have dI:=d9;have HB:=gX;have dA:=jg;have aaA:=jN;have kL:=qU;have fF:=Nu;have j5:=Nw;clear d9 gX jg jN qU Nu Nw;clear hb gU hg) | ((with_reducible refine gI (N:=10) rfl ?_);refine fQ ?hg (N:=10) ?hd (cs:=#[.string (⟨#[]⟩:ByteArray),.string (⟨#[]⟩:ByteArray),.slice none 0 0]) (t:=148) ?hr ?_;(case hd=>rfl);(case hg=>rfl);(case hr=>first | (go_simp;done) | (go_simp;rfl));intro fE hg XC gU hb;have d9:=aj.mk (dO (g:=fK) (o:=.cells #[.int .i64 eT,.int .i64 iR,.int .i64 jW] 157 (0,0)) (by (with_reducible repeat (first | refine aG ?_ _ | refine aI ?_ | refine aA ?_ _));exact dI.out) hb);have gX:=aj.mk (dO (g:=dD) (o:=.cells #[.string (⟨#[]⟩:ByteArray),.string (⟨#[]⟩:ByteArray),.slice none 0 0] 148 (0,0)) (by (with_reducible repeat (first | refine aG ?_ _ | refine aI ?_ | refine aA ?_ _));exact dA.out) hb);have jg:=aj.mk (bE (by repeat (first | (with_reducible first | exact HB.out | apply ak | apply ah | apply au | refine aR ?_ iX.out | refine aR ?_ kL.out) | exact HB.out)) hb);have jN:=aj.mk (gU);have qU:=aj.mk ((by rw [hg];exact (bL (by repeat (first | (with_reducible first | exact HB.out | apply ak | apply ah | apply au | refine aR ?_ iX.out | refine aR ?_ kL.out) | exact HB.out))):w.heap.size ≤ fE));have Nu:=aj.mk ((by rw [hg];exact (bL (by repeat (first | (with_reducible first | exact HB.out | apply ak | apply ah | apply au | refine aR ?_ iX.out | refine aR ?_ kL.out) | exact HB.out))):w.heap.size ≤ fE));have Nw:=aj.mk ((by rw [hg];exact Nat.ne_of_lt (jK (g:=fK) (o:=.cells #[.int .i64 eT,.int .i64 iR,.int .i64 jW] 157 (0,0)) (by (with_reducible repeat (first | refine aG ?_ _ | refine aI ?_ | refine aA ?_ _));exact dI.out)):fK ≠ fE));have n7_:=aj.mk ((by rw [hg];exact Nat.ne_of_gt (jK (g:=fK) (o:=.cells #[.int .i64 eT,.int .i64 iR,.int .i64 jW] 157 (0,0)) (by (with_reducible repeat (first | refine aG ?_ _ | refine aI ?_ | refine aA ?_ _));exact dI.out)):fE ≠ fK));have n8_:=aj.mk ((by rw [hg];exact Nat.ne_of_lt (jK (g:=dD) (o:=.cells #[.string (⟨#[]⟩:ByteArray),.string (⟨#[]⟩:ByteArray),.slice none 0 0] 148 (0,0)) (by (with_reducible repeat (first | refine aG ?_ _ | refine aI ?_ | refine aA ?_ _));exact dA.out)):dD ≠ fE));have n9_:=aj.mk ((by rw [hg];exact Nat.ne_of_gt (jK (g:=dD) (o:=.cells #[.string (⟨#[]⟩:ByteArray),.string (⟨#[]⟩:ByteArray),.slice none 0 0] 148 (0,0)) (by (with_reducible repeat (first | refine aG ?_ _ | refine aI ?_ | refine aA ?_ _));exact dA.out)):fE ≠ dD));clear dI;clear dA;clear HB;have dI:=d9;have dA:=gX;have HB:=jg;have dV:=jN;have aaB:=qU;have nM:=Nu;have j6:=Nw;have nN:=n7_;have gQ:=n8_;have fB:=n9_;clear d9 gX jg jN qU Nu Nw n7_ n8_ n9_;clear hb gU hg;have ahb:=fF.out;have ahc:=j5.out;have ahd:=j6.out;have ahe:=nN.out;have ac3:XC.cell? ⟨fK,0,none⟩ = some (.int .i64 eT):=(aM dI.out 0).trans rfl;have ac4:XC.cell? ⟨fK,1,none⟩ = some (.int .i64 iR):=(aM dI.out 1).trans rfl;have ac5:XC.cell? ⟨fK,2,none⟩ = some (.int .i64 jW):=(aM dI.out 2).trans rfl;have ac6:=ay dI.out 0;have ac7:=ay dI.out 1;have ac8:=ay dI.out 2;have ahf:=gQ.out;have ahg:=fB.out;have ac9:XC.cell? ⟨dD,0,none⟩ = some (.string (⟨#[]⟩:ByteArray)):=(aM dA.out 0).trans rfl;have ada:XC.cell? ⟨dD,1,none⟩ = some (.string (⟨#[]⟩:ByteArray)):=(aM dA.out 1).trans rfl;have adb:XC.cell? ⟨dD,2,none⟩ = some (.slice none 0 0):=(aM dA.out 2).trans rfl;have ade:=ay dA.out 0;have adf:=ay dA.out 1;have adg:=ay dA.out 2))
    refine bodyPost_ret (jV rfl _ _ dD 148 #[.string (⟨#[]⟩:ByteArray),.string (⟨#[]⟩:ByteArray),.slice none 0 0] (0,0) _ rfl (by (with_reducible repeat (first | refine aG ?_ _ | refine aI ?_ | refine aA ?_ _));refine bU (cs:=#[.string (⟨#[]⟩:ByteArray),.string (⟨#[]⟩:ByteArray),.slice none 0 0]) ?_ 2 _ rfl;(with_reducible repeat (first | refine aG ?_ _ | refine aI ?_ | refine aA ?_ _));refine bU (cs:=#[.string (⟨#[]⟩:ByteArray),.string (⟨#[]⟩:ByteArray),.slice none 0 0]) ?_ 1 _ rfl;(with_reducible repeat (first | refine aG ?_ _ | refine aI ?_ | refine aA ?_ _));refine bU (cs:=#[.string (⟨#[]⟩:ByteArray),.string (⟨#[]⟩:ByteArray),.slice none 0 0]) ?_ 0 _ rfl;(with_reducible repeat (first | refine aG ?_ _ | refine aI ?_ | refine aA ?_ _));exact dA.out) Try.underlying148 rfl (by kernel_rfl)) rfl ?_
    exact ⟨_,by first | rfl | (simp [aJ,aK] <;> rfl) | (simp [*,aJ,aK] <;> rfl),by first | exact Kd.jG _ _ _ _ _ | exact Kd.lD _ _ _ _ _ | exact Kd.lF _ _ _ _ _ | exact Kd.lu _ _ _ _ _ | exact Kd.lC _ _ _ _ _,by repeat (first | (with_reducible first | exact HB.out | apply ak | apply ah | apply au | refine aR ?_ iX.out | refine aR ?_ kL.out | refine aR ?_ nM.out) | exact HB.out)⟩
def dK.l0 : Nat → ByteArray → Option (Bool)
  | 0,_=>none
  | k + 1,x0=>if x0.toList = ([]:List UInt8) then (some true) else (if 0 < (x0.size:Int) then (if (wrap64 (1 + (wrap64 (bt x0 0)))) > (x0.size:Int) then (some false) else (if 0 ≤ (wrap64 (1 + (wrap64 (bt x0 0)))) then (if (wrap64 (1 + (wrap64 (bt x0 0)))) ≤ (x0.size:Int) then (dK.l0 k (x0.extract ((wrap64 (1 + (wrap64 (bt x0 0)))):Int).toNat x0.size)) else (none)) else (none))) else (none))
def dK.f (k:Nat) (a0:ByteArray):Option (Bool):=if a0.toList = ([]:List UInt8) then (some false) else (dK.l0 k a0)
set_option maxHeartbeats 8000000 in
set_option maxRecDepth 100000 in
theorem dK.calls (k:Nat) (a0:ByteArray) (r:Bool) (w:World) (h:dK.f k a0 = some r) :
    Calls Try.prog 122 #[.string a0] w fun e w'=>e = .returned (.bool r) ∧ aY w w':=by
  have H:(if a0.toList = ([]:List UInt8) then (some false) else (dK.l0 k a0)) = some r:=h
  clear h
  by_cases c2:a0.toList = ([]:List UInt8)
  · rw [if_pos c2] at H
    have wL:(a0.toList == ([]:List UInt8)) = true:=beq_iff_eq.mpr c2
    have J3:(a0.toList != ([]:List UInt8)) = false:=bne_eq_false_iff_eq.mpr c2
    have aaJ:a0.toList.isEmpty = true:=List.isEmpty_iff.mpr c2
    clear c2
    obtain rfl:=Option.some.inj H
    go_enter Try.func122,Try.ntmps122
    go_wp2
    go_ret
    exact ⟨by first | rfl | (simp;done) | (simp [*];done),by repeat (first | exact aY.refl _ | apply aY.step)⟩
  · rw [if_neg c2] at H
    have wL:(a0.toList == ([]:List UInt8)) = false:=beq_eq_false_iff_ne.mpr c2
    have J3:(a0.toList != ([]:List UInt8)) = true:=bne_iff_ne.mpr c2
    have aaJ:a0.toList.isEmpty = false:=Bool.eq_false_iff.mpr (fun h_=>c2 (List.isEmpty_iff.mp h_))
    have H':=aj.mk H
    clear H
    go_enter Try.func122,Try.ntmps122
    go_wp2
    go_loopg [0] k (fun kq v0 w'=>∃ (bM:ByteArray),v0 = .string bM ∧ aj (dK.l0 kq bM = some r) ∧ aj (kq ≤ k) ∧ aY w w')
    case atStart=>exact ⟨(a0),(by first | rfl | (simp;done) | (simp [*];done) | (simp [B.aV];done) | (simp [B.aW];done)),H',⟨Nat.le_refl _⟩,by repeat (first | exact aY.refl _ | apply aY.step)⟩
    case round =>
      clear H'
      try clear c1
      try clear c2
      try clear wL
      try clear J3
      try clear aaJ
      try clear p2
      obtain ⟨bM,rfl,HA,uD,⟨m1,rfl⟩⟩:=hrel
      cases gk with
      | zero=>exact absurd HA.out (by simp [dK.l0])
      | succ k1 =>
        have H:=HA.out
        clear HA
        simp only [dK.l0] at H
        by_cases c3:bM.toList = ([]:List UInt8)
        · rw [if_pos c3] at H
          have qQ:(bM.toList == ([]:List UInt8)) = true:=beq_iff_eq.mpr c3
          have CQ:(bM.toList != ([]:List UInt8)) = false:=bne_eq_false_iff_eq.mpr c3
          have Nf:bM.toList.isEmpty = true:=List.isEmpty_iff.mpr c3
          clear c3
          obtain rfl:=Option.some.inj H
          go_wp2
          go_ret
          exact ⟨by first | rfl | (simp;done) | (simp [*];done),by repeat (first | exact aY.refl _ | apply aY.step)⟩
        · rw [if_neg c3] at H
          have qQ:(bM.toList == ([]:List UInt8)) = false:=beq_eq_false_iff_ne.mpr c3
          have CQ:(bM.toList != ([]:List UInt8)) = true:=bne_iff_ne.mpr c3
          have Nf:bM.toList.isEmpty = false:=Bool.eq_false_iff.mpr (fun h_=>c3 (List.isEmpty_iff.mp h_))
          by_cases c4:0 < (bM.size:Int)
          · rw [if_pos c4] at H
            have qP:decide (0 < (bM.size:Int)) = true:=decide_eq_true c4
            have J4:decide (0 < bM.size) = true:=decide_eq_true (by omega)
            clear c4
            by_cases c6:(wrap64 (1 + (wrap64 (bt bM 0)))) > (bM.size:Int)
            · rw [if_pos c6] at H
              have zV:decide ((bM.size:Int) < (wrap64 (1 + (wrap64 (bt bM 0))))) = true:=decide_eq_true c6
              (try (have M9:decide ((bM.size:Int) < ((1 + ((bt bM 0))))) = true:=by have h_:decide ((bM.size:Int) < (wrap64 (1 + (wrap64 (bt bM 0))))) = true:=decide_eq_true c6;rw [B.dQ (by omega) (by omega)] at h_;rw [B.dQ (by omega) (by omega)] at h_;exact h_))
              clear c6
              obtain rfl:=Option.some.inj H
              have p5:0 ≤ (0:Int):=(by omega)
              have q5:0 < bM.size:=(by have:(0:Int) < (bM.size:Int):=of_decide_eq_true (by first | (with_reducible assumption) | assumption);omega)
              have hx5:∀ h:0 < bM.size,((bM[0]'h).toNat:Int) = bt bM 0:=nL bM 0
              clear p5
              have qi5:(0 < (bM.size:Int)) = True:=eq_true (of_decide_eq_true (by first | (with_reducible assumption) | assumption))
              replace q5:=eq_true q5
              go_wp2
              go_ret
              exact ⟨by first | rfl | (simp;done) | (simp [*];done),by repeat (first | exact aY.refl _ | apply aY.step)⟩
            · rw [if_neg c6] at H
              have zV:decide ((bM.size:Int) < (wrap64 (1 + (wrap64 (bt bM 0))))) = false:=decide_eq_false c6
              (try (have M9:decide ((bM.size:Int) < ((1 + ((bt bM 0))))) = false:=by have h_:decide ((bM.size:Int) < (wrap64 (1 + (wrap64 (bt bM 0))))) = false:=decide_eq_false c6;rw [B.dQ (by omega) (by omega)] at h_;rw [B.dQ (by omega) (by omega)] at h_;exact h_))
              clear c6
              obtain ⟨QK,Kj⟩:∃ j_:Int,(wrap64 (1 + (wrap64 (bt bM 0)))) = j_:=⟨_,rfl⟩
              replace H:(if 0 ≤ (QK) then (if (QK) ≤ (bM.size:Int) then (dK.l0 k1 (bM.extract ((QK):Int).toNat bM.size)) else (none)) else (none)) = some r:=by first | (rw [Kj] at H;exact H) | (simp only [Kj] at H ⊢;exact H)
              (try rw [Kj] at zV)
              (try rw [Kj] at M9)
              have ahh:(IntKind.i64.wrap (1 + (wrap64 (bt bM 0)))) = QK:=(gP _).trans Kj
              by_cases c8:0 ≤ (QK)
              · rw [if_pos c8] at H
                have rZ:=eq_true c8
                have r9:decide (0 ≤ (QK)) = true:=decide_eq_true c8
                clear c8
                by_cases c9:(QK) ≤ (bM.size:Int)
                · rw [if_pos c9] at H
                  have uE:=eq_true c9
                  have EP:decide ((QK) ≤ (bM.size:Int)) = true:=decide_eq_true c9
                  clear c9
                  have H':=aj.mk H
                  clear H
                  have p5:0 ≤ (0:Int):=(by omega)
                  have q5:0 < bM.size:=(by have:(0:Int) < (bM.size:Int):=of_decide_eq_true (by first | (with_reducible assumption) | assumption);omega)
                  have hx5:∀ h:0 < bM.size,((bM[0]'h).toNat:Int) = bt bM 0:=nL bM 0
                  clear p5
                  have qi5:(0 < (bM.size:Int)) = True:=eq_true (of_decide_eq_true (by first | (with_reducible assumption) | assumption))
                  replace q5:=eq_true q5
                  go_wp2
                  go_roundg k1
                  case measure=>have:=uD.out;omega
                  case rel=>exact ⟨(bM.extract ((QK):Int).toNat bM.size),(by first | rfl | (simp;done) | (simp only [← Kj] <;> (first | rfl | simp)) | (simp [*];done)),H',⟨by have:=uD.out;omega⟩,by repeat (first | exact aY.refl _ | apply aY.step)⟩
                · rw [if_neg c9] at H
                  exact absurd H (by simp)
              · rw [if_neg c8] at H
                exact absurd H (by simp)
          · rw [if_neg c4] at H
            exact absurd H (by simp)
def aD.zn (k:Int):Option (Int × Int × Int) :=
  if k = 1 then some (4,0,0) else if k = 28 then some (16,0,0) else if k = 2 then some (0,1,0) else if k = 5 then some (0,1,0) else if k = 12 then some (0,1,0) else if k = 6 then some (0,2,20) else if k = 15 then some (2,1,0) else if k = 33 then some (6,1,0) else none
theorem aD.xu (k:Int):Mi.sQ k bX.tab = (aD.zn k).map fun s=>bX.agg s.1 s.2.1 s.2.2:=by
  unfold aD.zn bX.tab
  simp only [Mi.sQ]
  repeat' split
  all_goals rfl
def aD.fin (k:Nat) (kind:Int) (d:ByteArray) (is:Bool):Option (ByteArray × Int) :=
  if is = true then (if kind = 16 then ((dK.f k d).bind fun b=>if b = true then (if (d.size:Int) > 65535 then some (⟨#[]⟩,4) else some (d,0)) else some (⟨#[]⟩,4)) else (if (d.size:Int) > 65535 then some (⟨#[]⟩,4) else some (d,0))) else some (⟨#[]⟩,4)
def aD.g (k:Nat) (a0:ByteArray) (a1 a2 a3:Int) (s:Int × Int × Int):Option (ByteArray × Int) :=
  (bV.f k a0 a1 (wrap64 (a1 + a2)) s.1 s.2.1 s.2.2).bind fun p=>if p.1.size + (strings_Join.cat p.2.2.1).size + p.2.1.size ≤ 140737488355328 then (if p.2.2.1.length ≤ 1000000 then aD.fin k a3 (p.1 ++ strings_Join.cat p.2.2.1 ++ p.2.1) p.2.2.2 else none) else none
def aD.f (k:Nat) (a0:ByteArray) (a1 a2 a3:Int):Option (ByteArray × Int) :=
  (eY.f a0 a1 a2).bind fun t=>if t.2 = true then (match aD.zn a3 with | some s=>aD.g k a0 a1 a2 a3 s | none=>aD.fin k a3 t.1 true) else some (⟨#[]⟩,2)
theorem aD.Bf {k:Nat} {kind:Int} {d:ByteArray} {r:ByteArray × Int} (h:aD.fin k kind d true = some r) (hk:kind = 16) :
    ∃ b,dK.f k d = some b ∧ (if b = true then (if (d.size:Int) > 65535 then some ((⟨#[]⟩:ByteArray),(4:Int)) else some (d,0)) else some (⟨#[]⟩,4)) = some r:=by
  unfold aD.fin at h
  rw [if_pos rfl,if_pos hk] at h
  exact zbm h
theorem aD.qF {k:Nat} {kind:Int} {d:ByteArray} {r:ByteArray × Int} (h:aD.fin k kind d true = some r) (hk:¬ kind = 16) :
    (if (d.size:Int) > 65535 then some ((⟨#[]⟩:ByteArray),(4:Int)) else some (d,0)) = some r:=by
  unfold aD.fin at h
  rw [if_pos rfl,if_neg hk] at h
  exact h
theorem aD.VY {k:Nat} {kind:Int} {d:ByteArray} {r:ByteArray × Int} (h:aD.fin k kind d false = some r):r = (⟨#[]⟩,4):=by
  unfold aD.fin at h
  rw [if_neg Bool.false_ne_true] at h
  exact (Option.some.inj h).symm
theorem aD.slc {v:Value} {l:List ByteArray} {base:Nat} {ok:Nat → Prop} {w:World} (hr:Kd.R Kd.string 9 w base ok v l):∃ A n c,v = .slice A n c:=by
  rcases (Kd.uo hr).2 with ⟨rfl,_⟩ | ⟨g,cap,cur,rfl,_⟩
  · exact ⟨_,_,_,rfl⟩
  · exact ⟨_,_,_,rfl⟩
theorem aD.l7 {b:Bool} {d r1:ByteArray} {r2:Int} (h:(if b = true then (if (d.size:Int) > 65535 then some ((⟨#[]⟩:ByteArray),(4:Int)) else some (d,0)) else some (⟨#[]⟩,4)) = some (r1,r2)) :
    (b = true → 65535 < (d.size:Int) → r1 = ⟨#[]⟩ ∧ r2 = 4) ∧ (b = true → (d.size:Int) ≤ 65535 → r1 = d ∧ r2 = 0) ∧ (b = false → r1 = ⟨#[]⟩ ∧ r2 = 4):=by
  refine ⟨fun h1 h2=>?_,fun h1 h2=>?_,fun h1=>?_⟩
  · rw [if_pos h1,if_pos h2] at h;cases h;exact ⟨rfl,rfl⟩
  · rw [if_pos h1,if_neg (by omega)] at h;cases h;exact ⟨rfl,rfl⟩
  · rw [h1,if_neg Bool.false_ne_true] at h;cases h;exact ⟨rfl,rfl⟩
theorem aD.qG {d r1:ByteArray} {r2:Int} (h:(if (d.size:Int) > 65535 then some ((⟨#[]⟩:ByteArray),(4:Int)) else some (d,0)) = some (r1,r2)) :
    (65535 < (d.size:Int) → r1 = ⟨#[]⟩ ∧ r2 = 4) ∧ ((d.size:Int) ≤ 65535 → r1 = d ∧ r2 = 0):=by
  refine ⟨fun h2=>?_,fun h2=>?_⟩
  · rw [if_pos h2] at h;cases h;exact ⟨rfl,rfl⟩
  · rw [if_neg (by omega)] at h;cases h;exact ⟨rfl,rfl⟩
set_option maxHeartbeats 8000000 in
set_option maxRecDepth 100000 in
theorem aD.calls (k:Nat) (a0:ByteArray) (a1 a2 a3:Int) (r1:ByteArray) (r2:Int) (w:World) (h:aD.f k a0 a1 a2 a3 = some (r1,r2)) :
    Calls Try.prog 111 #[.string a0,.int .i64 a1,.int .i64 a2,.int .i64 a3] w fun e w'=>e = .returned (.tuple #[.string r1,.int .i64 r2]) ∧ Below w.heap.size w w':=by
  have HB:=aj.mk (Below.refl w.heap.size w)
  obtain ⟨⟨t1,t2⟩,ht,h'⟩:=zbm h
  clear h
  have HT:=aj.mk ht
  clear ht
  cases t2 with
  | false =>
    rw [if_neg Bool.false_ne_true] at h'
    obtain ⟨rfl,rfl⟩:=Prod.mk.injEq .. ▸ Option.some.inj h'
    go_enter Try.func111,Try.ntmps111
    go_wp2_with (first | (go_at_call 97;refine (eY.calls _ _ _ _ _ _ HT.out).mono ?_;rintro e w1 ⟨rfl,hd1⟩))
    go_ret2
    exact ⟨rfl,hd1.below⟩
  | true =>
    replace h':(match aD.zn a3 with | some s=>aD.g k a0 a1 a2 a3 s | none=>aD.fin k a3 t1 true) = some (r1,r2):=h'
    cases hsh:aD.zn a3 with
    | none =>
      rw [hsh] at h'
      have HH:=aj.mk (show aD.fin k a3 t1 true = some (r1,r2) from h')
      clear h'
      have hfn:Mi.sQ a3 bX.tab = none:=by rw [aD.xu,hsh];rfl
      go_enter Try.func111,Try.ntmps111
      go_wp2_with (first
        | (go_at_call 97;refine (eY.calls _ _ _ _ _ _ HT.out).mono ?_;rintro e w1 ⟨rfl,hd1⟩)
        | (go_at_call 120;refine (bX.calls _).mono ?_;rintro e w2 ⟨g,rfl,hin⟩;have hl:=Mi.look (P:=Try.prog) hin.at_ 159 3 157 Try.underlying159 Try.underlying3 _ (Try.zeroValue157 w2) a3;rw [hfn] at hl;have hB2:=aj.mk ((HB.out.trans hd1.below).trans (hin.N9.mono hd1.below.size));clear hin)
        | (go_at_call 122;obtain ⟨b,hb,hx⟩:=aD.Bf HH.out (by assumption);have hx:=aj.mk hx;refine (dK.calls _ _ _ _ hb).mono ?_;rintro e w3 ⟨rfl,hd3⟩))
      all_goals
        go_ret2
        first
          | (have hq:=(aD.l7 hx.out).1 (by assumption) (by assumption);obtain ⟨rfl,rfl⟩:=hq;exact ⟨rfl,(ak hB2.out _).trans (hd3.below.mono (by have:=hB2.out.size;simp only [World.alloc,Array.size_push];omega))⟩)
          | (have hq:=(aD.l7 hx.out).2.1 (by assumption) (by assumption);obtain ⟨rfl,rfl⟩:=hq;exact ⟨rfl,(ak hB2.out _).trans (hd3.below.mono (by have:=hB2.out.size;simp only [World.alloc,Array.size_push];omega))⟩)
          | (have hq:=(aD.l7 hx.out).2.2 (by first | assumption | simpa using ‹¬ b = true›);obtain ⟨rfl,rfl⟩:=hq;exact ⟨rfl,(ak hB2.out _).trans (hd3.below.mono (by have:=hB2.out.size;simp only [World.alloc,Array.size_push];omega))⟩)
          | (have hq:=(aD.qG (aD.qF HH.out (by assumption))).1 (by assumption);obtain ⟨rfl,rfl⟩:=hq;exact ⟨rfl,ak hB2.out _⟩)
          | (have hq:=(aD.qG (aD.qF HH.out (by assumption))).2 (by assumption);obtain ⟨rfl,rfl⟩:=hq;exact ⟨rfl,ak hB2.out _⟩)
    | some s =>
      obtain ⟨s0,s1,s2⟩:=s
      rw [hsh] at h'
      replace h':aD.g k a0 a1 a2 a3 (s0,s1,s2) = some (r1,r2):=h'
      unfold aD.g at h'
      obtain ⟨⟨p1,p2,p3,p4⟩,hp,h'⟩:=zbm h'
      replace h':(if p1.size + (strings_Join.cat p3).size + p2.size ≤ 140737488355328 then (if p3.length ≤ 1000000 then aD.fin k a3 (p1 ++ strings_Join.cat p3 ++ p2) p4 else none) else none) = some (r1,r2):=h'
      have hp:=aj.mk (show bV.f k a0 a1 (wrap64 (a1 + a2)) s0 s1 s2 = some (p1,p2,p3,p4) from hp)
      by_cases z1:p1.size + (strings_Join.cat p3).size + p2.size ≤ 140737488355328
      · rw [if_pos z1] at h'
        by_cases z2:p3.length ≤ 1000000
        · rw [if_pos z2] at h'
          have HH:=aj.mk h'
          have z1:=aj.mk z1
          have z2:=aj.mk z2
          clear h'
          have hfn:Mi.sQ a3 bX.tab = some (bX.agg s0 s1 s2):=by rw [aD.xu,hsh];rfl
          cases p4
          all_goals
            go_enter Try.func111,Try.ntmps111
            go_wp2_with (first
              | (go_at_call 97;refine (eY.calls _ _ _ _ _ _ HT.out).mono ?_;rintro e w1 ⟨rfl,hd1⟩)
              | (go_at_call 120;refine (bX.calls _).mono ?_;rintro e w2 ⟨g,rfl,hin⟩;have hl:=Mi.look (P:=Try.prog) hin.at_ 159 3 157 Try.underlying159 Try.underlying3 _ (Try.zeroValue157 w2) a3;rw [hfn] at hl;replace hl:=show _ = Result.ok (Value.tuple #[.agg #[.int .i64 s0,.int .i64 s1,.int .i64 s2],.bool true]) w2 from hl;have hB2:=aj.mk ((HB.out.trans hd1.below).trans (hin.N9.mono hd1.below.size));clear hin)
              | (go_at_call 121;refine (bV.calls _ _ _ _ _ _ _ _ _ _ _ _ hp.out).mono ?_;rintro e w3 ⟨v,rfl,hv,hb3⟩;obtain ⟨vA,vn,vc,rfl⟩:=aD.slc hv;have hB3:=aj.mk ((ak hB2.out _).trans (hb3.mono (by have:=hB2.out.size;simp only [World.alloc,Array.size_push];omega)));have hv:=aj.mk hv;clear hb3)
              | (go_at_call 113;refine (iJ.calls _ _ _ p3 _ _ _ (Kd.fu hv.out _) z2.out z1.out).mono ?_;rintro e w4 ⟨rfl,hb4⟩;have hB4:=aj.mk ((ak hB3.out _).trans (hb4.mono (by have:=hB3.out.size;simp only [World.alloc,Array.size_push];omega)));clear hb4)
              | (go_at_call 122;obtain ⟨b,hb,hx⟩:=aD.Bf HH.out (by assumption);have hx:=aj.mk hx;refine (dK.calls _ _ _ _ hb).mono ?_;rintro e w5 ⟨rfl,hd3⟩))
            all_goals
              go_ret2
              first
                | (have hq:=aD.VY HH.out;cases hq;exact ⟨rfl,hB4.out⟩)
                | (have hq:=(aD.l7 hx.out).1 (by first | assumption | (simp only [ByteArray.size_append,Int.natCast_add];assumption)) (by first | assumption | (simp only [ByteArray.size_append,Int.natCast_add];assumption));obtain ⟨rfl,rfl⟩:=hq;exact ⟨rfl,hB4.out.trans (hd3.below.mono hB4.out.size)⟩)
                | (have hq:=(aD.l7 hx.out).2.1 (by first | assumption | (simp only [ByteArray.size_append,Int.natCast_add];assumption)) (by first | assumption | (simp only [ByteArray.size_append,Int.natCast_add];assumption));obtain ⟨rfl,rfl⟩:=hq;exact ⟨rfl,hB4.out.trans (hd3.below.mono hB4.out.size)⟩)
                | (have hq:=(aD.l7 hx.out).2.2 (by first | assumption | simpa using ‹¬ b = true›);obtain ⟨rfl,rfl⟩:=hq;exact ⟨rfl,hB4.out.trans (hd3.below.mono hB4.out.size)⟩)
                | (have hq:=(aD.qG (aD.qF HH.out (by first | assumption | (simp only [ByteArray.size_append,Int.natCast_add];assumption)))).1 (by first | assumption | (simp only [ByteArray.size_append,Int.natCast_add];assumption));obtain ⟨rfl,rfl⟩:=hq;exact ⟨rfl,hB4.out⟩)
                | (have hq:=(aD.qG (aD.qF HH.out (by first | assumption | (simp only [ByteArray.size_append,Int.natCast_add];assumption)))).2 (by first | assumption | (simp only [ByteArray.size_append,Int.natCast_add];assumption));obtain ⟨rfl,rfl⟩:=hq;exact ⟨rfl,hB4.out⟩)
        · rw [if_neg z2] at h';cases h'
      · rw [if_neg z1] at h';cases h'
def iU.f (k:Nat) (a0:Int) (a1:ByteArray):Option (Bool):=if (a1.size:Int) > 65535 then (some false) else ((aD.f k a1 0 (a1.size:Int) a0).bind fun EZ=>(if EZ.2 = 0 then (some (EZ.1.toList == a1.toList)) else (some false)))
set_option maxHeartbeats 8000000 in
set_option maxRecDepth 100000 in
theorem iU.calls (k:Nat) (a0:Int) (a1:ByteArray) (r:Bool) (w:World) (h:iU.f k a0 a1 = some r) :
    Calls Try.prog 94 #[.int .i64 a0,.string a1] w fun e w'=>e = .returned (.bool r) ∧ Below w.heap.size w w':=by
  have HB:=aj.mk (Below.refl w.heap.size w)
  have H:(if (a1.size:Int) > 65535 then (some false) else ((aD.f k a1 0 (a1.size:Int) a0).bind fun EZ=>(if EZ.2 = 0 then (some (EZ.1.toList == a1.toList)) else (some false)))) = some r:=h
  clear h
  by_cases c3:(a1.size:Int) > 65535
  · rw [if_pos c3] at H
    have qQ:decide (65535 < (a1.size:Int)) = true:=decide_eq_true c3
    have CQ:decide (65535 < a1.size) = true:=decide_eq_true (by omega)
    clear c3
    obtain rfl:=Option.some.inj H
    go_enter Try.func94,Try.ntmps94
    go_wp2
    go_ret
    exact ⟨by first | rfl | (simp [aJ,aK] <;> rfl) | (simp [*,aJ,aK] <;> rfl),by repeat (first | (with_reducible first | exact HB.out | apply ak | apply ah | apply au) | exact HB.out)⟩
  · rw [if_neg c3] at H
    have qQ:decide (65535 < (a1.size:Int)) = false:=decide_eq_false c3
    have CQ:decide (65535 < a1.size) = false:=decide_eq_false (by omega)
    clear c3
    replace H:=zbm H
    obtain ⟨⟨t131,E5⟩,ER,H⟩:=H
    replace H:(if E5 = 0 then (some (t131.toList == a1.toList)) else (some false)) = some r:=H
    have A4:=aj.mk ER
    clear ER
    by_cases c5:E5 = 0
    · rw [if_pos c5] at H
      have pX:(E5 == 0) = true:=beq_iff_eq.mpr c5
      have vJ:(E5 != 0) = false:=bne_eq_false_iff_eq.mpr c5
      clear c5
      obtain rfl:=Option.some.inj H
      go_enter Try.func94,Try.ntmps94
      go_wp2_with (first | ((with_reducible refine aQ (f:=111) rfl ?_);refine bP (some 15) rfl rfl Try.func111 (by kernel_rfl) rfl #[.string a1,.int .i64 0,.int .i64 (a1.size:Int),.int .i64 a0] rfl (by (try simp only [List.map_toArray,List.map_cons,List.map_nil]);first | done | rfl | (simp only [List.length_drop,List.length_take];rfl) | (simp only [ByteArray.size_append,Int.natCast_add];rfl) | (rw [B.dQ] <;> first | rfl | omega | (simp only [decide_eq_false_iff_not,decide_eq_true_eq,Int.not_lt,Nat.not_lt,gt_iff_lt] at * <;> omega))) ?_;(with_reducible refine (aD.calls k a1 0 (a1.size:Int) a0 t131 E5 _ A4.out).mono ?_);rintro e w6 ⟨rfl,hb⟩;refine ⟨_,rfl,?_⟩;have d9:=aj.mk (bE (by repeat (first | (with_reducible first | exact HB.out | apply ak | apply ah | apply au) | exact HB.out)) hb);clear HB;have HB:=d9;clear d9;(try clear hb);(try clear hb2);(try clear hk);(try clear hi)))
      go_ret
      exact ⟨by first | rfl | (simp [aJ,aK] <;> rfl) | (simp [*,aJ,aK] <;> rfl),by repeat (first | (with_reducible first | exact HB.out | apply ak | apply ah | apply au) | exact HB.out)⟩
    · rw [if_neg c5] at H
      have pX:(E5 == 0) = false:=beq_eq_false_iff_ne.mpr c5
      have vJ:(E5 != 0) = true:=bne_iff_ne.mpr c5
      obtain rfl:=Option.some.inj H
      go_enter Try.func94,Try.ntmps94
      go_wp2_with (first | ((with_reducible refine aQ (f:=111) rfl ?_);refine bP (some 15) rfl rfl Try.func111 (by kernel_rfl) rfl #[.string a1,.int .i64 0,.int .i64 (a1.size:Int),.int .i64 a0] rfl (by (try simp only [List.map_toArray,List.map_cons,List.map_nil]);first | done | rfl | (simp only [List.length_drop,List.length_take];rfl) | (simp only [ByteArray.size_append,Int.natCast_add];rfl) | (rw [B.dQ] <;> first | rfl | omega | (simp only [decide_eq_false_iff_not,decide_eq_true_eq,Int.not_lt,Nat.not_lt,gt_iff_lt] at * <;> omega))) ?_;(with_reducible refine (aD.calls k a1 0 (a1.size:Int) a0 t131 E5 _ A4.out).mono ?_);rintro e w7 ⟨rfl,hb⟩;refine ⟨_,rfl,?_⟩;have d9:=aj.mk (bE (by repeat (first | (with_reducible first | exact HB.out | apply ak | apply ah | apply au) | exact HB.out)) hb);clear HB;have HB:=d9;clear d9;(try clear hb);(try clear hb2);(try clear hk);(try clear hi)))
      go_ret
      exact ⟨by first | rfl | (simp [aJ,aK] <;> rfl) | (simp [*,aJ,aK] <;> rfl),by repeat (first | (with_reducible first | exact HB.out | apply ak | apply ah | apply au) | exact HB.out)⟩
def dh.f (k:Nat) (a0:Int) (a1:ByteArray):Option (ByteArray × ByteArray × List ByteArray × Bool) :=
  (iU.f k a0 a1).bind fun c=>if c = true then (match aD.zn a0 with | some s=>bV.f k a1 0 (a1.size:Int) s.1 s.2.1 s.2.2 | none=>some (a1,⟨#[]⟩,[],true)) else some (⟨#[]⟩,⟨#[]⟩,[],false)
theorem dh.three {w w1:World} {g B:Nat} {a b c a' b' c':Value} (bk:w1.heap[g]? = some (.cells #[a',b',c'] 148 (0,0))) :
    (((w1.setCell ⟨g,0,none⟩ a).setCell ⟨g,1,none⟩ b).setCell ⟨g,2,none⟩ c).heap[g]? = some (.cells #[a,b,c] 148 (0,0)) ∧
    (Below B w w1 → B ≤ g → Below B w (((w1.setCell ⟨g,0,none⟩ a).setCell ⟨g,1,none⟩ b).setCell ⟨g,2,none⟩ c)) ∧
    (∀ v l base ok,Kd.R Kd.string 9 w1 base ok v l → Kd.R Kd.string 9 (((w1.setCell ⟨g,0,none⟩ a).setCell ⟨g,1,none⟩ b).setCell ⟨g,2,none⟩ c) base ok v l):=by
  have b1:=bU bk 0 a (cs':=#[a,b',c']) rfl
  have b2:=bU b1 1 b (cs':=#[a,b,c']) rfl
  have b3:=bU b2 2 c (cs':=#[a,b,c]) rfl
  refine ⟨b3,fun h hg=>((h.setCell hg _).setCell hg _).setCell hg _,fun v l base ok h=>?_⟩
  exact Kd.MP (Kd.MP (Kd.MP h bk (by decide) 0 a) b1 (by decide) 1 b) b2 (by decide) 2 c
theorem dh.facts {w1:World} {g:Nat} {a b c:Value} (bk:w1.heap[g]? = some (.cells #[a,b,c] 148 (0,0))) :
    (w1.cell? ⟨g,0,none⟩ = some a ∧ w1.cell? ⟨g,1,none⟩ = some b ∧ w1.cell? ⟨g,2,none⟩ = some c) ∧ w1.frozen? ⟨g,0,none⟩ = false ∧ w1.frozen? ⟨g,1,none⟩ = false ∧ w1.frozen? ⟨g,2,none⟩ = false :=
  ⟨⟨aM bk 0,aM bk 1,aM bk 2⟩,ay bk 0,ay bk 1,ay bk 2⟩
set_option maxHeartbeats 8000000 in
set_option maxRecDepth 100000 in
theorem dh.calls (k:Nat) (a0:Int) (a1:ByteArray) (r1 r2:ByteArray) (r3:List ByteArray) (r4:Bool) (w:World) (h:dh.f k a0 a1 = some (r1,r2,r3,r4)) :
    Calls Try.prog 112 #[.int .i64 a0,.string a1] w fun e w'=>∃ v2_:Value,e = .returned (.tuple #[.agg #[.string r1,.string r2,v2_],.bool r4]) ∧ Kd.R Kd.string 9 w' w.heap.size (fun _=>True) v2_ r3 ∧ Below w.heap.size w w':=by
  obtain ⟨c,hc,h'⟩:=zbm h
  clear h
  have HC:=aj.mk hc
  clear hc
  cases c with
  | false =>
    rw [if_neg Bool.false_ne_true] at h'
    cases h'
    go_enter Try.func112,Try.ntmps112
    go_wp2_with (first
      | (go_at_call 94;refine (iU.calls _ _ _ _ _ HC.out).mono ?_;rintro e w1 ⟨rfl,hd1⟩;have bk:=dO (ug w _) hd1;obtain ⟨⟨k0,k1,k2⟩,f0,f1,f2⟩:=dh.facts bk;have bk:=aj.mk bk;have hB1:=aj.mk ((ak (Below.refl w.heap.size w) _).trans (hd1.mono (by simp only [World.alloc,Array.size_push];omega)));clear hd1))
    refine bodyPost_ret (jV rfl _ _ w.heap.size 148 #[.string ⟨#[]⟩,.string ⟨#[]⟩,.slice none 0 0] (0,0) _ rfl (dh.three (w:=w) (B:=0) bk.out).1 Try.underlying148 rfl (by kernel_rfl)) rfl ?_
    exact ⟨_,rfl,Kd.jG _ _ _ _ _,(dh.three bk.out).2.1 hB1.out (Nat.le_refl _)⟩
  | true =>
    replace h':(match aD.zn a0 with | some s=>bV.f k a1 0 (a1.size:Int) s.1 s.2.1 s.2.2 | none=>some (a1,⟨#[]⟩,[],true)) = some (r1,r2,r3,r4):=h'
    cases hsh:aD.zn a0 with
    | none =>
      rw [hsh] at h'
      cases h'
      have hfn:Mi.sQ a0 bX.tab = none:=by rw [aD.xu,hsh];rfl
      go_enter Try.func112,Try.ntmps112
      go_wp2_with (first
        | (go_at_call 94;refine (iU.calls _ _ _ _ _ HC.out).mono ?_;rintro e w1 ⟨rfl,hd1⟩;have bk:=dO (ug w _) hd1;obtain ⟨⟨k0,k1,k2⟩,f0,f1,f2⟩:=dh.facts bk;have bk:=aj.mk bk;have hB1:=aj.mk ((ak (Below.refl w.heap.size w) _).trans (hd1.mono (by simp only [World.alloc,Array.size_push];omega)));clear hd1)
        | (go_at_call 120;refine (bX.calls _).mono ?_;rintro e w2 ⟨g,rfl,hin⟩;clear k0 k1 k2 f0 f1 f2;have hl:=Mi.look (P:=Try.prog) hin.at_ 159 3 157 Try.underlying159 Try.underlying3 _ (Try.zeroValue157 w2) a0;rw [hfn] at hl;replace hl:=show _ = Result.ok (Value.tuple #[.agg #[.int .i64 0,.int .i64 0,.int .i64 0],.bool false]) w2 from hl;have hB2:=aj.mk (hB1.out.trans (hin.N9.mono hB1.out.size));have bk:=aj.mk (aA (dO bk.out hin.N9) (.cells #[.int .i64 0,.int .i64 0,.int .i64 0] 157 (0,0)));obtain ⟨⟨k0,k1,k2⟩,f0,f1,f2⟩:=dh.facts bk.out;clear hin))
      refine bodyPost_ret (jV rfl _ _ w.heap.size 148 #[.string a1,.string ⟨#[]⟩,.slice none 0 0] (0,0) _ rfl (dh.three (w:=w) (B:=0) bk.out).1 Try.underlying148 rfl (by kernel_rfl)) rfl ?_
      exact ⟨_,rfl,Kd.jG _ _ _ _ _,(dh.three bk.out).2.1 (ak hB2.out _) (Nat.le_refl _)⟩
    | some s =>
      obtain ⟨s0,s1,s2⟩:=s
      rw [hsh] at h'
      have hp:=aj.mk (show bV.f k a1 0 (a1.size:Int) s0 s1 s2 = some (r1,r2,r3,r4) from h')
      clear h'
      have hfn:Mi.sQ a0 bX.tab = some (bX.agg s0 s1 s2):=by rw [aD.xu,hsh];rfl
      go_enter Try.func112,Try.ntmps112
      go_wp2_with (first
        | (go_at_call 94;refine (iU.calls _ _ _ _ _ HC.out).mono ?_;rintro e w1 ⟨rfl,hd1⟩;have bk:=dO (ug w _) hd1;obtain ⟨⟨k0,k1,k2⟩,f0,f1,f2⟩:=dh.facts bk;have bk:=aj.mk bk;have hB1:=aj.mk ((ak (Below.refl w.heap.size w) _).trans (hd1.mono (by simp only [World.alloc,Array.size_push];omega)));clear hd1)
        | (go_at_call 120;refine (bX.calls _).mono ?_;rintro e w2 ⟨g,rfl,hin⟩;clear k0 k1 k2 f0 f1 f2;have hl:=Mi.look (P:=Try.prog) hin.at_ 159 3 157 Try.underlying159 Try.underlying3 _ (Try.zeroValue157 w2) a0;rw [hfn] at hl;replace hl:=show _ = Result.ok (Value.tuple #[.agg #[.int .i64 s0,.int .i64 s1,.int .i64 s2],.bool true]) w2 from hl;have hB2:=aj.mk (hB1.out.trans (hin.N9.mono hB1.out.size));have bk:=aj.mk (aA (dO bk.out hin.N9) (.cells #[.int .i64 s0,.int .i64 s1,.int .i64 s2] 157 (0,0)));obtain ⟨⟨k0,k1,k2⟩,f0,f1,f2⟩:=dh.facts bk.out;clear hin)
        | (go_at_call 121;refine (bV.calls _ _ _ _ _ _ _ _ _ _ _ _ hp.out).mono ?_;rintro e w3 ⟨v,rfl,hv,hb3⟩;clear k0 k1 k2 f0 f1 f2;obtain ⟨vA,vn,vc,rfl⟩:=aD.slc hv;have hB3:=aj.mk ((ak hB2.out _).trans (hb3.mono (by have:=hB2.out.size;simp only [World.alloc,Array.size_push];omega)));have hv:=aj.mk (Kd.uh hv (by have:=hB2.out.size;simp only [World.alloc,Array.size_push];omega:w.heap.size ≤ _));have bk:=aj.mk (dO bk.out hb3);obtain ⟨⟨k0,k1,k2⟩,f0,f1,f2⟩:=dh.facts bk.out;clear hb3))
      refine bodyPost_ret (jV rfl _ _ w.heap.size 148 #[.string r1,.string r2,.slice vA vn vc] (0,0) _ rfl (dh.three (w:=w) (B:=0) bk.out).1 Try.underlying148 rfl (by kernel_rfl)) rfl ?_
      exact ⟨_,rfl,(dh.three (w:=w) (B:=0) bk.out).2.2 _ _ _ _ hv.out,(dh.three bk.out).2.1 hB3.out (Nat.le_refl _)⟩
def eO.all (k:Nat):List ByteArray → Option (List ByteArray)
  | []=>some []
  | x :: l=>(mJ.f k x).bind fun y=>(eO.all k l).bind fun m=>some (y :: m)
def eO.fin (p1 p2:ByteArray) (m:List ByteArray):Option ByteArray :=
  if p1.size + (strings_Join.cat m).size + p2.size ≤ 140737488355328 then (if m.length ≤ 1000000 then some (p1 ++ strings_Join.cat m ++ p2) else none) else none
def eO.f (k:Nat) (a0:Int) (a1:ByteArray):Option ByteArray :=
  (dh.f k a0 a1).bind fun p=>(eO.all k p.2.2.1).bind fun m=>eO.fin p.1 p.2.1 m
theorem eO.zo {k:Nat}:∀ {l m:List ByteArray},eO.all k l = some m → m.length = l.length
  | [],m,h=>by cases h;rfl
  | x :: l,m,h=>by
    rw [eO.all] at h
    obtain ⟨y,_,h⟩:=zbm h
    obtain ⟨m',h',h⟩:=zbm h
    cases h
    rw [List.length_cons,List.length_cons,eO.zo h']
set_option maxHeartbeats 8000000 in
set_option maxRecDepth 100000 in
theorem eO.calls (k:Nat) (a0:Int) (a1:ByteArray) (r:ByteArray) (w:World) (h:eO.f k a0 a1 = some r) :
    Calls Try.prog 95 #[.int .i64 a0,.string a1] w fun e w'=>e = .returned (.string r) ∧ Below w.heap.size w w':=by
  obtain ⟨⟨p1,p2,l,p4⟩,hp,h'⟩:=zbm h
  clear h
  obtain ⟨m,hm,h'⟩:=zbm h'
  replace hm:eO.all k l = some m:=hm
  replace h':eO.fin p1 p2 m = some r:=h'
  have hml:=eO.zo hm
  have HP:=aj.mk hp
  have HM:=aj.mk hm
  have HF:=aj.mk h'
  have HL:=aj.mk hml
  clear hp hm h' hml
  go_enter Try.func95,Try.ntmps95
  go_wp2_with (first
    | (go_at_call 112;refine (dh.calls _ _ _ _ _ _ _ _ HP.out).mono ?_;rintro e w1 ⟨v,rfl,hv,hb1⟩;obtain ⟨vA,vn,vc,rfl⟩:=aD.slc hv;obtain ⟨rfl,_,hcc⟩:=Kd.pU hv;have hmx:=aj.mk (Kd.ZF hcc);clear hcc;have hv2:=aj.mk (Kd.fu hv (.cells #[.string p1,.string p2,.slice vA l.length vc] 148 (0,0)));have hb2:=aj.mk (ak hb1 (.cells #[.string p1,.string p2,.slice vA l.length vc] 148 (0,0)));have bk2:=aj.mk (ug w1 (.cells #[.string p1,.string p2,.slice vA l.length vc] 148 (0,0)));have hge:=aj.mk hb1.size;clear hv hb1))
  generalize hw1:w1.alloc (.cells #[.string p1,.string p2,.slice vA l.length vc] 148 (0,0)) = w2 at *
  generalize hg:w1.heap.size = g at *
  clear hw1 hg
  go_loopw [18] (fun v18 wr=>∃ (j:Nat) (cur:List ByteArray),v18 = .int .i64 j ∧ j ≤ l.length ∧ aj (cur.length = l.length ∧ ∃ mm,eO.all k (cur.drop j) = some mm ∧ m = cur.take j ++ mm) ∧ aj (wr.heap[g]? = some (.cells #[.string p1,.string p2,.slice vA l.length vc] 148 (0,0))) ∧ aj (Kd.R Kd.string 9 wr w.heap.size (fun _=>True) (.slice vA l.length vc) cur) ∧ aj (Below w.heap.size w wr)) (fun v18 _=>l.length - (intOf v18).toNat)
  case atStart=>exact ⟨0,l,rfl,Nat.zero_le _,⟨rfl,m,HM.out,rfl⟩,bk2,hv2,hb2⟩
  case round =>
    clear HM hv2 hb2 bk2
    obtain ⟨j,cur,rfl,hj,hc,bk,hR,hB⟩:=hrel
    by_cases hlt:j < l.length
    · obtain ⟨hcl,mm,hmm,hmt⟩:=hc.out
      have hjc:j < cur.length:=by omega
      rw [List.drop_eq_getElem_cons hjc,eO.all] at hmm
      obtain ⟨y,hy,hmm⟩:=zbm hmm
      obtain ⟨m',hm',hmm⟩:=zbm hmm
      obtain rfl:mm = y :: m':=(Option.some.inj hmm).symm
      have hnew:=aj.mk (show (cur.set j y).length = l.length ∧ ∃ mm,eO.all k ((cur.set j y).drop (j + 1)) = some mm ∧ m = (cur.set j y).take (j + 1) ++ mm from by
        refine ⟨by rw [List.length_set];exact hcl,m',?_,?_⟩
        · rw [List.drop_set_of_lt (by omega)];exact hm'
        · have e:(cur.set j y).take (j + 1) = cur.take j ++ [y]:=by
            rw [List.take_succ_eq_append_getElem (by rw [List.length_set];exact hjc),List.getElem_set_self,List.take_set_of_le (Nat.le_refl j)]
          rw [hmt,e,List.append_assoc];rfl)
      obtain ⟨gr,cap,e0,_,_,cells,hcells⟩:=Kd.Vz hR.out (by omega)
      injection e0 with e1 e2 e3
      subst e1 e3
      have hne:=aj.mk (show g ≠ gr from Vv bk.out hcells (by decide))
      have hxc:=Kd.CG ByteArray.empty hR.out (j:Int) (by omega) (by omega)
      have hxe:pO ByteArray.empty cur (j:Int) = cur[j]:=by
        unfold pO
        rw [Int.toNat_natCast,List.getD_eq_getElem?_getD,List.getElem?_eq_getElem hjc]
        rfl
      rw [hxe,Int.toNat_natCast] at hxc
      have HY:=aj.mk hy
      have c0:=hxc.1
      have c1:=(dh.facts bk.out).1.2.2
      have hlt2:=aj.mk hlt
      have p0:(0 ≤ (j:Int)) = True:=eq_true (by omega)
      have q0:((j:Int) < (l.length:Int)) = True:=eq_true (by omega)
      generalize cur[j] = x at *
      clear hmm hm' hmt hy hxe hxc hcells hc e2 hlt hjc hcl
      go_wp2
      go_region_with (first | (go_at_call 92;refine (mJ.calls _ _ _ _ HY.out).mono ?_;rintro e w3 ⟨rfl,hb3⟩;have bk3:=dO (aI bk.out) hb3;have XD:=Kd.kE (Kd.fU hR.out) hb3;have hB3:=aj.mk ((jq hB.out).trans (hb3.mono hB.out.size));have d0:=(Kd.CG ByteArray.empty XD (j:Int) (by omega) (by have:=hlt2.out;omega)).1;have d1:=(Kd.CG ByteArray.empty XD (j:Int) (by omega) (by have:=hlt2.out;omega)).2;rw [Int.toNat_natCast] at d0 d1;have d2:=(dh.facts bk3).1.2.2;have bk3:=aj.mk bk3;have XD:=aj.mk XD;clear hb3))
      all_goals
        have hfin:=Kd.VB XD.out (j:Int) y
        rw [Int.toNat_natCast] at hfin
        have bk4:=aj.mk (nZ (p:=⟨gr,j,none⟩) bk3.out hne.out (.string y))
        have hR4:=aj.mk hfin.1
        have hB4:=aj.mk (hB3.out.grown hfin.2 hB3.out.size (fun k e=>by cases e;exact Kd.Vy XD.out gr rfl))
        clear hfin
        generalize w3.setCell ⟨gr,j,none⟩ (.string y) = w4 at *
        clear c0 c1 d0 d1 d2 p0 q0
        have hw:=(show wrap64 ((j:Int) + 1) = ((j + 1:Nat):Int) from by have hlt:=hlt2.out;have hm9:=hmx.out;rw [B.dQ (by omega) (by omega)];omega)
        have hw:=aj.mk hw
        go_wp2
        go_roundw
        case rel=>have hlt:=hlt2.out;have hm9:=hmx.out;exact ⟨j + 1,cur.set j y,by rw [hw.out],hlt2.out,hnew,bk4,hR4,hB4⟩
        case measure=>have hlt:=hlt2.out;have hm9:=hmx.out;rw [hw.out];simp only [intOf];omega
    · obtain rfl:j = l.length:=by omega
      have hcm:m = cur:=by
        obtain ⟨hcl,mm,hmm,hmt⟩:=hc.out
        rw [← hcl,List.drop_length] at hmm
        cases hmm
        rw [hmt,← hcl,List.take_length,List.append_nil]
      subst hcm
      have q0:((l.length:Int) < (l.length:Int)) = False:=eq_false (by omega)
      obtain ⟨⟨k0,k1,k2⟩,_,_,_⟩:=dh.facts bk.out
      have hF:=HF.out
      unfold eO.fin at hF
      by_cases z1:p1.size + (strings_Join.cat m).size + p2.size ≤ 140737488355328
      · rw [if_pos z1] at hF
        by_cases z2:m.length ≤ 1000000
        · rw [if_pos z2] at hF
          obtain rfl:=Option.some.inj hF
          have z1:=aj.mk z1
          have z2:=aj.mk z2
          clear hF HF
          go_wp2_with (first
            | (go_at_call 113;refine (iJ.calls _ _ _ m _ _ _ hR.out z2.out z1.out).mono ?_;rintro e w4 ⟨rfl,hb4⟩;have hB4:=aj.mk (hB.out.trans (hb4.mono hB.out.size));clear hb4))
          go_ret
          exact ⟨rfl,hB4.out⟩
        · rw [if_neg z2] at hF;cases hF
      · rw [if_neg z1] at hF;cases hF
end Go.Proofs.Ytdkkgecdhapfhaa.ZQ
namespace Go.Proofs.Ytdkkgecdhapfhaa.ZQ
open Go.RowKit Go.Proofs.YtdkkgecdhapfhaaW.bD Go.Proofs.YtdkkgecdhapfhaaW.dL Go.Proofs.YtdkkgecdhapfhaaW.eP
attribute [local go_sem] jv jw kF kG iG iH jy jA
theorem VZ (d:Nat) (w:World) (x0 y0:Int) (x1 y1:Int) (x2 y2:Int) :
    (Op.equalIn (d + 2) 142 (.agg #[.int .i64 x0,.int .i64 x1,.int .i64 x2]) (.agg #[.int .i64 y0,.int .i64 y1,.int .i64 y2])).run Try.prog w = .ok (x0 == y0 && (x1 == y1 && (x2 == y2))) w:=by
  refine B.M0 Try.underlying142 (by kernel_rfl) (by kernel_rfl) ?_
  show (Op.eqItems _ 3 1 _ _ [0,1,2]).run _ _ = _
  refine B.EJ (by go_simp;rfl) (by go_simp;rfl) (by go_simp) ?_
  refine B.EJ (by go_simp;rfl) (by go_simp;rfl) (by go_simp) ?_
  exact B.MZ (by go_simp;rfl) (by go_simp;rfl) (by go_simp)
end Go.Proofs.Ytdkkgecdhapfhaa.ZQ

/- A part of the proof of SeekStill: cut, joined and given short names by a program of this session (wip/tools/pack.py); Lean checks it. No condition. -/
import Derived.Test.YtfokaoeinpnagaaGreatPSSlld
import Derived.Carry
import Derived.Laws.Cover3
import Derived.WalkSpells
import Derived.Laws.BytesString
import Derived.Lib.SliceRun
import Derived.Lib.BufferMore
import Derived.Laws.StructEq
import Derived.Laws.Pointers
import Derived.Calls
set_option linter.unusedSectionVars false
set_option linter.unusedSimpArgs false
set_option linter.unusedVariables false
set_option maxHeartbeats 16000000
set_option maxRecDepth 100000
namespace Go.Proofs.YtfokaoeinpnagaaGreat.Ev
section
open Go
section
variable {P : Program} {Γ:Env} {aV Fz bg:Nat → Prop} {w0 w w':World} {aU:List Nat} {N:Fr} {d:Nat} {q:Bool} {κ eF:Nat → Value} {σ σ1 σ':St} {a:Act} {pv:PV} {o:Oper}
theorem kR (cells:Array Value) (hn:0 < cells.size):∀ (len:Nat),(List.range (len * cells.size)).map (fun j=>cells[j % cells.size]!) = (List.replicate len cells.toList).flatten
 | 0=>by simp
 | len + 1=>by
  have ih:=kR cells hn len
  rw [aiN,Nat.add_comm,List.range_add,ajq,List.map_map,List.replicate_succ,List.flatten_cons]
  congr 1
  ·refine List.ext_getElem (by simp) fun j h1 h2=>?_
   have hj:j < cells.size:=by simpa using h2
   simp [Nat.mod_eq_of_lt hj,hj]
  ·rw [← ih]
   refine List.map_congr_left fun j _=>?_
   simp [Nat.add_mod_left]
theorem aM.app : ∀ {xs ys:List PL} {us vs:List Value},aM Fz κ w xs us → aM Fz κ w ys vs → aM Fz κ w (xs ++ ys) (us ++ vs):=by
 intro xs
 induction xs with
 | nil=>intro ys us vs h h';cases us with | nil=>exact h' | cons _ _=>exact h.elim
 | cons x xs ih=>intro ys us vs h h';cases us with | nil=>exact h.elim | cons u us=>exact ⟨h.1,ih h.2 h'⟩
theorem aM.KC {xs:List PL} {us:List Value} (h:aM Fz κ w xs us):∀ (n:Nat),aM Fz κ w (List.replicate n xs).flatten (List.replicate n us).flatten
 | 0=>trivial
 | n + 1=>by rw [List.replicate_succ,List.replicate_succ,List.flatten_cons,List.flatten_cons];exact h.app (h.KC n)
theorem OU {t e:TypeId} {len:Nat} {parts:Array (Nat × Value)} {cells:Array Value} {ie:TypeInfo} {z:Value} (hu:P.underlying t = some (.slice e)) (hie:P.info? e = some ie) (hz:ie.zero = some z) (hsmall:¬ len * ie.size > 2 ^ 24)
  (h:Instr.fill (fun i=>some (i * ie.size,ie.size)) ((Array.range (len * ie.size)).map (z.cells[· % z.cells.size]!)) parts.toList = some cells) :
  (Instr.buildSlice t len parts).run P w = .ok (.slice (some ⟨w.heap.size,0,none⟩) len len) (w.alloc (.cells cells e)):=by
 by_cases hpos:len * ie.size = 0
 ·rw [hpos] at h
  have e0:∀ (x:Array Value),(Array.range 0).map (fun j=>x[j % x.size]!) = (#[]:Array Value):=fun x=>by simp
  rw [e0] at h
  have e1:((Array.range (len * ie.size)).map (fun j=>(#[]:Array Value)[j % (#[]:Array Value).size]!)) = (#[]:Array Value):=by rw [hpos];simp
  unfold Instr.buildSlice
  simp only [Sem.run_bind,run_underlying hu,sizeOf,typeInfo,Result.andThen_ok]
  have e2:Array.map (fun (x:Nat)=>(default:Value)) (Array.range 0) = #[]:=by simp
  simp [hie,hpos,newRow]
  rw [e2,h]
  rfl
 ·exact run_buildSlice w t e len parts cells ie z hu hie hz hsmall hpos h
theorem R9 (h:Rel aV w0 aU N Fz κ σ a w) {t e:TypeId} {len sz:Nat} {ps:Array (Nat × Operand)} {z:List PL} {l:List (Nat × Nat × dF)} (hu:P.underlying t = some (.slice e)) (hn:kC P e = some sz) (hs:¬ (sz = 0 ∨ len * sz > 16777216)) (hz:zF P e = some z) (hzl:z.length = sz) (hp:nL sz ps.toList = some l)
  (hE:bW Γ q σ d (.wh e sz len (List.replicate len z).flatten l) = some (pv,σ')) :
  Does P aV w0 aU N q d Fz κ σ a w (do let v ← Instr.buildSlice t len (ps.map fun (i,x)=>(i,a.eval x));Pure.pure (.value v)) σ' pv:=by
 obtain ⟨vs,h1,h2⟩:=zbm hE
 obtain ⟨z',h3,h4⟩:=zbm h2
 split at h4
 ·cases h4
 ·rename_i hq
  obtain ⟨p,h5,h6⟩:=zbm h4
  obtain ⟨s,h7,h8⟩:=zmm h6
  cases h8
  obtain ⟨i,zv,e1,e2,e3⟩:=uq (Fz:=Fz) (κ:=κ) (w:=w) hz
  have hsz:i.size = sz:=by unfold kC at hn;rw [e1] at hn;simpa using hn
  have hlz:=e3.length
  rw [Array.length_toList,hzl] at hlz
  have hzs:zv.cells.size = sz:=by omega
  have hb:aM Fz κ w (List.replicate len z).flatten ((Array.range (len * i.size)).map (zv.cells[· % zv.cells.size]!)).toList:=by
   rw [aje,Array.toList_range,hsz,← hzs,kR zv.cells (by omega) len]
   exact e3.KC len
  obtain ⟨cs',e6,e7,e8⟩:=mI h (place:=fun i=>some (i * sz,sz)) (ps:=ps.toList) (fun _=>trivial) (pU hp) h1 h3 hb
  have hcs:cs'.size = len * sz:=by rw [e8];simp [hsz]
  obtain ⟨bg,g1,g2,g3,g4,g5⟩:=h.OT e7 hq h5
  obtain ⟨a1,a2,a3⟩:=lM w (.cells cs' e (0,0))
  have hlen:p.1.length = len * sz:=by have:=g3.len;rw [Array.length_toList] at this;omega
  have hrun:=OU (P:=P) (w:=w) (t:=t) (e:=e) (len:=len) (parts:=ps.map fun (i,x)=>(i,a.eval x)) (cells:=cs') hu e1 e2 (by rw [hsz];omega) (by rw [aje];rw [hsz] at e6 ⊢;exact e6)
  refine Does.after g2 g4 g5 ⟨_,_,_,_,_,by rw [Sem.run_bind,hrun];rfl,.inl rfl,Good.new (pl:=.own (dw d) len) g1 h7 (by omega) a2 (fun b hb=>by cases hb;exact ⟨ah1 _,by show w.heap.size < _;omega⟩) ⟨rfl,rfl⟩ ?_ ⟨by rw [bL],_,_,rfl⟩⟩
  refine ⟨by omega,e,cs'.toList,some ⟨w.heap.size,0,none⟩,len,by rw [bL,qU],?_,dX.mono (fun _ h=>h) (fun b hb=>a2 b (g1.fz b hb).1) sz _ _ (zL g3 hlen)⟩
  rw [bL,qU]
  have hle:len ≤ len * sz:=Nat.le_mul_of_pos_right _ (by omega)
  refine ⟨by rw [Array.length_toList];exact hcs,.inr ⟨w.heap.size,len,cs',rfl,aiy _,a1,ah1 _,by simp only [maxLen];omega,hcs,?_⟩⟩
  rw [ajB]
  rw [Array.length_toList];omega
theorem Yv (h:Rel aV w0 aU N Fz κ σ a w) {t e:TypeId} {len sz:Nat} {ps:Array (Nat × Operand)} {z:List PL} {l:List (Nat × Nat × dF)} (hu:P.underlying t = some (.slice e)) (hn:kC P e = some sz) (hs:¬ (sz = 0 ∨ len * sz > 16777216)) (hz:zF P e = some z) (hzl:z.length = sz) (hp:nL sz ps.toList = some l)
  (hE:bW Γ q σ d (.Oo e sz len (List.replicate len z).flatten l) = some (pv,σ')) :
  Does P aV w0 aU N q d Fz κ σ a w (do let v ← Instr.buildSlice t len (ps.map fun (i,x)=>(i,a.eval x));Pure.pure (.value v)) σ' pv:=by
 obtain ⟨⟨pv1,σ1⟩,hE1,h2⟩:=zbm hE
 obtain ⟨r,w',eF,bg,v,g1,g2,g3⟩:=R9 (Γ:=Γ) (q:=q) (d:=d) h hu hn hs hz hzl hp hE1
 simp only at h2
 unfold CZ at h2
 split at h2
 ·rename_i x s
  obtain ⟨y,h3,h4⟩:=zmm h2
  cases h4
  obtain ⟨F2,k1,k2,k3⟩:=g3.rel.uU g3.val h3
  exact ⟨r,w',eF,F2,v,g1,g2,⟨k1,k3,fun b hb=>k2 b (g3.f1 b hb),g3.e6⟩⟩
 ·cases h2
theorem Kp.setRow (w:World) (b:Nat) (c:Array Value):Kp w (w.setRow b c):=⟨rfl,rfl⟩
theorem Good.set (h:Rel aV w0 aU N Fz κ σ a w) {key:Nat} {o o':Ob} (hk:get σ.ob key = some o) (hs:w.heap.size ≤ w'.heap.size) (hb:∀ b,b < w.heap.size → blk (κ key) ≠ some b → w'.heap[b]? = w.heap[b]?)
  (hkp:Kp w w') (ho:gZ 0 Fz κ w' key o') {v:Value} (hv:gW Fz κ w' pv v):Good aV w0 aU N q d Fz κ σ a w Fz κ (iY σ key o') w' pv v where
 rel:=h.set hk hs hb hkp ho
 val:=hv
 f1:=fun _ h=>h
 e6:=fun _ _=>rfl
theorem uX {t:TypeId} {n g off:Nat} {cur:Array Value} {e:TypeId} {v:Value} (hn:kC P t = some n) (hv:v.cells.toList.length = n) (h1:∀ u ∈ v.cells.toList,u.oneCell' = true) (hg:w.heap[g]? = some (.cells cur e (0,0))) (hl:off + n ≤ cur.size) :
  (Instr.storeAt t (.pointer (some ⟨g,off,none⟩)) v).run P w = .ok () (w.setRow g (cur.toList.take off ++ v.cells.toList ++ cur.toList.drop (off + v.cells.toList.length)).toArray):=by
 have:=run_storeCells_at P g off e v.cells.toList 0 cur w hg (by omega) h1
 rw [Nat.add_zero] at this
 have hs:(Instr.sureAddr (.pointer (some ⟨g,off,none⟩))).run P w = .ok ⟨g,off,none⟩ w:=rfl
 unfold Instr.storeAt storeVar
 rw [Array.length_toList] at hv
 simp only [Sem.run_bind,hs,Result.andThen_ok,lY hn]
 rw [ahY (by omega)]
 exact this
theorem OV (h:Rel aV w0 aU N Fz κ σ a w) {t:TypeId} {n:Nat} {x y:Operand} {x' y':dF} (hn:kC P t = some n) (hx:eY x = some x') (hy:eY y = some y') (hE:bW Γ q σ d (.store n x' y') = some (pv,σ')) :
  Does P aV w0 aU N q d Fz κ σ a w (do Instr.storeAt t (a.eval x) (a.eval y);Pure.pure .skip) σ' pv:=by
 obtain ⟨v,h1,h2⟩:=zbm hE
 obtain ⟨u,h3,h4⟩:=zbm h2
 have hv:=h.eval hx h1
 split at h4
 ·rename_i hc
  obtain ⟨e1,e2⟩:=(h.eval hy h3).cells hc.2
  have hlen:=e1.length
  rw [hc.1] at hlen
  split at h4
  ·rename_i key off
   split at h4
   ·rename_i xs fK
    obtain ⟨l,h5,h6⟩:=zmm h4
    cases h6
    obtain ⟨b,e3,e4⟩:=hv
    obtain ⟨b',cs,e,e5,e6,e7⟩:=h.obj fK
    rw [e3] at e5
    cases e5
    obtain ⟨e8,e9⟩:=e7.lay e1 h5
    have hrun:=uX (P:=P) hn hlen e2 e6 (off:=off) (by rw [Array.length_toList (xs:=cs)] at e9;omega)
    refine ⟨.skip,w.setRow b _,κ,Fz,undef,by rw [e4,Sem.run_bind,hrun];rfl,.inr ⟨rfl,rfl⟩,Good.set h fK (by simp) (fun k _ hk=>setRow_other w b k _ (fun e=>hk (by rw [e3,e];rfl))) (Kp.setRow _ _ _) ?_ rfl⟩
    refine ⟨b,_,e,e3,setRow_heap w b cs _ e _ e6,?_⟩
    exact aM.mono (fun _ h=>h) (fun k hk=>setRow_other w b k _ (fun e=>(h.pos _ (get_mem fK) b (by rw [e3];rfl)).1 (e ▸ hk))) _ (fun _ _=>rfl) _ e8
   ·cases h4
  ·rename_i key z i off
   split at h4
   ·cases h4
   ·rename_i hq
    obtain ⟨p,h5,h6⟩:=zbm h4
    obtain ⟨bg,g1,g2,g3,g4,g5⟩:=h.OT e1 hq h5
    split at h6
    ·rename_i sz rows fK
     split at h6
     ·cases h6
     ·rename_i hz
      have hz':sz = z:=aiJ.mp hz
      subst hz'
      obtain ⟨r,h7,h8⟩:=zbm h6
      obtain ⟨l,h9,h10⟩:=zmm h8
      cases h10
      refine Does.after g2 g4 g5 ?_
      obtain ⟨b,n',c,e3,e4⟩:=hv
      obtain ⟨o0,e,inner,A,c',o1,⟨o2,o3⟩,o4⟩:=g1.obj fK
      obtain ⟨r1,r2,r3⟩:=o4.set g3 h7 h9
      rcases o3 with ⟨o3,o5⟩ | ⟨g,cap,cur,o3,o5,o6,o7,o8,o9,o10⟩
      ·rw [o3] at e3;cases e3
      ·rw [o3] at e3
       injection e3 with q1 q2 q3
       injection q1 with q1
       injection q1 with q1
       subst q1
       have hci:inner.length ≤ cur.toList.length:=by rw [← o10,aia];exact Nat.min_le_right _ _
       have hm:(i + 1) * sz = i * sz + sz:=aiN i sz
       rw [hm] at r3
       have hrun:=uX (P:=P) hn hlen e2 o6 (off:=i * sz + off) (by rw [Array.length_toList (xs:=cur)] at hci;omega)
       have hpos:=(g1.pos _ (get_mem fK) g (by show blk (κ key) = _;rw [o3];rfl)).1
       have hmv:∀ k,bg k → (w.setRow g (cur.toList.take (i * sz + off) ++ (a.eval y).cells.toList ++ cur.toList.drop (i * sz + off + (a.eval y).cells.toList.length)).toArray).heap[k]? = w.heap[k]?:=fun k hk=>setRow_other w g k _ (fun e=>hpos (e ▸ hk))
       refine ⟨.skip,_,κ,bg,undef,by rw [e4,Sem.run_bind,hrun];rfl,.inr ⟨rfl,rfl⟩,Good.set g1 fK (by simp) (fun k _ hk=>setRow_other w g k _ (fun e=>hk (by rw [o3,e];rfl))) (Kp.setRow _ _ _) ?_ rfl⟩
       have hle:i * sz + off + (a.eval y).cells.toList.length ≤ inner.length:=by omega
       have hn2:=o2
       refine ⟨o0,e,_,A,c',by rw [ajA];exact o1,?_,dX.mono (fun _ h=>h) hmv sz _ _ r1⟩
       rw [ajA]
       refine ⟨by simp only [ah7,aia,aiv];omega,.inr ⟨g,cap,_,o3,o5,setRow_heap w g cur _ e _ o6,o7,o8,?_,?_⟩⟩
       ·simp only [List.size_toArray,ah7,aia,aiv,Array.length_toList] at *
        omega
       ·refine ai4 fun j=>?_
        have e5:i * sz + off + (a.eval y).cells.toList.length ≤ cur.toList.length:=by omega
        rw [aiI,gF e5,gF hle]
        have hin:∀ j,j < rows.length * sz → inner[j]? = cur.toList[j]?:=fun j hj=>by rw [← o10,aiI,ahX hj]
        by_cases hj:j < rows.length * sz
        ·rw [ahX hj,hin j hj]
        ·rw [ahY hj]
         rw [ahY (by omega),ahY (by omega)]
         exact (ajm (by omega)).symm
    ·cases h6
  ·cases h4
 ·cases h4
end
end
section
open Go
section
variable {P : Program} {Γ:Env} {aV Fz bg:Nat → Prop} {w0 w w':World} {aU:List Nat} {N:Fr} {d:Nat} {q:Bool} {κ eF:Nat → Value} {σ σ1 σ':St} {a:Act} {pv:PV} {o:Oper}
theorem dX.all {sz:Nat}:∀ {rows:List (List FV)} {vs:List Value},dX Fz w sz rows vs → rows.all (fun r=>r.length == sz) = true
 | [],_,_=>rfl
 | r :: rs,vs,h=>by rw [List.all_cons,dX.all h.2.2,h.1];simp
theorem Yw (h:Rel aV w0 aU N Fz κ σ a w) {t e:TypeId} {sz:Nat} {x:Operand} {lo hi:Option Operand} {x':dF} {lo' hi':Option dF} (hu:P.underlying t = some (.slice e)) (hn:kC P e = some sz) (hx:eY x = some x') (hlo:wR lo = some lo') (hhi:wR hi = some hi') (hE:bW Γ q σ d (.cut sz x' lo' hi') = some (pv,σ')) :
  Does P aV w0 aU N q d Fz κ σ a w (do let v ← Instr.sliceAt t (a.eval x) (lo.map a.eval) (hi.map a.eval) none;Pure.pure (.value v)) σ' pv:=by
 obtain ⟨v,h1,h2⟩:=zbm hE
 have hv:=h.eval hx h1
 split at h2
 ·rename_i rows
  split at h2
  ·cases h2
  ·rename_i hall
   obtain ⟨p,h3,h4⟩:=zbm h2
   cases h4
   obtain ⟨A,c,e1,e2,e2',e3⟩:=(show ∃ A c,a.eval x = .slice A rows.length c ∧ rows.length ≤ c ∧ rows.length ≤ 9223372036854775807 ∧ (rows = [] ∨ ∃ b o sz,A = some ⟨b,o,none⟩ ∧ Fz b ∧ cO Fz w sz b o rows) by simpa only [fJ,dW,eO] using hv)
   obtain ⟨f1,f2,f3⟩:=Bj (P:=P) h hlo hhi h3
   have hrun:=oM (P:=P) (A:=A) hu hn (f3 true c e2)
   refine Does.pure h (v:=_) (by rw [e1];exact hrun) ?_
   exact Bl e2 e2' e3 (by simpa using hall) f1 f2
 ·obtain ⟨p,h3,h4⟩:=zbm h2
  cases h4
  obtain ⟨f1,f2,f3⟩:=Bj (P:=P) h hlo hhi h3
  have hrun:=oM (P:=P) (A:=none) hu hn (f3 true 0 (ah1 _))
  refine Does.pure h (v:=_) (by rw [show a.eval x = .slice none 0 0 from hv];exact hrun) ?_
  have:=Bl (Fz:=Fz) (w:=w) (sz:=sz) (rows:=[]) (A:=none) (c:=0) (l:=p.1) (r:=p.2) (ah1 _) (by simp) (.inl rfl) rfl f1 f2
  show eO Fz w (.sl []) _
  simpa using this
 ·rename_i key n
  split at h2
  ·rename_i sz' rows fK
   split at h2
   ·cases h2
   ·rename_i hsz
    have hsz':sz' = sz:=aiJ.mp hsz
    subst hsz'
    obtain ⟨p,h3,h4⟩:=zbm h2
    split at h4
    ·cases h4
    ·rename_i hq
     obtain ⟨s,h5,h6⟩:=zbm h4
     cases h6
     obtain ⟨f1,f2,f3⟩:=Bj (P:=P) h hlo hhi h3
     have hall:rows.all (fun r=>r.length == sz') = true:=by obtain ⟨_,_,inner,_,_,_,_,o4⟩:=h.obj fK;exact o4.all
     obtain ⟨bg,g1,g2,g3⟩:=h.yT fK h5
     obtain ⟨A,c,e1,e2,e2',e3⟩:=(show ∃ A c,κ key = .slice A rows.length c ∧ rows.length ≤ c ∧ rows.length ≤ 9223372036854775807 ∧ (rows = [] ∨ ∃ b o sz,A = some ⟨b,o,none⟩ ∧ bg b ∧ cO bg w sz b o rows) by simpa only [eO] using g3)
     have hrun:=oM (P:=P) (A:=A) hu hn (f3 true c e2)
     have hk:∀ p ∈ σ'.ob,∃ p' ∈ σ.ob,p'.1 = p.1:=(Dg (σ:=σ) (x:=.own key n) (y:=.sl rows) (by simp only [Ev.uU,fK,h5,Option.map_some])).1
     refine Does.after g2 (fun Yx=>absurd Yx hq) hk (Does.pure g1 (v:=_) (by rw [show a.eval x = κ key from hv.1,e1];exact hrun) ?_)
     exact Bl e2 e2' e3 hall f1 f2
  ·cases h2
 ·cases h2
theorem OW (h:Rel aV w0 aU N Fz κ σ a w) {t:TypeId} {sh:KS} (hE:bW Γ q σ d (.oJ sh) = some (pv,σ')):Does P aV w0 aU N q d Fz κ σ a w (do let v ← Instr.makeMap t none;Pure.pure (.value v)) σ' pv:=by
 obtain ⟨s,h1,h2⟩:=zmm hE
 cases h2
 obtain ⟨a1,a2,a3⟩:=lM w (.map #[] 0)
 refine ⟨_,_,_,_,_,by rw [Sem.run_bind,show (Instr.makeMap t none).run P w = .ok (.map (some w.heap.size)) (w.alloc (.map #[] 0)) from rfl];rfl,.inl rfl,Good.new (pl:=.mp (dw d)) h h1 (by omega) a2 (fun b hb=>by cases hb;exact ⟨ah1 _,by show w.heap.size < _;omega⟩) ⟨rfl,rfl⟩ ⟨w.heap.size,by rw [bL],[],Mq.At.made w,trivial,by simp⟩ ⟨by rw [bL],_,rfl⟩⟩
theorem gY.keys : ∀ {l:List (KV × FC)} {m:List (KV × Value)},gY Fz w l m → l.map (·.1) = m.map (·.1)
 | [],[],_=>rfl
 | p :: l,r :: m,h=>by rw [ah8,ah8,h.1,gY.keys h.2.2]
 | [],_ :: _,h=>h.elim
 | _ :: _,[],h=>h.elim
theorem gY.idx {l:List (KV × FC)} {m:List (KV × Value)} (h:gY Fz w l m) (k:KV):wI l k = Mq.idx m k:=by unfold wI Mq.idx;rw [h.keys]
theorem gY.at : ∀ {l:List (KV × FC)} {m:List (KV × Value)} {i:Nat},gY Fz w l m → (∀ p,l[i]? = some p → ∃ r,m[i]? = some r ∧ p.1 = r.1 ∧ kX Fz w p.2 r.2) ∧ (l[i]? = none → m[i]? = none)
 | [],[],i,_=>⟨fun p h=>by simp at h,fun _=>by simp⟩
 | p :: l,r :: m,0,h=>⟨fun q hq=>by cases hq;exact ⟨r,rfl,h.1,h.2.1⟩,fun hn=>by simp at hn⟩
 | p :: l,r :: m,i + 1,h=>by simpa using gY.at (i:=i) h.2.2
 | [],_ :: _,_,h=>h.elim
 | _ :: _,[],_,h=>h.elim
theorem gY.rO {l:List (KV × FC)} {m:List (KV × Value)} (h:gY Fz w l m) (k:KV):(∀ x,rz l k = some x → ∃ v,Mq.rO m k = some v ∧ kX Fz w x v) ∧ (rz l k = none → Mq.rO m k = none):=by
 unfold rz Mq.rO
 rw [h.idx k]
 cases Mq.idx m k with
 | none=>exact ⟨fun x hx=>by simp at hx,fun _=>rfl⟩
 | some i =>
  simp only [Option.bind_some]
  refine ⟨fun x hx=>?_,fun hx=>?_⟩
  ·obtain ⟨p,hp,rfl⟩:=zmm hx
   obtain ⟨r,h1,h2,h3⟩:=(h.at (i:=i)).1 p hp
   exact ⟨r.2,by rw [h1];rfl,h3⟩
  ·rw [Option.map_eq_none_iff] at hx
   rw [(h.at (i:=i)).2 hx];rfl
theorem gY.setAt {k:KV} {x:FC} {v:Value} (hv:kX Fz w x v):∀ {l:List (KV × FC)} {m:List (KV × Value)} {i:Nat},gY Fz w l m → gY Fz w (l.set i (k,x)) (m.set i (k,v))
 | [],[],_,_=>trivial
 | p :: l,r :: m,0,h=>⟨rfl,hv,h.2.2⟩
 | p :: l,r :: m,i + 1,h=>⟨h.1,h.2.1,gY.setAt hv h.2.2⟩
 | [],_ :: _,_,h=>h.elim
 | _ :: _,[],_,h=>h.elim
theorem gY.push {k:KV} {x:FC} {v:Value} (hv:kX Fz w x v):∀ {l:List (KV × FC)} {m:List (KV × Value)},gY Fz w l m → gY Fz w (l ++ [(k,x)]) (m ++ [(k,v)])
 | [],[],_=>⟨rfl,hv,trivial⟩
 | p :: l,r :: m,h=>⟨h.1,h.2.1,gY.push hv h.2.2⟩
 | [],_ :: _,h=>h.elim
 | _ :: _,[],h=>h.elim
theorem gY.erase : ∀ {l:List (KV × FC)} {m:List (KV × Value)} {i:Nat},gY Fz w l m → gY Fz w (l.eraseIdx i) (m.eraseIdx i)
 | [],[],_,_=>trivial
 | p :: l,r :: m,0,h=>h.2.2
 | p :: l,r :: m,i + 1,h=>⟨h.1,h.2.1,gY.erase h.2.2⟩
 | [],_ :: _,_,h=>h.elim
 | _ :: _,[],_,h=>h.elim
theorem gY.upd {l:List (KV × FC)} {m:List (KV × Value)} (h:gY Fz w l m) {k:KV} {x:FC} {v:Value} (hv:kX Fz w x v):gY Fz w (wJ l k x) (Mq.upd m k v):=by
 unfold wJ Mq.upd
 rw [h.idx k]
 cases Mq.idx m k with
 | none=>exact h.push hv
 | some i=>exact h.setAt hv
theorem gY.del {l:List (KV × FC)} {m:List (KV × Value)} (h:gY Fz w l m) {k:KV}:gY Fz w (AY l k) (Mq.del m k):=by
 unfold AY Mq.del
 rw [h.idx k]
 cases Mq.idx m k with
 | none=>exact h
 | some i=>exact h.erase
theorem KD {m:List (KV × Value)} {k:KV} {v:Value} {sh:KS} (hm:∀ p ∈ m,p.1.ks = sh) (hk:k.ks = sh):∀ p ∈ Mq.upd m k v,p.1.ks = sh:=by
 unfold Mq.upd
 split
 ·intro p hp
  rcases List.mem_or_eq_of_mem_set hp with h | h
  ·exact hm p h
  ·subst h;exact hk
 ·intro p hp
  rcases air.mp hp with h | h
  ·exact hm p h
  ·simp at h;subst h;exact hk
theorem KE {m:List (KV × Value)} {k:KV} {sh:KS} (hm:∀ p ∈ m,p.1.ks = sh):∀ p ∈ Mq.del m k,p.1.ks = sh:=by
 unfold Mq.del
 split
 ·exact fun p hp=>hm p (List.mem_of_mem_eraseIdx hp)
 ·exact hm
theorem kX.toC {x:FC} {v:Value} (h:kX Fz w x v):fJ Fz κ w (wK x) v:=by
 cases x with
 | one x=>exact h
 | agg xs =>
  obtain ⟨cs,rfl,h⟩:=h
  exact ⟨cs,rfl,h.Xf⟩
theorem zM {x:PL} {y:FV} {v:Value} (h:Bd x = some y) (hx:dW Fz κ w x v):eO Fz w y v:=by
 cases x <;> simp only [Bd] at h <;> cases h
 ·exact hx
 ·simp only [eO];exact ⟨none,0,hx,ah1 _,by simp,.inl trivial⟩
theorem qV : ∀ {xs:List PL} {ys:List FV} {vs:List Value},pR xs = some ys → aM Fz κ w xs vs → bX Fz w ys vs
 | [],ys,vs,h,hx=>by cases h;cases vs with | nil=>trivial | cons _ _=>exact hx.elim
 | x :: xs,ys,vs,h,hx=>by
  unfold pR at h
  obtain ⟨y,h1,h2⟩:=zbm h
  obtain ⟨l,h3,rfl⟩:=zmm h2
  cases vs with
  | nil=>exact hx.elim
  | cons v vs=>exact ⟨zM h1 hx.1,qV h3 hx.2⟩
theorem OX {e:TypeId} {z:FC} (h:Ui P e = some z):∃ v,(zeroValue e).run P w = .ok v w ∧ kX Fz w z v:=by
 obtain ⟨i,h1,h2⟩:=zbm h
 obtain ⟨v,h3,h4⟩:=zbm h2
 refine ⟨v,by simp [zeroValue,typeInfo,h1,h3],?_⟩
 split at h4
 ·rename_i cs
  obtain ⟨l,h5,rfl⟩:=zmm h4
  obtain ⟨xs,h6,h7⟩:=zbm h5
  exact ⟨cs,rfl,qV (κ:=fun _=>undef) h7 (lW h6)⟩
 ·obtain ⟨l,h5,rfl⟩:=zmm h4
  obtain ⟨x,h6,h7⟩:=zbm h5
  exact zM (κ:=fun _=>undef) h7 (um h6)
theorem rY {t k e:TypeId} (h:y9 P t = some (k,e)):P.underlying t = some (.map k e):=by
 unfold y9 at h
 split at h
 ·rename_i hu;cases h;exact hu
 ·cases h
theorem Us (h:Rel aV w0 aU N Fz κ σ a w) {t kt et:TypeId} {sh:KS} {z:FC} {ok:Bool} {x k:Operand} {x' k':dF} (hm:y9 P t = some (kt,et)) (hk:kL P kt) (hs:wS P kt = some sh) (hz:Ui P et = some z) (hx:eY x = some x') (hkk:eY k = some k') (hE:bW Γ q σ d (.look sh z ok x' k') = some (pv,σ')) :
  Does P aV w0 aU N q d Fz κ σ a w (do let v ← Instr.lookup t (a.eval x) (a.eval k) ok;Pure.pure (.value v)) σ' pv:=by
 obtain ⟨v,h1,h2⟩:=zbm hE
 obtain ⟨u,h3,h4⟩:=zbm h2
 obtain ⟨b,h5,h6⟩:=zbm h4
 split at h6
 ·cases h6
 ·rename_i hsh
  have hb:b.ks = sh:=aiJ.mp hsh
  have hv:=h.eval hx h1
  have hu:=wT h5 (h.eval hkk h3)
  obtain ⟨zv,z1,z2⟩:=OX (Fz:=Fz) (w:=w) hz
  obtain ⟨r,h7,h8⟩:=zmm h6
  cases h8
  have fin:∀ (rv:Option Value),(∀ x,r = some x → ∃ v,rv = some v ∧ kX Fz w x v) → (r = none → rv = none) → (Instr.lookup t (a.eval x) (a.eval k) ok).run P w = .ok (if ok then .tuple #[rv.getD zv,.bool rv.isSome] else rv.getD zv) w →
    Does P aV w0 aU N q d Fz κ σ a w (do let v ← Instr.lookup t (a.eval x) (a.eval k) ok;Pure.pure (.value v)) σ (if ok then .tZ [wK (r.getD z),.one (.f (.bool r.isSome))] else .c (wK (r.getD z))):=by
   intro rv g1 g2 g3
   refine Does.pure h g3 ?_
   have hrep:kX Fz w (r.getD z) (rv.getD zv) ∧ r.isSome = rv.isSome:=by
    cases r with
    | none=>rw [g2 rfl];exact ⟨z2,rfl⟩
    | some x=>obtain ⟨v,e1,e2⟩:=g1 x rfl;rw [e1];exact ⟨e2,rfl⟩
   cases ok with
   | false=>exact hrep.1.toC
   | true=>exact ⟨_,rfl,hrep.1.toC,by rw [hrep.2];rfl,trivial⟩
  split at h7
  ·cases h7
   refine fin none (fun x hx=>by cases hx) (fun _=>rfl) ?_
   rw [show a.eval x = .map none from hv,hu]
   have:=Mq.look_nil (hk.key sh hs) t et (rY hm) zv z1 b hb ok (w:=w)
   rw [this];cases ok <;> rfl
  ·rename_i key
   split at h7
   ·rename_i sh' ents fK
    split at h7
    ·rename_i hs'
     subst hs'
     cases h7
     obtain ⟨bl,e1,l,e2,e3,e4⟩:=h.obj fK
     have hl:=Mq.look (hk.key _ hs) e2 e4 t et (rY hm) zv z1 b hb ok
     obtain ⟨f1,f2⟩:=e3.rO b
     refine fin (Mq.rO l b) f1 f2 ?_
     rw [hv.1,e1,hu]
     exact hl
    ·cases h7
   ·cases h7
  ·cases h7
theorem KF (h:Rel aV w0 aU N Fz κ σ a w) {t kt et:TypeId} {sh:KS} {x k y:Operand} {x' k' y':dF} (hm:y9 P t = some (kt,et)) (hk:kL P kt) (hs:wS P kt = some sh) (hx:eY x = some x') (hkk:eY k = some k') (hy:eY y = some y') (hE:bW Γ q σ d (.wG sh x' k' y') = some (pv,σ')) :
  Does P aV w0 aU N q d Fz κ σ a w (do Instr.mapUpdate t (a.eval x) (a.eval k) (a.eval y);Pure.pure .skip) σ' pv:=by
 obtain ⟨v,h1,h2⟩:=zbm hE
 obtain ⟨u,h3,h4⟩:=zbm h2
 obtain ⟨b,h5,h6⟩:=zbm h4
 split at h6
 ·cases h6
 ·rename_i hsh
  have hb:b.ks = sh:=aiJ.mp hsh
  obtain ⟨yv,h7,h8⟩:=zbm h6
  have hv:=h.eval hx h1
  have hu:=wT h5 (h.eval hkk h3)
  have hyv:=h.eval hy h7
  split at h8
  ·cases h8
  ·rename_i hq
   obtain ⟨p,h9,h10⟩:=zbm h8
   have fr:∃ bg,Rel aV w0 aU N bg κ p.2 a w ∧ (∀ b,Fz b → bg b) ∧ kX bg w p.1 (a.eval y) ∧ (q = true → (∀ b,bg b → Fz b) ∧ p.2 = σ) ∧ ∀ r ∈ p.2.ob,∃ p' ∈ σ.ob,p'.1 = r.1:=by
    cases yv with
    | one l =>
     obtain ⟨r,e1,e2⟩:=zmm h9
     subst e2
     obtain ⟨bg,g1,g2,g3,g4,g5⟩:=h.OT (xs:=[l]) (ys:=[r.1]) (vs:=[a.eval y]) (σ':=r.2) ⟨hyv,trivial⟩ hq (by simp [Ev.jR,e1])
     exact ⟨bg,g1,g2,g3.1,g4,g5⟩
    | agg xs =>
     obtain ⟨r,e1,e2⟩:=zmm h9
     subst e2
     obtain ⟨cs,hcs,hyv⟩:=hyv
     obtain ⟨bg,g1,g2,g3,g4,g5⟩:=h.OT hyv hq e1
     exact ⟨bg,g1,g2,⟨cs,hcs,g3⟩,g4,g5⟩
   obtain ⟨bg,g1,g2,g3,g4,g5⟩:=fr
   split at h10
   ·rename_i key
    split at h10
    ·rename_i sh' ents fK
     split at h10
     ·rename_i hs'
      subst hs'
      cases h10
      refine Does.after g2 g4 g5 ?_
      obtain ⟨bl,e1,l,e2,e3,e4⟩:=g1.obj fK
      obtain ⟨w',r1,r2,r3⟩:=Mq.update (hk.key _ hs) e2 e4 t et (rY hm) b hb (a.eval y)
      have hpos:=(g1.pos _ (get_mem fK) bl (by show blk (κ key) = _;rw [e1];rfl)).1
      have hmv:∀ i,bg i → w'.heap[i]? = w.heap[i]?:=fun i hi=>r3.block i (g1.fz i hi).1 (fun e=>by cases e;exact hpos hi)
      refine ⟨.skip,w',κ,bg,undef,by rw [hv.1,e1,hu,Sem.run_bind,r1];rfl,.inr ⟨rfl,rfl⟩,Good.set g1 fK r3.size (fun i hi hne=>r3.block i hi (fun e=>hne (by rw [e1,← e];rfl))) ⟨r3.os,r3.output⟩ ?_ rfl⟩
      exact ⟨bl,e1,_,r2,gY.mono (fun _ h=>h) hmv _ _ (e3.upd g3),KD e4 hb⟩
     ·cases h10
    ·cases h10
   ·cases h10
theorem Dh {t kt et ty:TypeId} (hm:P.underlying t = some (.map kt et)) {k:Value} (hk:∀ e,(Instr.checkKey e 10000 kt k).run P w = .ok () w):(Builtin.delete_ #[t,kt] ty #[.map none,k]).run P w = .ok (.tuple #[]) w:=by
 unfold Builtin.delete_
 simp [Sem.run_bind,run_underlying hm,Result.andThen,hk]
theorem Yy (h:Rel aV w0 aU N Fz κ σ a w) {t kt et ty:TypeId} {sh:KS} {x k:Operand} {x' k':dF} (hm:y9 P t = some (kt,et)) (hk:kL P kt) (hs:wS P kt = some sh) (hx:eY x = some x') (hkk:eY k = some k') (hE:bW Γ q σ d (.del sh x' k') = some (pv,σ')) :
  Does P aV w0 aU N q d Fz κ σ a w (do let v ← Builtin.delete_ #[t,kt] ty #[a.eval x,a.eval k];Pure.pure (.value v)) σ' pv:=by
 obtain ⟨v,h1,h2⟩:=zbm hE
 obtain ⟨u,h3,h4⟩:=zbm h2
 obtain ⟨b,h5,h6⟩:=zbm h4
 split at h6
 ·cases h6
 ·rename_i hsh
  have hb:b.ks = sh:=aiJ.mp hsh
  have hv:=h.eval hx h1
  have hu:=wT h5 (h.eval hkk h3)
  split at h6
  ·cases h6
   refine Does.pure h (v:=.tuple #[]) ?_ ⟨#[],rfl,trivial⟩
   rw [show a.eval x = .map none from hv,hu]
   exact Dh (rY hm) (fun e=>(hk.key sh hs).check e b w hb)
  ·rename_i key
   split at h6
   ·rename_i sh' ents fK
    split at h6
    ·rename_i hs'
     subst hs'
     cases h6
     obtain ⟨bl,e1,l,e2,e3,e4⟩:=h.obj fK
     obtain ⟨w',r1,r2,r3⟩:=Mq.delete (hk.key _ hs) e2 e4 t et ty (rY hm) b hb
     have hpos:=(h.pos _ (get_mem fK) bl (by show blk (κ key) = _;rw [e1];rfl)).1
     have hmv:∀ i,Fz i → w'.heap[i]? = w.heap[i]?:=fun i hi=>r3.block i (h.fz i hi).1 (fun e=>by cases e;exact hpos hi)
     refine ⟨_,w',κ,Fz,_,by rw [hv.1,e1,hu,Sem.run_bind,r1];rfl,.inl rfl,Good.set h fK r3.size (fun i hi hne=>r3.block i hi (fun e=>hne (by rw [e1,← e];rfl))) ⟨r3.os,r3.output⟩ ?_ ⟨#[],rfl,trivial⟩⟩
     exact ⟨bl,e1,_,r2,gY.mono (fun _ h=>h) hmv _ _ e3.del,KE e4⟩
    ·cases h6
   ·cases h6
  ·cases h6
end
end
section
open Go
section
variable {P : Program} {Γ:Env} {aV Fz bg:Nat → Prop} {w0 w w':World} {aU:List Nat} {N:Fr} {d:Nat} {q:Bool} {κ eF:Nat → Value} {σ σ1 σ':St} {a:Act} {pv:PV} {o:Oper}
theorem dW.gone {key:Nat} {v':Value} (hs:∃ A n c,κ key = .slice A n c) (hw:∀ b,Fz b → w'.heap[b]? = w.heap[b]?) {x:PL} {v:Value} (h:dW Fz κ w x v):dW Fz (oI κ key v') w' (nI key .any x) v:=by
 obtain ⟨A0,n0,c0,hs⟩:=hs
 have hm:∀ {y:PL},(∀ k,dR k y = true → k ≠ key) → dW Fz κ w y v → dW Fz (oI κ key v') w' y v:=fun hk hy=>dW.mono (fun _ h=>h) hw (fun k hk'=>dY (hk k hk') v') hy
 cases x with
 | own k n =>
  simp only [nI]
  split
  ·trivial
  ·rename_i hk;exact hm (fun k' hk'=>by simp [dR] at hk';subst hk';exact hk) h
 | rp k z i o =>
  simp only [nI]
  split
  ·trivial
  ·rename_i hk;exact hm (fun k' hk'=>by simp [dR] at hk';subst hk';exact hk) h
 | ptr k o =>
  refine hm (fun k' hk' e=>?_) h
  simp [dR,nI] at hk'
  obtain ⟨b,h1,_⟩:=h
  rw [hk',e,hs] at h1
  cases h1
 | mp k =>
  refine hm (fun k' hk' e=>?_) h
  simp [dR,nI] at hk'
  obtain ⟨h0,b,h1⟩:=h
  rw [h1,hk',e,hs] at h0
  cases h0
 | f x=>exact hm (fun k hk=>by simp [dR,nI] at hk) h
 | bK=>exact h
 | fp cs=>exact hm (fun k hk=>by simp [dR,nI] at hk) h
 | iw=>exact h
 | eH=>exact h
 | und=>exact h
 | any=>trivial
 | fn f cs=>exact hm (fun k hk=>by simp [dR,nI] at hk) h
 | vw k z n l =>
  simp only [nI]
  split
  ·trivial
  ·rename_i hk;exact hm (fun k' hk'=>by simp [dR] at hk';subst hk';exact hk) h
theorem aM.gone {key:Nat} {v':Value} (hs:∃ A n c,κ key = .slice A n c) (hw:∀ b,Fz b → w'.heap[b]? = w.heap[b]?):∀ {xs:List PL} {vs:List Value},aM Fz κ w xs vs → aM Fz (oI κ key v') w' (xs.map (nI key .any)) vs
 | [],[],_=>trivial
 | x :: xs,v :: vs,h=>⟨dW.gone hs hw h.1,aM.gone hs hw h.2⟩
 | [],_ :: _,h=>h.elim
 | _ :: _,[],h=>h.elim
theorem fJ.gone {key:Nat} {v':Value} (hs:∃ A n c,κ key = .slice A n c) (hw:∀ b,Fz b → w'.heap[b]? = w.heap[b]?) {x:CV} {v:Value} (h:fJ Fz κ w x v):fJ Fz (oI κ key v') w' (ES key .any x) v:=by
 cases x with
 | one x=>exact dW.gone hs hw h
 | agg xs=>obtain ⟨cs,rfl,h⟩:=h;exact ⟨cs,rfl,aM.gone hs hw h⟩
theorem dH.gone {key:Nat} {v':Value} (hs:∃ A n c,κ key = .slice A n c) (hw:∀ b,Fz b → w'.heap[b]? = w.heap[b]?):∀ {xs:List CV} {vs:List Value},dH Fz κ w xs vs → dH Fz (oI κ key v') w' (xs.map (ES key .any)) vs
 | [],[],_=>trivial
 | x :: xs,v :: vs,h=>⟨fJ.gone hs hw h.1,dH.gone hs hw h.2⟩
 | [],_ :: _,h=>h.elim
 | _ :: _,[],h=>h.elim
theorem gW.gone {key:Nat} {v':Value} (hs:∃ A n c,κ key = .slice A n c) (hw:∀ b,Fz b → w'.heap[b]? = w.heap[b]?) {x:PV} {v:Value} (h:gW Fz κ w x v):gW Fz (oI κ key v') w' (OB key .any x) v:=by
 cases x with
 | c x=>exact fJ.gone hs hw h
 | tZ xs=>obtain ⟨cs,rfl,h⟩:=h;exact ⟨cs,rfl,dH.gone hs hw h⟩
theorem gZ.gone {B key k:Nat} {v':Value} (hk:k ≠ key) (hs:∃ A n c,κ key = .slice A n c) (hw:∀ b,Fz b → w'.heap[b]? = w.heap[b]?) (hb:∀ b,blk (κ k) = some b → w'.heap[b]? = w.heap[b]?) {x:Ob} (h:gZ B Fz κ w k x):gZ B Fz (oI κ key v') w' k (IJ key .any x):=by
 cases x with
 | dM xs =>
  obtain ⟨b,cs,e,h1,h2,h3⟩:=h
  exact ⟨b,cs,e,(dY hk v').trans h1,(hb b (by rw [h1];rfl)).trans h2,aM.gone hs hw h3⟩
 | row sz rows=>exact gZ.mono (o:=.row sz rows) (fun _ h=>h) hw (fun k' hk'=>dY (by rcases hk' with h | h <;> first | (subst h;exact hk) | cases h) v') hb h
 | map sh ents=>exact gZ.mono (o:=.map sh ents) (fun _ h=>h) hw (fun k' hk'=>dY (by rcases hk' with h | h <;> first | (subst h;exact hk) | cases h) v') hb h
theorem Rel.moved (h:Rel aV w0 aU N Fz κ σ a w) {key:Nat} {o o':Ob} {v':Value} (hk:get σ.ob key = some o) (hsl:∃ A n c,κ key = .slice A n c) (hs:w.heap.size ≤ w'.heap.size) (hb:∀ b,b < w.heap.size → blk (κ key) ≠ some b → w'.heap[b]? = w.heap[b]?)
  (hv:∀ b,blk v' = some b → b < w'.heap.size ∧ (blk (κ key) = some b ∨ w.heap.size ≤ b)) (hkp:Kp w w') (ho:gZ 0 Fz (oI κ key v') w' key o'):Rel aV w0 aU N Fz (oI κ key v') (iY (Ev.sub σ key .any) key o') a w':=by
 have hkm:=get_mem hk
 have hfz:∀ b,Fz b → w'.heap[b]? = w.heap[b]?:=fun b hf=>hb b (h.fz b hf).1 (fun e=>(h.pos _ hkm b e).1 hf)
 have mo:∀ p ∈ (iY (Ev.sub σ key .any) key o').ob,p = (key,o') ∨ (p.1 ≠ key ∧ ∃ r ∈ σ.ob,r.1 = p.1 ∧ p.2 = IJ key .any r.2):=by
  intro p hp
  rcases gT hp with rfl | ⟨hp,hne⟩
  ·exact .inl rfl
  ·obtain ⟨r,hr,rfl⟩:=aiq.mp hp
   exact .inr ⟨hne,r,hr,rfl,rfl⟩
 have far:∀ b,blk v' = some b → ∀ p ∈ σ.ob,p.1 ≠ key → blk (κ p.1) ≠ some b:=by
  intro b hb1 p hp hne e
  rcases (hv b hb1).2 with h1 | h1
  ·exact h.uh p hp _ hkm b hne e h1
  ·have:=(h.pos p hp b e).2.1
   omega
 refine ⟨fun p hp=>?_,h.sz,h.lJ,h.fs,fun p hp=>?_,fun p hp r hr b hne hb1 hb2=>?_,fun p hp b hb1=>?_,fun b hf=>⟨aiz (h.fz b hf).1 hs,(h.fz b hf).2⟩,h.yU,aij h.big hs,fun b h1 h2=>?_,h.kp.trans hkp⟩
 ·obtain ⟨r,hr,rfl⟩:=aiq.mp hp
  exact gW.gone hsl hfz (h.tm r hr)
 ·rcases mo p hp with rfl | ⟨hne,r,hr,e1,e2⟩
  ·exact ho
  ·rw [e2,← e1]
   have hne':r.1 ≠ key:=fun e=>hne (e1 ▸ e)
   exact gZ.gone hne' hsl hfz (fun b hb1=>hb b (h.pos r hr b hb1).2.1 (fun e=>h.uh r hr _ hkm b hne' hb1 e)) (h.ob r hr)
 ·rcases mo p hp with rfl | ⟨hp1,p',hp',e1,_⟩ <;> rcases mo r hr with rfl | ⟨hr1,r',hr',e2,_⟩
  ·exact hne rfl
  ·rw [bL] at hb1
   rw [dY hr1,← e2] at hb2
   exact far b hb1 r' hr' (fun e=>hr1 (e2 ▸ e)) hb2
  ·rw [bL] at hb2
   rw [dY hp1,← e1] at hb1
   exact far b hb2 p' hp' (fun e=>hp1 (e1 ▸ e)) hb1
  ·rw [dY hp1,← e1] at hb1
   rw [dY hr1,← e2] at hb2
   rw [← e1,← e2] at hne
   exact h.uh p' hp' r' hr' b hne hb1 hb2
 ·rcases mo p hp with rfl | ⟨hp1,p',hp',e1,_⟩
  ·rw [bL] at hb1
   obtain ⟨h1,h2⟩:=hv b hb1
   rcases h2 with h2 | h2
   ·have:=h.pos _ hkm b h2
    exact ⟨this.1,h1,this.2.2⟩
   ·refine ⟨fun hf=>?_,h1,.inr (aij h.big h2)⟩
    have:=(h.fz b hf).1
    omega
  ·rw [dY hp1,← e1] at hb1
   have:=h.pos p' hp' b hb1
   exact ⟨this.1,aiz this.2.1 hs,this.2.2⟩
 ·rw [hb b (aiz h1 h.big) (fun e=>?_)]
  ·exact h.ext b h1 h2
  ·rcases (h.pos _ hkm b e).2.2 with h3 | h3
   ·exact h2 h3
   ·omega
theorem cO.cells {sz b:Nat}:∀ {rows:List (List FV)} {o:Nat},cO Fz w sz b o rows → ∃ vs,dX Fz w sz rows vs ∧ ∀ j v,vs[j]? = some v → w.cell? ⟨b,o + j,none⟩ = some v
 | [],o,_=>⟨[],rfl,fun j v hj=>by simp at hj⟩
 | r :: rows,o,h=>by
  simp only [cO] at h
  obtain ⟨us,h1,h2⟩:=h.2.1.cells
  obtain ⟨vs,h3,h4⟩:=cO.cells h.2.2
  have hl:=h1.len
  refine ⟨us ++ vs,⟨h.1,?_,?_⟩,fun j v hj=>?_⟩
  ·rw [ajL (by omega),ajB (by omega)];exact h1
  ·rw [List.drop_append_of_le_length (by omega),List.drop_of_length_le (by omega)];exact h3
  ·rw [ajJ] at hj
   split at hj
   ·exact h2 j v hj
   ·have:=h4 _ v hj
    rw [show o + sz + (j - us.length) = o + j from by omega] at this
    exact this
theorem bX.one : ∀ {xs:List FV} {vs:List Value},bX Fz w xs vs → ∀ u ∈ vs,u.oneCell' = true
 | [],[],_,u,hu=>by simp at hu
 | x :: xs,v :: vs,h,u,hu=>by
  rcases aif.mp hu with rfl | hu
  ·have:=eO.leaf h.1
   cases u <;> first | rfl | exact this.elim
  ·exact bX.one h.2 u hu
 | [],_ :: _,h,_,_=>h.elim
 | _ :: _,[],h,_,_=>h.elim
theorem dX.one {sz:Nat}:∀ {rows:List (List FV)} {vs:List Value},dX Fz w sz rows vs → ∀ u ∈ vs,u.oneCell' = true
 | [],vs,h,u,hu=>by cases h;simp at hu
 | r :: rs,vs,h,u,hu=>by
  rw [← aju sz vs] at hu
  rcases air.mp hu with hu | hu
  ·exact h.2.1.one u hu
  ·exact dX.one h.2.2 u hu
theorem dX.app {sz:Nat}:∀ {rows new:List (List FV)} {vs us:List Value},dX Fz w sz rows vs → dX Fz w sz new us → dX Fz w sz (rows ++ new) (vs ++ us)
 | [],new,vs,us,h,h'=>by cases h;exact h'
 | r :: rs,new,vs,us,h,h'=>by
  have hl:=h.2.1.len
  rw [aia,h.1] at hl
  refine ⟨h.1,?_,?_⟩
  ·rw [ajL (by omega)];exact h.2.1
  ·rw [List.drop_append_of_le_length (by omega)];exact dX.app h.2.2 h'
theorem EY (h:Rel aV w0 aU N Fz κ σ a w) {u:CV} {uv:Value} {new:List (List FV)} {sz:Nat} (hu:fJ Fz κ w u uv) (hr:pO σ u = some new) (hall:new.all (fun r=>r.length == sz) = true) :
  ∃ A c vs,uv = .slice A new.length c ∧ dX Fz w sz new vs ∧ ((A = none ∧ new = []) ∨ ∃ ad:Addr,A = some ad ∧ ∀ j v,vs[j]? = some v → w.cell? (ad.add j) = some v):=by
 unfold pO at hr
 split at hr
 ·cases hr;exact ⟨none,0,[],hu,rfl,.inl ⟨rfl,rfl⟩⟩
 ·rename_i rows
  cases hr
  obtain ⟨A,c,e1,e2,e2',e3⟩:=(show ∃ A c,uv = .slice A new.length c ∧ new.length ≤ c ∧ new.length ≤ 9223372036854775807 ∧ (new = [] ∨ ∃ b o sz,A = some ⟨b,o,none⟩ ∧ Fz b ∧ cO Fz w sz b o new) by simpa only [fJ,dW,eO] using hu)
  rcases e3 with e3 | ⟨b,o,sz',rfl,e4,e5⟩
  ·subst e3
   cases A with
   | none=>exact ⟨none,c,[],e1,rfl,.inl ⟨rfl,rfl⟩⟩
   | some ad=>exact ⟨some ad,c,[],e1,rfl,.inr ⟨ad,rfl,fun j v hj=>by simp at hj⟩⟩
  ·obtain ⟨vs,e6,e7⟩:=e5.cells
   cases new with
   | nil=>exact ⟨_,c,vs,e1,e6,.inr ⟨⟨b,o,none⟩,rfl,fun j v hj=>by rw [lX];exact e7 j v hj⟩⟩
   | cons r rs =>
    have:sz' = sz:=by
     rw [List.all_cons,ah5] at hall
     have h1:=e6.1
     have h2:=hall.1
     simp at h2
     omega
    subst this
    exact ⟨_,c,vs,e1,e6,.inr ⟨⟨b,o,none⟩,rfl,fun j v hj=>by rw [lX];exact e7 j v hj⟩⟩
 ·rename_i key n
  split at hr
  ·rename_i sz' rows fK
   cases hr
   obtain ⟨o0,e,inner,A,c,o1,⟨o2,o3⟩,o4⟩:=h.obj fK
   have hin:dX Fz w sz new inner:=by
    cases new with
    | nil=>exact o4
    | cons r rs =>
     have:sz' = sz:=by
      rw [List.all_cons,ah5] at hall
      have h1:=o4.1
      have h2:=hall.1
      simp at h2
      omega
     subst this
     exact o4
   rcases o3 with ⟨o3,o5⟩ | ⟨g,cap,cur,o3,o5,o6,o7,o8,o9,o10⟩
   ·exact ⟨none,0,inner,by rw [hu.1,o3,o5],hin,.inl ⟨rfl,ajt o5⟩⟩
   ·refine ⟨_,cap,inner,by rw [hu.1,o3],hin,.inr ⟨⟨g,0,none⟩,rfl,fun j v hj=>?_⟩⟩
    rw [← o10,aiI] at hj
    split at hj
    ·rw [lX,aip]
     simp only [World.cell?,o6]
     simpa using hj
    ·cases hj
  ·cases hr
 ·cases hr
theorem Bp {base:Nat} {t ty e e1:TypeId} {i:TypeInfo} {size c:Nat} (ht:P.underlying t = some (.slice e)) (hi:P.info? e = some i) {v:Value} {n:Nat} {xs:List Value} (hown:w.ownsRow base e1 size v n xs) :
  (Builtin.append_ #[t,t] ty #[v,.slice none 0 c]).run P w = .ok v w:=by
 rcases hown.2 with ⟨rfl,rfl⟩ | ⟨g,cap,cur,rfl,_,_,hnc,_⟩
 ·simp [Builtin.append_,run_underlying ht,sizeOf,typeInfo,hi,Builtin.lenOf,Builtin.firstCells]
 ·simp [Builtin.append_,run_underlying ht,sizeOf,typeInfo,hi,Builtin.lenOf,Builtin.firstCells,hnc,storeCells]
theorem Bq (t ty e e1:TypeId) (i:TypeInfo) (ht:P.underlying t = some (.slice e)) (hi:P.info? e = some i)
  (g sLen sCap:Nat) (cur:Array Value) (hg:w.heap[g]? = some (.cells cur e1 (0,0)))
  (a:Addr) (m c:Nat) (news:List Value) (hl:news.length = m * i.size) (hnews:∀ j u,news[j]? = some u → w.cell? (a.add j) = some u) (h1:∀ u ∈ news,u.oneCell' = true)
  (hroom:sLen + m ≤ sCap) (hfit:sLen * i.size + news.length ≤ cur.size) :
  (Builtin.append_ #[t,t] ty #[.slice (some ⟨g,0,none⟩) sLen sCap,.slice (some a) m c]).run P w =
   .ok (.slice (some ⟨g,0,none⟩) (sLen + m) sCap) (w.setRow g (cur.toList.take (sLen * i.size) ++ news ++ cur.toList.drop (sLen * i.size + news.length)).toArray):=by
 have hf:=run_firstCells_some (P:=P) w i.size m a m c news hl hnews
 have hst:=run_storeCells_at P g (sLen * i.size) e1 news 0 cur w hg (by simpa using hfit) h1
 simp only [Nat.add_zero] at hst
 simp [Builtin.append_,run_underlying ht,sizeOf,typeInfo,hi,Builtin.lenOf,hroom,hf,Addr.add_lit,hst]
theorem GA (h:Rel aV w0 aU N Fz κ σ a w) {t ty e:TypeId} {sz bytes:Nat} {z:List PL} (ht:P.underlying t = some (.slice e)) (hn:kC P e = some sz) (hby:OL P e = some bytes) (hz:zF P e = some z) (hzl:z.length = sz) (h0:0 < sz) (hb0:0 < bytes)
  {u:CV} {uv:Value} {new:List (List FV)} (hu:fJ Fz κ w u uv) (hr:pO σ u = some new) (hall:new.all (fun r=>r.length == sz) = true) {e1:TypeId} {v:Value} {rows:List (List FV)} {inner:List Value} (hown:w.ownsRow 0 e1 sz v rows.length inner) (hin:dX Fz w sz rows inner)
  (hle:(rows.length + new.length) * bytes ≤ 140737488355328) (hfz:∀ b,v.ownBlock = some b → ¬ Fz b) :
  ∃ v' w' uw e2,(Builtin.append_ #[t,t] ty #[v,uv]).run P w = .ok v' w' ∧ w'.ownsRow 0 e2 sz v' (rows ++ new).length uw ∧ dX Fz w' sz (rows ++ new) uw ∧ w.grownBy w' v.ownBlock ∧ (v'.ownBlock = v.ownBlock ∨ v'.ownBlock = some w.heap.size):=by
 obtain ⟨A,c,vs,rfl,e2,e3⟩:=EY h hu hr hall
 obtain ⟨i,zv,z1,z2,z3⟩:=uq (Fz:=Fz) (κ:=κ) (w:=w) hz
 have hsz:i.size = sz:=by unfold kC at hn;rw [z1] at hn;simpa using hn
 have hbt:i.bytes = bytes:=by unfold OL at hby;rw [z1] at hby;simpa using hby
 have hlz:=z3.length
 rw [Array.length_toList,hzl] at hlz
 rcases e3 with ⟨rfl,rfl⟩ | ⟨ad,rfl,e4⟩
 ·refine ⟨v,w,inner,e1,Bp ht z1 hown,by rw [ai1];exact hown,by rw [ai1];exact hin,⟨rfl,rfl,rfl,ah1 _,fun _ _ _=>rfl⟩,.inl rfl⟩
 ·have hle2:rows.length + new.length ≤ 140737488355328:=aij (Nat.le_mul_of_pos_right _ hb0) hle
  have key:∃ v' w' e2,(Builtin.append_ #[t,t] ty #[v,.slice (some ad) new.length c]).run P w = .ok v' w' ∧ w'.ownsRow 0 e2 sz v' (rows.length + new.length) (inner ++ vs) ∧ w.grownBy w' v.ownBlock ∧ (v'.ownBlock = v.ownBlock ∨ v'.ownBlock = some w.heap.size):=by
   rcases hown.2 with ⟨e5,e6⟩ | ⟨g,cap,cur,e5,e6,e7,e8,e9,e10,e11⟩
   ·have hx:inner = []:=ajt (by have:=hown.1;rw [e6] at this;simpa using this)
    subst hx
    obtain ⟨v',w',r1,r2,r3,r4,r5⟩:=run_append_own_at (P:=P) w 0 t ty e i zv sz bytes ht z1 z2 hsz hbt (by omega) h0 v rows.length [] ⟨hown.1,.inl ⟨e5,e6⟩⟩ ad new.length c vs e2.len e4 e2.one (by simp only [maxLen];omega) hle (aiy _)
    exact ⟨v',w',e,r1,r2,r3,r5⟩
   ·have hlen:(inner ++ vs).length = (rows.length + new.length) * sz:=by rw [ah7,hown.1,e2.len,Nat.add_mul]
    by_cases hroom:rows.length + new.length ≤ cap
    ·have hfit:rows.length * i.size + vs.length ≤ cur.size:=by rw [e2.len,e10,hsz,← Nat.add_mul];exact ajv _ hroom
     have hr:=Bq (P:=P) (w:=w) t ty e e1 i ht z1 g rows.length cap cur e7 ad new.length c vs (by rw [hsz];exact e2.len) e4 e2.one hroom hfit
     rw [e5]
     refine ⟨_,_,e1,hr,⟨hlen,.inr ⟨g,cap,_,rfl,e6,setRow_heap w g cur _ e1 _ e7,hroom,e9,?_,?_⟩⟩,⟨rfl,rfl,rfl,by simp,fun k _ hk=>setRow_other w g k _ (fun e=>hk (by simp [Value.ownBlock,e]))⟩,Or.inl rfl⟩
     ·simp only [List.size_toArray,ah7,aia,aiv,Array.length_toList]
      omega
     ·rw [hsz,e11,← hlen]
      exact List.take_left
    ·have holds:∀ j u,inner[j]? = some u → w.cell? ((⟨g,0,none⟩:Addr).add j) = some u:=hown.cells (g:=g) (by rw [e5];rfl)
     have hr:=run_append_grow (P:=P) w t ty e i zv ht z1 z2 ⟨g,0,none⟩ rows.length cap inner (by rw [hsz];exact hown.1) holds ad new.length c vs (by rw [hsz];exact e2.len) e4 (by omega) (by omega) (growslice_fits (by omega) (by rw [hbt];exact hle))
     have hge:=grownCap_ge w (rows.length + new.length) cap e
     have hcm:grownCap w (rows.length + new.length) cap e ≤ maxLen:=grownCap_le_maxLen w (rows.length + new.length) cap e (by simp only [maxLen];omega)
     rw [e5]
     refine ⟨_,_,e,hr,⟨hlen,.inr ⟨w.heap.size,_,_,rfl,aiy _,heap_alloc_new w.drew _,hge,hcm,?_,?_⟩⟩,⟨rfl,rfl,rfl,by simp,fun k hk _=>heap_alloc_old w.drew _ hk⟩,Or.inr rfl⟩
     ·simp only [Array.size_append,List.size_toArray,size_zeroCells,show zv.cells.size = sz by omega,hown.1,e2.len,← Nat.add_mul]
      congr 1
      omega
     ·simp only [Array.toList_append,aiP]
      rw [← aiP,← hlen]
      exact List.take_left
  obtain ⟨v',w',e2',r1,r2,r3,r5⟩:=key
  refine ⟨v',w',inner ++ vs,e2',r1,by rw [ah7];exact r2,?_,r3,r5⟩
  refine dX.mono (fun _ h=>h) (fun b hb=>r3.block b (h.fz b hb).1 (fun e=>hfz b e.symm hb)) sz _ _ (hin.app e2)
theorem Yz (h:Rel aV w0 aU N Fz κ σ a w) {t ty e:TypeId} {sz bytes:Nat} {z:List PL} {x y:Operand} {x' y':dF} (ht:P.underlying t = some (.slice e)) (hn:kC P e = some sz) (hby:OL P e = some bytes) (hz:zF P e = some z) (hzl:z.length = sz) (h0:0 < sz) (hb0:0 < bytes)
  (hx:eY x = some x') (hy:eY y = some y') (hE:bW Γ q σ d (.app e sz bytes x' y') = some (pv,σ')) :
  Does P aV w0 aU N q d Fz κ σ a w (do let v ← Builtin.append_ #[t,t] ty #[a.eval x,a.eval y];Pure.pure (.value v)) σ' pv:=by
 obtain ⟨v,h1,h2⟩:=zbm hE
 obtain ⟨u,h3,h4⟩:=zbm h2
 obtain ⟨new,h5,h6⟩:=zbm h4
 have hv:=h.eval hx h1
 have hu:=h.eval hy h3
 split at h6
 ·split at h6
  ·rename_i hc
   obtain ⟨s,h7,h8⟩:=zmm h6
   cases h8
   have hown:w.ownsRow 0 e sz (.slice none 0 0) ([]:List (List FV)).length []:=World.ownsRow_nil w _ e sz
   obtain ⟨v',w',uw,e2,r1,r2,r3,r4,r5⟩:=GA (P:=P) (ty:=ty) (rows:=[]) h ht hn hby hz hzl h0 hb0 hu h5 hc.2.2 hown rfl (by simpa using hc.2.1) (fun b hb=>by cases hb)
   rw [List.nil_append] at r2 r3
   have hb:∀ b,blk v' = some b → w.heap.size ≤ b ∧ b < w'.heap.size:=by
    intro b hb
    have fK:v'.ownBlock = some b:=by
     rcases r2.2 with ⟨e1,_⟩ | ⟨g,cap,cur,e1,_⟩ <;> rw [e1] at hb ⊢ <;> exact hb
    rcases r5 with r5 | r5
    ·rw [fK] at r5;cases r5
    ·rw [fK] at r5;cases r5;exact ⟨ah1 _,(r2.lt _ fK).2⟩
   have hval:∃ A c,v' = .slice A new.length c:=by
    rcases r2.2 with ⟨e1,e3⟩ | ⟨g,cap,cur,e1,_⟩
    ·exact ⟨none,0,by rw [e1,e3]⟩
    ·exact ⟨_,_,e1⟩
   obtain ⟨A,c,hA⟩:=hval
   refine ⟨_,w',_,_,v',by rw [show a.eval x = .slice none 0 0 from hv,Sem.run_bind,r1];rfl,.inl rfl,Good.new (pl:=.own (dw d) new.length) h h7 r4.size (fun b hb=>r4.block b hb (by simp [Value.ownBlock])) hb ⟨r4.os,r4.output⟩ ?_ ⟨by rw [bL],A,c,hA⟩⟩
   exact ⟨h0,e2,uw,A,c,by rw [bL];exact hA,by rw [bL];exact r2,r3⟩
  ·cases h6
 ·rename_i key n
  split at h6
  ·rename_i sz' rows fK
   split at h6
   ·rename_i hc
    cases h6
    obtain ⟨hq,c1,c2,c3,c4,c6,c5⟩:=hc
    subst c2
    subst c3
    obtain ⟨o0,e1,inner,A,c,o1,o2,o3⟩:=h.obj fK
    have rZ:∀ b,(κ key).ownBlock = some b → blk (κ key) = some b:=fun b hb=>Ba hb
    obtain ⟨v',w',uw,e2,r1,r2,r3,r4,r5⟩:=GA (P:=P) (ty:=ty) h ht hn hby hz hzl h0 hb0 hu h5 c5 o2 o3 c1 (fun b hb hf=>(h.pos _ (get_mem fK) b (rZ b hb)).1 hf)
    have hval:∃ A c,v' = .slice A (rows ++ new).length c:=by
     rcases r2.2 with ⟨e1,e3⟩ | ⟨g,cap,cur,e1,_⟩
     ·exact ⟨none,0,by rw [e1,e3]⟩
     ·exact ⟨_,_,e1⟩
    obtain ⟨A',c',hA⟩:=hval
    have hbo:∀ b,blk (κ key) = some b → (κ key).ownBlock = some b:=fun b hb=>by rw [o1] at hb ⊢;cases A <;> exact hb
    have hb:∀ b,blk v' = some b → b < w'.heap.size ∧ (blk (κ key) = some b ∨ w.heap.size ≤ b):=by
     intro b hb
     have Ut:v'.ownBlock = some b:=by rw [hA] at hb ⊢;cases A' <;> exact hb
     refine ⟨(r2.lt _ Ut).2,?_⟩
     rcases r5 with r5 | r5
     ·rw [Ut] at r5;exact .inl (rZ b r5.symm)
     ·rw [Ut] at r5;cases r5;exact .inr (ah1 _)
    have hmv:∀ b,b < w.heap.size → blk (κ key) ≠ some b → w'.heap[b]? = w.heap[b]?:=fun b hb hne=>r4.block b hb (fun e=>hne (rZ b e.symm))
    have hrel:=h.moved (o':=.row sz' (rows ++ new)) (v':=v') fK ⟨A,_,c,o1⟩ r4.size hmv hb ⟨r4.os,r4.output⟩ ⟨h0,e2,uw,A',c',by rw [bL];exact hA,by rw [bL];exact r2,r3⟩
    subst hq
    refine ⟨_,w',_,Fz,v',by rw [hv.1,Sem.run_bind,r1];rfl,.inl rfl,hrel,⟨by rw [bL],A',c',by rw [hA,ah7]⟩,fun _ h=>h,fun k hk=>dY (fun e=>by subst e;omega) v'⟩
   ·cases h6
  ·cases h6
 ·cases h6
end
end
section
open Go
section
variable {P : Program} {Γ:Env} {aV Fz bg:Nat → Prop} {w0 w w':World} {aU:List Nat} {N:Fr} {d:Nat} {q:Bool} {κ eF:Nat → Value} {σ σ1 σ':St} {a:Act} {pv:PV} {o:Oper}
theorem KG (h:Rel aV w0 aU N Fz κ σ a w) {op:BinOp} {t e:TypeId} {neg:Bool} {x y:Operand} {x' y':dF} (hu:P.underlying t = some (.slice e)) (hop:(op = .eql ∧ neg = false) ∨ (op = .neq ∧ neg = true)) (hx:eY x = some x') (hy:eY y = some y') (hn:Kv y' = true) (hE:bW Γ q σ d (.yY neg x') = some (pv,σ')) :
  Does P aV w0 aU N q d Fz κ σ a w (do let v ← (do eqGuard op t x y (a.eval x) (a.eval y);binOp op t (a.eval x) (a.eval y):Sem Value);Pure.pure (.value v)) σ' pv:=by
 have hyv:a.eval y = .slice none 0 0:=by
  unfold Kv at hn
  split at hn
  ·exact h.eval (v:=.one .bK) hy rfl
  ·cases hn
 obtain ⟨v,h1,h2⟩:=zbm hE
 have hv:=h.eval hx h1
 have hg:∀ p n c,(eqGuard op t x y (.slice p n c) (.slice none 0 0)).run P w = .ok () w:=by
  intro p n c
  unfold eqGuard
  rcases hop with ⟨rfl,_⟩ | ⟨rfl,_⟩ <;> rfl
 have run:∀ p n c,a.eval x = .slice p n c → pv = .c (.one (.f (.bool (if neg then !p.isNone else p.isNone)))) → σ' = σ → Does P aV w0 aU N q d Fz κ σ a w (do let v ← (do eqGuard op t x y (a.eval x) (a.eval y);binOp op t (a.eval x) (a.eval y):Sem Value);Pure.pure (.value v)) σ' pv:=by
  intro p n c hp hpv hs
  subst hpv
  subst hs
  refine Does.pure h (v:=.bool (if neg then !p.isNone else p.isNone)) ?_ rfl
  rw [hp,hyv]
  simp only [Sem.run_bind,hg,Result.andThen_ok]
  rcases hop with ⟨rfl,rfl⟩ | ⟨rfl,rfl⟩
  ·have:=run_equal_slice_nil w t e p n c hu
   simp only [binOp,Sem.run_bind,this,Result.andThen_ok,Sem.run_pure]
   simp
  ·exact run_neq_slice_nil w t e p n c hu
 split at h2
 ·cases h2;exact run none 0 0 hv (by cases neg <;> rfl) rfl
 ·cases h2
  simp only [fJ,dW,eO] at hv
  obtain ⟨A,c,e1,_,_,e2⟩:=hv
  rcases e2 with e2 | ⟨b,o,sz,rfl,_⟩
  ·cases e2
  ·exact run _ _ _ e1 (by cases neg <;> rfl) rfl
 ·cases h2
theorem qI {op:BinOp} {t:TypeId} {x y:Operand} {k k':IntKind} {m n:Int}:(eqGuard op t x y (.int k m) (.int k' n)).run P w = .ok () w:=by
 unfold eqGuard
 cases op <;> rfl
theorem YA (h:Rel aV w0 aU N Fz κ σ a w) {op:BinOp} {t:TypeId} {x y:Operand} {x' y':dF} (ho:op = .or ∨ op = .and ∨ op = .xor) (hx:eY x = some x') (hy:eY y = some y') (hE:bW Γ q σ d (.bit op x' y') = some (pv,σ')) :
  Does P aV w0 aU N q d Fz κ σ a w (do let v ← (do eqGuard op t x y (a.eval x) (a.eval y);binOp op t (a.eval x) (a.eval y):Sem Value);Pure.pure (.value v)) σ' pv:=by
 obtain ⟨u,h1,h2⟩:=zbm hE
 obtain ⟨v,h3,h4⟩:=zbm h2
 obtain ⟨m,h5,h6⟩:=zbm h4
 obtain ⟨n,h7,h8⟩:=zbm h6
 split at h8
 ·rename_i hk
  cases h8
  have e1:=gM h5 (h.eval hx h1)
  have e2:=gM h7 (h.eval hy h3)
  obtain ⟨k,m⟩:=m
  obtain ⟨k',n⟩:=n
  simp only at hk e1 e2
  subst hk
  refine Does.pure h (v:=.int k (Go.bits op k m n)) ?_ rfl
  rw [e1,e2]
  refine iU qI ?_
  rcases ho with rfl | rfl | rfl
  ·rw [binOp_or,intBits_or];rfl
  ·rw [binOp_and,intBits_and];rfl
  ·rw [binOp_xor,intBits_xor];rfl
 ·cases h8
theorem Sb (h:Rel aV w0 aU N Fz κ σ a w) {op:BinOp} {t:TypeId} {l:Bool} {x y:Operand} {x' y':dF} (ho:(op = .shl ∧ l = true) ∨ (op = .shr ∧ l = false)) (hx:eY x = some x') (hy:eY y = some y') (hE:bW Γ q σ d (.Ub l x' y') = some (pv,σ')) :
  Does P aV w0 aU N q d Fz κ σ a w (do let v ← (do eqGuard op t x y (a.eval x) (a.eval y);binOp op t (a.eval x) (a.eval y):Sem Value);Pure.pure (.value v)) σ' pv:=by
 obtain ⟨u,h1,h2⟩:=zbm hE
 obtain ⟨v,h3,h4⟩:=zbm h2
 obtain ⟨m,h5,h6⟩:=zbm h4
 obtain ⟨n,h7,h8⟩:=zbm h6
 split at h8
 ·rename_i hk
  cases h8
  have e1:=gM h5 (h.eval hx h1)
  have e2:=gM h7 (h.eval hy h3)
  obtain ⟨k,m⟩:=m
  obtain ⟨k',n⟩:=n
  simp only at hk e1 e2
  refine Does.pure h (v:=.int k (if l then k.wrap (m * 2 ^ (min n.toNat k.bits)) else m.fdiv (2 ^ (min n.toNat k.bits)))) ?_ rfl
  rw [e1,e2]
  refine iU qI ?_
  have hn:¬ n < 0:=by omega
  rcases ho with ⟨rfl,rfl⟩ | ⟨rfl,rfl⟩
  ·simp only [binOp,Op.shift,ahY hn];rfl
  ·simp only [binOp,Op.shift,ahY hn];rfl
 ·cases h8
theorem wX : ∀ (ns:List Int) (s:ByteArray),ns.foldl (fun r n=>r.push (UInt8.ofNat n.toNat)) s = ⟨s.data ++ (ns.map fun n=>UInt8.ofNat n.toNat).toArray⟩
 | [],s=>by simp
 | n :: ns,s=>by
  rw [List.foldl_cons,wX ns]
  simp [ByteArray.push]
theorem qW : ∀ {rows:List (List FV)} {s:ByteArray},bytesOf rows = some s → ∃ ns:List Int,rows = ns.map (fun n=>[FV.int .u8 n]) ∧ s = ⟨(ns.map fun n=>UInt8.ofNat n.toNat).toArray⟩
 | [],s,h=>by cases h;exact ⟨[],rfl,rfl⟩
 | r :: rows,s,h=>by
  unfold bytesOf at h
  split at h
  ·rename_i heq;cases heq
  ·rename_i n l heq
   injection heq with e1 e2
   subst e1
   subst e2
   obtain ⟨s',h1,rfl⟩:=zmm h
   obtain ⟨ns,rfl,rfl⟩:=qW h1
   exact ⟨n :: ns,rfl,by simp⟩
  ·cases h
theorem qJ {b:Nat}:∀ (ns:List Int) (sz o:Nat),cO Fz w sz b o (ns.map (fun n=>[FV.int .u8 n])) → ns ≠ [] → ∀ j v,(ns.map (Value.int .u8))[j]? = some v → w.cell? ⟨b,o + j,none⟩ = some v
 | [],_,_,_,h,_,_,_=>absurd rfl h
 | n :: ns,sz,o,h,_,j,v,hj=>by
  simp only [ah8,cO] at h
  obtain ⟨h1,h2,h3⟩:=h
  have hsz:sz = 1:=by simpa using h1.symm
  subst hsz
  simp only [dS,eO] at h2
  cases j with
  | zero =>
   obtain ⟨⟨u,e1,e2⟩,_⟩:=h2
   simp at hj
   rw [Nat.add_zero,e1,e2,hj]
  | succ j =>
   simp at hj
   have hne:ns ≠ []:=by rintro rfl;simp at hj
   have:=qJ ns 1 (o + 1) h3 hne j v (by simpa using hj)
   rwa [show o + 1 + j = o + (j + 1) from by omega] at this
theorem pV {src dst e:TypeId} (hs:P.underlying src = some (.slice e)) (he:P.underlying e = some (.int .u8)) (hd:P.underlying dst = some .string) {A:Option Addr} {c:Nat} {ns:List Int} (hA:A = none ∨ ∃ ad:Addr,A = some ad ∧ ∀ j v,(ns.map (Value.int .u8))[j]? = some v → w.cell? (ad.add j) = some v) (hn:A = none → ns = []) :
  (convert src dst (.slice A ns.length c)).run P w = .ok (.string ⟨(ns.map fun n=>UInt8.ofNat n.toNat).toArray⟩) w:=by
 rw [run_convert_bytes_string w src dst e A _ c hs he hd]
 rcases hA with rfl | ⟨ad,rfl,hc⟩
 ·rw [hn rfl];rfl
 ·rw [run_bytesToString w ad ns.length c ns (by
   have:=run_loadCells_list (P:=P) w ad (ns.map (Value.int .u8)) hc
   simpa using this),wX]
  simp [ByteArray.empty,ByteArray.emptyWithCapacity]
  rfl
theorem YB (h:Rel aV w0 aU N Fz κ σ a w) {src dst e:TypeId} {x:Operand} {x':dF} (hs:P.underlying src = some (.slice e)) (he:P.underlying e = some (.int .u8)) (hd:P.underlying dst = some .string) (hx:eY x = some x') (hE:bW Γ q σ d (.W9 x') = some (pv,σ')) :
  Does P aV w0 aU N q d Fz κ σ a w (do let v ← convert src dst (a.eval x);Pure.pure (.value v)) σ' pv:=by
 obtain ⟨v,h1,h2⟩:=zbm hE
 have hv:=h.eval hx h1
 split at h2
 ·rename_i rows
  obtain ⟨s,h3,h4⟩:=zbm h2
  cases h4
  obtain ⟨ns,rfl,rfl⟩:=qW h3
  simp only [fJ,dW,eO] at hv
  obtain ⟨A,c,e1,_,_,e2⟩:=hv
  rw [ahZ] at e1
  by_cases hn:ns = []
  ·subst hn
   refine Does.pure h (v:=.string ⟨#[]⟩) ?_ rfl
   rw [e1]
   cases A with
   | none=>exact pV (A:=none) (ns:=[]) hs he hd (.inl rfl) (fun _=>rfl)
   | some ad=>exact pV (A:=some ad) (ns:=[]) hs he hd (.inr ⟨ad,rfl,fun j v hj=>by simp at hj⟩) (fun _=>rfl)
  ·rcases e2 with e2 | ⟨b,o,sz,rfl,_,e3⟩
   ·exact absurd (by simpa using e2) hn
   ·refine Does.pure h (v:=.string _) ?_ rfl
    rw [e1]
    refine pV hs he hd (.inr ⟨_,rfl,fun j v hj=>?_⟩) (fun h=>by cases h)
    rw [lX]
    exact qJ ns sz o e3 hn j v hj
 ·cases h2
  refine Does.pure h (v:=.string ⟨#[]⟩) ?_ rfl
  rw [show a.eval x = .slice none 0 0 from hv]
  exact pV (A:=none) (ns:=[]) hs he hd (.inl rfl) (fun _=>rfl)
 ·rename_i key n
  split at h2
  ·rename_i sz rows fK
   split at h2
   ·rename_i hz
    subst hz
    obtain ⟨s,h3,h4⟩:=zbm h2
    cases h4
    obtain ⟨ns,rfl,rfl⟩:=qW h3
    obtain ⟨_,e1,inner,A,c,o1,o2,o3⟩:=h.obj fK
    have hin:∀ (ns:List Int) (inner:List Value),dX Fz w 1 (ns.map fun n=>[FV.int .u8 n]) inner → inner = ns.map (Value.int .u8):=by
     intro ns
     induction ns with
     | nil=>intro inner h;exact h
     | cons n ns ih =>
      intro inner h
      simp only [ah8,dX] at h
      obtain ⟨_,h2,h3⟩:=h
      cases inner with
      | nil=>exact h2.elim
      | cons u inner =>
       simp only [List.take_succ_cons,List.take_zero,bX,eO,List.drop_succ_cons,ai9] at h2 h3
       rw [ih _ h3,h2.1];rfl
    have hi:=hin ns inner o3
    refine Does.pure h (v:=.string _) ?_ rfl
    rw [show a.eval x = .slice A ns.length c by rw [hv.1,o1,ahZ]]
    rw [ahZ] at o2
    rcases o2.2 with ⟨e5,e6⟩ | ⟨g,cap,cur,e5,e6,e7,_⟩
    ·rw [o1] at e5
     injection e5 with e5 _ _
     subst e5
     have hns:ns = []:=ajt e6
     subst hns
     exact pV (A:=none) (ns:=[]) hs he hd (.inl rfl) (fun _=>rfl)
    ·rw [o1] at e5
     injection e5 with e8 _ _
     subst e8
     refine pV hs he hd (.inr ⟨_,rfl,fun j v hj=>?_⟩) (fun h=>by cases h)
     exact o2.cells (g:=g) (by rw [o1];rfl) j v (by rw [hi];exact hj)
   ·cases h2
  ·cases h2
 ·cases h2
theorem dX.head {sz:Nat}:∀ {rows:List (List FV)} {inner:List Value} (k:Nat),dX Fz w sz rows inner → inner.length = rows.length * sz → dX Fz w sz (rows.take k) (inner.take (k * sz))
 | rows,inner,0,h,_=>by rw [List.take_zero,ai8,List.take_zero];rfl
 | [],inner,k + 1,h,hl=>by
  have:inner = []:=h
  subst this
  rw [List.take_nil,List.take_nil];rfl
 | r :: rows,inner,k + 1,h,hl=>by
  obtain ⟨h1,h2,h3⟩:=h
  rw [List.take_succ_cons]
  rw [List.length_cons,aiN] at hl
  refine ⟨h1,?_,?_⟩
  ·rw [List.take_take,ajK (by rw [aiN];omega)];exact h2
  ·have:=dX.head k h3 (by rw [aiv];omega)
   rw [List.drop_take,aiN,Nat.add_sub_cancel]
   exact this
theorem Uu (h:Rel aV w0 aU N Fz κ σ a w) {t e:TypeId} {sz:Nat} {x y:Operand} {x' y':dF} (hu:P.underlying t = some (.slice e)) (hn:kC P e = some sz) (hx:eY x = some x') (hy:eY y = some y') (hE:bW Γ q σ d (.CY sz x' y') = some (pv,σ')) :
  Does P aV w0 aU N q d Fz κ σ a w (do let v ← Instr.sliceAt t (a.eval x) none (some (a.eval y)) none;Pure.pure (.value v)) σ' pv:=by
 simp only [bW] at hE
 split at hE
 ·cases hE
 rename_i hq
 obtain ⟨v,h1,h2⟩:=zbm hE
 obtain ⟨j,h3,h4⟩:=zbm h2
 obtain ⟨p,h5,h6⟩:=zbm h4
 have hv:=h.eval hx h1
 have hj:=gM h5 (h.eval hy h3)
 split at h6
 ·rename_i key n
  split at h6
  ·rename_i sz' rows fK
   split at h6
   ·rename_i hc
    cases h6
    obtain ⟨rfl,c1,c2,c3⟩:=hc
    obtain ⟨o0,e1,inner,A,c,o1,o2,o3⟩:=h.obj fK
    have hk:p.2.toNat ≤ rows.length:=by omega
    have hlen:((rows.take p.2.toNat)).length = p.2.toNat:=by rw [aia];omega
    have hle:rows.length ≤ c:=by
     rcases o2.2 with ⟨e5,e6⟩ | ⟨g,cap,cur,e5,e6,e7,e8,_⟩
     ·rw [e6];exact aiy _
     ·rw [o1] at e5;injection e5 with _ _ e9;subst e9;exact e8
    have hb:(Instr.sliceBounds true rows.length c none (some (.int p.1 p.2)) none).run P w = .ok (0,p.2.toNat,c) w:=by
     have hc':0 ≤ p.2 ∧ p.2 ≤ (c:Int):=⟨c2,by omega⟩
     unfold Instr.sliceBounds Instr.sliceBound
     simp only [Sem.run_bind,Sem.run_pure,Result.andThen_ok,iC,ahX hc']
    have hrun:=oM (P:=P) (w:=w) hu hn (A:=A) hb
    rw [ai8,Nat.sub_zero,Nat.sub_zero] at hrun
    have hA:(if c = 0 then A else A.map (·.add 0)) = A:=by
     split
     ·rfl
     ·cases A with
      | none=>rfl
      | some ad=>simp [Option.map_some,Addr.add]
    rw [hA] at hrun
    have hown:w.ownsRow 0 e1 sz' (.slice A p.2.toNat c) (rows.take p.2.toNat).length (inner.take (p.2.toNat * sz')):=by
     rw [hlen]
     refine ⟨by rw [aia,o2.1];exact ajK (ajv _ hk),?_⟩
     rcases o2.2 with ⟨e5,e6⟩ | ⟨g,cap,cur,e5,e6,e7,e8,e9,e10,e11⟩
     ·left
      rw [o1] at e5
      injection e5 with e5 e5' KH
      subst e5
      subst KH
      have:p.2.toNat = 0:=by omega
      rw [this]
      exact ⟨rfl,rfl⟩
     ·right
      rw [o1] at e5
      injection e5 with e5 _ KH
      subst e5
      subst KH
      refine ⟨g,c,cur,rfl,e6,e7,by omega,e9,e10,?_⟩
      rw [← e11,List.take_take,ajK (ajv _ hk)]
    have hbk:∀ b,blk (.slice A p.2.toNat c) = some b → b < w.heap.size ∧ (blk (κ key) = some b ∨ w.heap.size ≤ b):=by
     intro b hb1
     have hb2:blk (κ key) = some b:=by rw [o1];cases A <;> exact hb1
     exact ⟨(h.pos _ (get_mem fK) b hb2).2.1,.inl hb2⟩
    have hrel:=h.moved (w':=w) (o':=.row sz' (rows.take p.2.toNat)) (v':=.slice A p.2.toNat c) fK ⟨A,_,c,o1⟩ (ah1 _) (fun _ _ _=>rfl) hbk ⟨rfl,rfl⟩ ⟨o0,e1,_,A,c,by rw [bL,hlen],by rw [bL];exact hown,o3.head _ o2.1⟩
    refine ⟨_,w,_,Fz,.slice A p.2.toNat c,?_,.inl rfl,hrel,⟨by rw [bL],A,c,rfl⟩,fun _ h=>h,fun k hk=>dY (fun e=>by subst e;omega) _⟩
    rw [hv.1,o1,hj,Sem.run_bind,hrun]
    rfl
   ·cases h6
  ·cases h6
 ·cases h6
theorem Uv (h:Rel aV w0 aU N Fz κ σ a w) {t e:TypeId} {sz:Nat} {x y:Operand} {x' y':dF} (hu:P.underlying t = some (.slice e)) (hn:kC P e = some sz) (hx:eY x = some x') (hy:eY y = some y') (hE:bW Γ q σ d (.cutV sz x' y') = some (pv,σ')) :
  Does P aV w0 aU N q d Fz κ σ a w (do let v ← Instr.sliceAt t (a.eval x) (some (a.eval y)) none none;Pure.pure (.value v)) σ' pv:=by
 simp only [bW] at hE
 obtain ⟨v,h1,h2⟩:=zbm hE
 obtain ⟨j,h3,h4⟩:=zbm h2
 obtain ⟨p,h5,h6⟩:=zbm h4
 have hv:=h.eval hx h1
 have hj:=gM h5 (h.eval hy h3)
 split at h6
 ·rename_i key n
  split at h6
  ·rename_i sz' rows fK
   split at h6
   ·rename_i hc
    cases h6
    obtain ⟨rfl,c2,c3⟩:=hc
    obtain ⟨o0,e1,inner,A,c,o1,o2,o3⟩:=h.obj fK
    have hb:(Instr.sliceBounds true rows.length c (some (.int p.1 p.2)) none none).run P w = .ok (p.2.toNat,rows.length,c) w:=by
     have hc':0 ≤ p.2 ∧ p.2 ≤ (rows.length:Int):=⟨c2,c3⟩
     unfold Instr.sliceBounds Instr.sliceBound
     simp only [Sem.run_bind,Sem.run_pure,Result.andThen_ok,iC,ahX hc',Option.isSome_none,ais,aik]
    have hrun:=oM (P:=P) (w:=w) hu hn (A:=A) hb
    refine Does.pure h (v:=.slice (if c = p.2.toNat then A else A.map (·.add (p.2.toNat * sz'))) (rows.length - p.2.toNat) (c - p.2.toNat)) ?_ ⟨A,c,o1,rfl⟩
    rw [hv.1,o1,hj]
    exact hrun
   ·cases h6
  ·cases h6
 ·cases h6
end
end
section
open Go
section
variable {P : Program} {Γ:Env} {aV Fz bg:Nat → Prop} {w0 w w':World} {aU:List Nat} {N:Fr} {d:Nat} {q:Bool} {κ eF:Nat → Value} {σ σ1 σ':St} {a:Act} {pv:PV} {o:Oper}
theorem dX.zeros {sz:Nat} {z:List FV} {zs:List Value} (hz:bX Fz w z zs) (hl:z.length = sz):∀ n,dX Fz w sz (List.replicate n z) (List.replicate n zs).flatten
 | 0=>rfl
 | n + 1=>by
  have hlen:=hz.length
  rw [List.replicate_succ,List.replicate_succ,List.flatten_cons]
  refine ⟨hl,?_,?_⟩
  ·rw [List.take_left' (by omega)];exact hz
  ·rw [List.drop_left' (by omega)];exact dX.zeros hz hl n
theorem Di {α:Type} (zs:List α):∀ n,((List.replicate n zs).flatten).length = n * zs.length
 | 0=>by simp
 | n + 1=>by rw [List.replicate_succ,List.flatten_cons,ah7,Di zs n,aiN];omega
theorem Dj {cells:Array Value} (h:0 < cells.size) (n:Nat):(Builtin.zeroCells cells n).toList = (List.replicate n cells.toList).flatten:=by
 unfold Builtin.zeroCells
 rw [aje,Array.toList_range]
 exact kR cells h n
theorem ze {t e ty:TypeId} {i:TypeInfo} {zv:Value} (hu:P.underlying t = some (.slice e)) (hie:P.info? e = some i) (hz:i.zero = some zv) {g off m c:Nat} {cur:Array Value} {e1:TypeId} (hg:w.heap[g]? = some (.cells cur e1 (0,0))) (hm:0 < m) {zs:List Value} (hzs:(Builtin.zeroCells zv.cells m).toList = zs) (hfit:off + zs.length ≤ cur.size) (h1:∀ u ∈ zs,u.oneCell' = true) :
  (Builtin.clear_ #[t] ty #[.slice (some ⟨g,off,none⟩) m c]).run P w = .ok (.tuple #[]) (w.setRow g (cur.toList.take off ++ zs ++ cur.toList.drop (off + zs.length)).toArray):=by
 obtain ⟨m,rfl⟩:∃ k,m = k + 1:=⟨m - 1,by omega⟩
 have hst:=run_storeCells_at P g off e1 zs 0 cur w hg (by simpa using hfit) h1
 simp only [Nat.add_zero] at hst
 unfold Builtin.clear_
 simp [run_underlying hu,zeroValue,typeInfo,hie,hz,hzs,hst]
theorem wY {t e ty:TypeId} (hu:P.underlying t = some (.slice e)) {A:Option Addr} {c:Nat}:(Builtin.clear_ #[t] ty #[.slice A 0 c]).run P w = .ok (.tuple #[]) w:=by
 unfold Builtin.clear_
 cases A <;> simp [run_underlying hu]
theorem YC (h:Rel aV w0 aU N Fz κ σ a w) {t ty e:TypeId} {sz:Nat} {zp:List PL} {z:List FV} {x:Operand} {x':dF} (hu:P.underlying t = some (.slice e)) (hzp:zF P e = some zp) (hz:pR zp = some z) (hx:eY x = some x') (hE:bW Γ q σ d (.R4 sz z x') = some (pv,σ')) :
  Does P aV w0 aU N q d Fz κ σ a w (do let v ← Builtin.clear_ #[t] ty #[a.eval x];Pure.pure (.value v)) σ' pv:=by
 obtain ⟨v,h1,h2⟩:=zbm hE
 have hv:=h.eval hx h1
 split at h2
 ·rename_i key z' n lo
  split at h2
  ·rename_i sz' rows fK
   split at h2
   ·rename_i hc
    cases h2
    obtain ⟨rfl,rfl,c1,rfl,c2⟩:=hc
    obtain ⟨A,c,hA,Xg⟩:=hv
    obtain ⟨o0,e1,inner,A',c',o1,o2,o3⟩:=h.obj fK
    rw [o1] at hA
    injection hA with hA1 _ hA3
    subst hA1
    subst hA3
    obtain ⟨i,zv,g1,g2,g3⟩:=uq (Fz:=Fz) (κ:=κ) (w:=w) hzp
    have hfs:=qV hz g3
    have hzl:=hfs.length
    rw [Array.length_toList] at hzl
    by_cases hlt:lo < rows.length
    ·rcases o2.2 with ⟨e5,e6⟩ | ⟨g,cap,cur,e5,e6,e7,e8,e9,e10,e11⟩
     ·omega
     ·rw [o1] at e5
      injection e5 with e5 _ KH
      subst e5
      subst KH
      have e:zv.cells.toList.length = z':=by rw [Array.length_toList];omega
      have hzr:=dX.zeros hfs c1 (rows.length - lo)
      have hlz:=Di zv.cells.toList (rows.length - lo)
      have hzc:=Dj (cells:=zv.cells) (by omega) (rows.length - lo)
      rw [e] at hlz
      generalize (List.replicate (rows.length - lo) zv.cells.toList).flatten = Z at hlz hzr hzc
      have hfit:lo * z' + (rows.length - lo) * z' ≤ cur.size:=by
       rw [← Nat.add_mul,e10];exact ajv _ (by omega)
      have hrun:=ze (P:=P) (ty:=ty) (off:=lo * z') (c:=c' - lo) hu g1 g2 e7 (m:=rows.length - lo) (by omega) hzc (by omega) hzr.one
      refine ⟨_,w.setRow g (cur.toList.take (lo * z') ++ Z ++ cur.toList.drop (lo * z' + Z.length)).toArray,κ,Fz,.tuple #[],?_,.inl rfl,Good.set h fK (by simp) (fun k _ hk=>setRow_other w g k _ (fun e=>hk (by rw [o1,e];rfl))) (Kp.setRow _ _ _) ?_ ⟨_,rfl,trivial⟩⟩
      ·rw [Xg,ahY (by omega),Option.map_some,lX,aip,Sem.run_bind,hrun];rfl
      ·have hl:(rows.take lo ++ List.replicate (rows.length - lo) z).length = rows.length:=by
        rw [ah7,aia,List.length_replicate];omega
       have hmv:∀ k,Fz k → (w.setRow g (cur.toList.take (lo * z') ++ Z ++ cur.toList.drop (lo * z' + Z.length)).toArray).heap[k]? = w.heap[k]?:=fun k hk=>setRow_other w g k _ (fun e=>(h.pos _ (get_mem fK) g (by rw [o1];rfl)).1 (e ▸ hk))
       have hle:lo * z' ≤ rows.length * z':=ajv _ c2
       have hti:cur.toList.take (lo * z') = inner.take (lo * z'):=by
        rw [← e11,List.take_take,ajK hle]
       have hsum:lo * z' + (rows.length - lo) * z' = rows.length * z':=by rw [← Nat.add_mul];congr 1;omega
       refine ⟨o0,e1,inner.take (lo * z') ++ Z,some ⟨g,0,none⟩,c',by rw [hl];exact o1,?_,dX.mono (fun _ h=>h) hmv _ _ _ ((o3.head lo o2.1).app hzr)⟩
       rw [hl,o1]
       refine ⟨?_,.inr ⟨g,c',_,rfl,e6,setRow_heap w g cur _ e1 _ e7,e8,e9,?_,?_⟩⟩
       ·rw [ah7,aia,o2.1,ajK hle];omega
       ·simp only [List.size_toArray,ah7,aia,aiv,Array.length_toList]
        omega
       ·have hl2:(cur.toList.take (lo * z') ++ Z).length = rows.length * z':=by
         simp only [ah7,aia,Array.length_toList]
         omega
        rw [← hti,← hl2]
        exact List.take_left
    ·have hlo:lo = rows.length:=by omega
     subst hlo
     have hr:rows.take rows.length ++ List.replicate (rows.length - rows.length) z = rows:=by simp
     rw [hr]
     refine ⟨_,w,κ,Fz,.tuple #[],?_,.inl rfl,Good.set h fK (ah1 _) (fun _ _ _=>rfl) ⟨rfl,rfl⟩ (h.obj fK) ⟨_,rfl,trivial⟩⟩
     rw [Xg,Nat.sub_self,Sem.run_bind,wY hu]
     rfl
   ·cases h2
  ·cases h2
 ·cases h2
theorem dS.of {b:Nat}:∀ {r:List FV} {vs:List Value} {o:Nat},bX Fz w r vs → (∀ j v,vs[j]? = some v → w.cell? ⟨b,o + j,none⟩ = some v) → dS Fz w b o r
 | [],_,_,_,_=>trivial
 | x :: r,[],_,h,_=>h.elim
 | x :: r,v :: vs,o,h,hc=>by
  simp only [dS]
  refine ⟨⟨v,by have:=hc 0 v rfl;rwa [Nat.add_zero] at this,h.1⟩,dS.of h.2 (fun j u hj=>?_)⟩
  have:=hc (j + 1) u (by simpa using hj)
  rwa [show o + (j + 1) = o + 1 + j from by omega] at this
section
variable {g : PL → PL} (hg:∀ x v,dW Fz κ w x v → dW bg κ w (g x) v)
include hg
theorem aM.map : ∀ {xs:List PL} {vs:List Value},aM Fz κ w xs vs → aM bg κ w (xs.map g) vs
 | [],[],_=>trivial
 | x :: xs,v :: vs,h=>⟨hg _ _ h.1,aM.map h.2⟩
 | [],_ :: _,h=>h.elim
 | _ :: _,[],h=>h.elim
theorem fJ.map {x:CV} {v:Value} (h:fJ Fz κ w x v):fJ bg κ w (Kn g x) v:=by
 cases x with
 | one x=>exact hg _ _ h
 | agg xs=>obtain ⟨cs,rfl,h⟩:=h;exact ⟨cs,rfl,aM.map hg h⟩
theorem dH.map : ∀ {xs:List CV} {vs:List Value},dH Fz κ w xs vs → dH bg κ w (xs.map (Kn g)) vs
 | [],[],_=>trivial
 | x :: xs,v :: vs,h=>⟨fJ.map hg h.1,dH.map h.2⟩
 | [],_ :: _,h=>h.elim
 | _ :: _,[],h=>h.elim
theorem gW.map {x:PV} {v:Value} (h:gW Fz κ w x v):gW bg κ w (Uf g x) v:=by
 cases x with
 | c x=>exact fJ.map hg h
 | tZ xs=>obtain ⟨cs,rfl,h⟩:=h;exact ⟨cs,rfl,dH.map hg h⟩
theorem gZ.map {B k:Nat} (hf:∀ b,Fz b → bg b) {x:Ob} (h:gZ B Fz κ w k x):gZ B bg κ w k (Ug g x):=by
 cases x with
 | dM xs=>obtain ⟨b,cs,e,h1,h2,h3⟩:=h;exact ⟨b,cs,e,h1,h2,aM.map hg h3⟩
 | row sz rows=>exact gZ.mono (o:=.row sz rows) hf (fun _ _=>rfl) (fun _ _=>rfl) (fun _ _=>rfl) h
 | map sh ents=>exact gZ.mono (o:=.map sh ents) hf (fun _ _=>rfl) (fun _ _=>rfl) (fun _ _=>rfl) h
end
theorem Uw (h:Rel aV w0 aU N Fz κ σ a w) {key:Nat} {cs:List FV} {v:Value} (hv:dW Fz κ w (.ptr key 0) v) (hs:Xc σ key = some (cs,σ')) :
  ∃ bg,Rel aV w0 aU N bg κ σ' a w ∧ (∀ b,Fz b → bg b) ∧ ∃ b o,v = .pointer (some ⟨b,o,none⟩) ∧ bg b ∧ dS bg w b o cs:=by
 unfold Xc at hs
 split at hs
 ·rename_i xs fK
  obtain ⟨p,h1,h2⟩:=zbm hs
  split at h2
  ·rename_i ob1 adU
   cases h2
   obtain ⟨b,vals,e,o1,o2,o3⟩:=h.obj fK
   obtain ⟨F1,r1,r2,r3⟩:=h.jR o3 h1
   have hkm:=get_mem adU
   have hbk:blk (κ key) = some b:=by rw [o1];rfl
   have hf:∀ x,F1 x → F1 x ∨ x = b:=fun x h=>.inl h
   have hrow:dS (fun x=>F1 x ∨ x = b) w b 0 p.1:=by
    have h0:dS F1 w b 0 p.1:=dS.of r3 (fun j u hj=>by
     rw [aip]
     simp only [World.cell?,o2]
     simpa using hj)
    revert h0
    generalize p.1 = r
    generalize (0:Nat) = o
    induction r generalizing o with
    | nil=>intro _;trivial
    | cons x r ih =>
     intro h0
     simp only [dS] at h0 ⊢
     obtain ⟨⟨u,e1,e2⟩,e3⟩:=h0
     exact ⟨⟨u,e1,eO.mono hf (fun _ _=>rfl) x u e2⟩,ih _ e3⟩
   have hL:∀ x u,dW F1 κ w x u → dW (fun x=>F1 x ∨ x = b) κ w (Km key p.1 x) u:=by
    intro x u hx
    have hm:dW (fun x=>F1 x ∨ x = b) κ w x u:=dW.mono hf (fun _ _=>rfl) (fun _ _=>rfl) hx
    cases x with
    | ptr k o =>
     simp only [Km]
     split
     ·rename_i hk
      subst hk
      obtain ⟨b',g1,g2⟩:=hx
      rw [o1] at g1
      cases g1
      refine ⟨b,o,g2,.inr rfl,?_⟩
      have:=hrow.drop o
      rwa [aip] at this
     ·exact hm
    | _=>exact hm
   refine ⟨fun x=>F1 x ∨ x = b,⟨fun r hr=>?_,h.sz,h.lJ,h.fs,fun r hr=>?_,fun r hr s hs b' hne hb1 hb2=>?_,fun r hr b' hb1=>?_,fun b' hb=>?_,fun b' hb=>.inl (r1.yU b' hb),h.big,h.ext,h.kp⟩,fun x hx=>.inl (r2 x hx),b,0,?_,.inr rfl,hrow⟩
   ·obtain ⟨s,hs,rfl⟩:=aiq.mp hr
    exact gW.map hL (r1.tm s hs)
   ·obtain ⟨s,hs,rfl⟩:=aiq.mp hr
    exact gZ.map hL hf (r1.ob s (eB.mp hs).1)
   ·obtain ⟨r',hr',rfl⟩:=aiq.mp hr
    obtain ⟨s',hs',rfl⟩:=aiq.mp hs
    exact r1.uh r' (eB.mp hr').1 s' (eB.mp hs').1 b' hne hb1 hb2
   ·obtain ⟨r',hr',rfl⟩:=aiq.mp hr
    obtain ⟨m1,m2⟩:=eB.mp hr'
    have:=r1.pos r' m1 b' hb1
    refine ⟨fun hor=>?_,this.2⟩
    rcases hor with h3 | rfl
    ·exact this.1 h3
    ·exact r1.uh r' m1 _ hkm b' m2 hb1 hbk
   ·rcases hb with hb | rfl
    ·exact r1.fz b' hb
    ·have:=r1.pos _ hkm b' hbk
     exact ⟨this.2.1,.inr this.2.2⟩
   ·obtain ⟨b',g1,g2⟩:=hv
    rw [o1] at g1
    cases g1
    exact g2
  ·cases h2
 ·cases hs
theorem Bt : ∀ {l:List CV} {vs:List Value} {caps:List (List FV)} {Fz:Nat → Prop} {σ σ':St},Rel aV w0 aU N Fz κ σ a w → dH Fz κ w l vs → lg q σ l = some (caps,σ') → ∃ bg,Rel aV w0 aU N bg κ σ' a w ∧ (∀ b,Fz b → bg b) ∧ mV bg w caps vs
 | [],[],caps,Fz,σ,σ',h,_,hs=>by simp only [lg] at hs;cases hs;exact ⟨Fz,h,fun _ h=>h,trivial⟩
 | [],_ :: _,_,_,_,_,_,hx,_=>hx.elim
 | _ :: _,[],_,_,_,_,_,hx,_=>hx.elim
 | x :: l,v :: vs,caps,Fz,σ,σ',h,hx,hs=>by
  unfold lg at hs
  split at hs
  ·rename_i heq;cases heq
  ·rename_i cs l' heq
   cases heq
   obtain ⟨r,h1,h2⟩:=zmm hs
   cases h2
   obtain ⟨F1,e1,e2,e3⟩:=Bt h hx.2 h1
   obtain ⟨b,o,g1,g2,g3⟩:=hx.1
   exact ⟨F1,e1,e2,⟨b,o,g1,e2 b g2,dS.mono e2 (fun _ _=>rfl) _ _ _ g2 g3⟩,e3⟩
  ·rename_i key l' heq
   cases heq
   split at hs
   ·cases hs
   ·obtain ⟨p,h1,h2⟩:=zbm hs
    obtain ⟨r,h3,h4⟩:=zmm h2
    cases h4
    obtain ⟨F1,e1,e2,e3⟩:=Uw h hx.1 h1
    obtain ⟨F2,g1,g2,g3⟩:=Bt e1 (dH.mono e2 (fun _ _=>rfl) _ (fun _ _=>rfl) _ hx.2) h3
    obtain ⟨b,o,k1,k2,k3⟩:=e3
    exact ⟨F2,g1,fun b hb=>g2 b (e2 b hb),⟨b,o,k1,g2 b k2,dS.mono g2 (fun _ _=>rfl) _ _ _ k2 k3⟩,g3⟩
  ·cases hs
theorem zN (h:Rel aV w0 aU N Fz κ σ a w):∀ {xs:List Operand} {ys:List dF} {l:List CV},Bc xs = some ys → iT σ ys = some l → dH Fz κ w l (xs.map a.eval)
 | [],ys,l,hx,hv=>by cases hx;cases hv;trivial
 | x :: xs,ys,l,hx,hv=>by
  obtain ⟨y,h1,h2⟩:=zbm hx
  obtain ⟨m,h3,rfl⟩:=zmm h2
  obtain ⟨v,h4,h5⟩:=zbm hv
  obtain ⟨n,h6,rfl⟩:=zmm h5
  exact ⟨h.eval h1 h4,zN h h3 h6⟩
theorem YD (h:Rel aV w0 aU N Fz κ σ a w) {f:FuncId} {first caps:Array Operand} {l:List dF} (h0:first.size = 0) (hc:Bc caps.toList = some l) (hE:bW Γ q σ d (.OA f l) = some (pv,σ')) :
  Does P aV w0 aU N q d Fz κ σ a w (do let v ← Instr.makeFunc (.func f) (first.map a.eval) (caps.map a.eval);Pure.pure (.value v)) σ' pv:=by
 obtain ⟨m,h1,h2⟩:=zbm hE
 obtain ⟨p,h3,h4⟩:=zmm h2
 cases h4
 obtain ⟨F1,e1,e2,e3⟩:=Bt h (zN h hc h1) h3
 have hf:first = #[]:=Array.eq_empty_of_size_eq_zero h0
 subst hf
 refine ⟨.value (.func (.func f) #[] (caps.map a.eval)),w,κ,F1,.func (.func f) #[] (caps.map a.eval),by simp [Instr.makeFunc],.inl rfl,e1,⟨_,?_,e3⟩,e2,fun _ _=>rfl⟩
 rw [← aje,Array.toArray_toList]
end
end
section
open Go
def okT (P:Program) (t:TypeId):Bool:=!P.eqGuardType P.depth t && match P.underlying t with
 | some (.struct fs)=>!P.stoodInHeld t && C9 P fs.toList 0
 | some (.int _)=>true
 | some .string=>true
 | some .bool=>true
 | _=>false
section
variable {P : Program} {t:TypeId} {w:World}
theorem uy {k:SK} (h:C8 P t = some k):(∃ i,P.underlying t = some (.int i) ∧ k = .int i) ∨ (P.underlying t = some .bool ∧ k = .bool) ∨ (P.underlying t = some .string ∧ k = .str):=by
 unfold C8 at h
 split at h <;> simp_all
theorem KI {d:Nat} {k:SK} (h:C8 P t = some k) {a b:SV} (ha:a.sk = k) (hb:b.sk = k):(Op.equalIn (d + 1) t (encS a) (encS b)).run P w = .ok (decide (a = b)) w:=by
 rcases uy h with ⟨i,hu,rfl⟩ | ⟨hu,rfl⟩ | ⟨hu,rfl⟩
 ·cases a <;> cases b <;> simp_all [SV.sk,encS,Op.equalIn,run_underlying hu]
  rw [Bool.eq_iff_iff];simp
 ·cases a <;> cases b <;> simp_all [SV.sk,encS,Op.equalIn,run_underlying hu]
  rw [Bool.eq_iff_iff];simp
 ·cases a <;> cases b <;> simp_all [SV.sk,encS,Op.equalIn,run_underlying hu]
  exact Mq.ug _ _
theorem r9 {k:SK} (h:C8 P t = some k) {xs:Array Value} {o:Nat} {v:Value} (hx:xs[o]? = some v):(part t xs o).run P w = .ok v w:=by
 rcases uy h with ⟨i,hu,rfl⟩ | ⟨hu,rfl⟩ | ⟨hu,rfl⟩ <;> simp [part,isAgg,run_underlying hu,hx]
theorem uz {d:Nat} {xs ys:Array Value}:∀ {fs:List Field} {i:Nat} {ks:List SK} {ZZ9 bs:List SV},C9 P fs i = true → EW P fs = some ks → ZZ9.map SV.sk = ks → bs.map SV.sk = ks → (∀ j:Nat,xs[i + j]? = ZZ9[j]?.map encS) → (∀ j:Nat,ys[i + j]? = bs[j]?.map encS) →
  (Op.eqFields (d + 1) xs ys fs).run P w = .ok (decide (ZZ9 = bs)) w
 | [],i,ks,ZZ9,bs,_,hk,ha,hb,_,_=>by
  cases hk
  simp only [List.map_eq_nil_iff] at ha hb
  subst ha;subst hb
  simp [Op.eqFields]
 | f :: fs,i,ks,ZZ9,bs,hf,hk,ha,hb,hx,hy=>by
  obtain ⟨k,h1,h2⟩:=zbm hk
  obtain ⟨l,h3,rfl⟩:=zmm h2
  unfold C9 at hf
  simp only [ah5,ajn,ne_eq,aiH] at hf
  obtain ⟨⟨⟨f1,f2⟩,f3⟩,f4⟩:=hf
  cases ZZ9 with
  | nil=>simp at ha
  | cons a ZZ9 =>
  cases bs with
  | nil=>simp at hb
  | cons b bs =>
  simp only [ah8,ai3] at ha hb
  have ex:xs[f.offset]? = some (encS a):=by rw [f2];simpa using hx 0
  have ey:ys[f.offset]? = some (encS b):=by rw [f2];simpa using hy 0
  have ih:=uz (d:=d) f4 h3 ha.2 hb.2 (fun j=>by have:=hx (j + 1);rw [show i + 1 + j = i + (j + 1) from by omega];simpa using this) (fun j=>by have:=hy (j + 1);rw [show i + 1 + j = i + (j + 1) from by omega];simpa using this)
  unfold Op.eqFields
  rw [ahX f1]
  simp only [Sem.run_bind,r9 h1 ex,r9 h1 ey,Result.andThen_ok,KI h1 ha.1 hb.1,ai3]
  by_cases hab:a = b
  ·subst hab;simp [ih]
  ·simp [hab]
theorem OY {e:Bool} {n:Nat} {k:SK} (h:C8 P t = some k) {a:SV} (ha:a.sk = k):(Instr.checkKey e (n + 1) t (encS a)).run P w = .ok () w:=by
 rcases uy h with ⟨i,hu,rfl⟩ | ⟨hu,rfl⟩ | ⟨hu,rfl⟩ <;> cases a <;> simp_all [SV.sk,encS,Instr.checkKey,run_underlying hu]
theorem Dk {e:Bool} {n:Nat} {cs:Array Value}:∀ {fs:List Field} {i:Nat} {ks:List SK} {ZZ9:List SV},C9 P fs i = true → EW P fs = some ks → ZZ9.map SV.sk = ks → (∀ j:Nat,cs[i + j]? = ZZ9[j]?.map encS) →
  (forIn fs PUnit.unit (fun (f:Field) (_:PUnit)=>(do
   if f.name ≠ "_" then Instr.checkKey e (n + 1) f.type (← part f.type cs f.offset)
   pure (ForInStep.yield PUnit.unit):Sem (ForInStep PUnit)))).run P w = .ok PUnit.unit w
 | [],i,ks,ZZ9,_,_,_,_=>by simp
 | f :: fs,i,ks,ZZ9,hf,hk,ha,hx=>by
  obtain ⟨k,h1,h2⟩:=zbm hk
  obtain ⟨l,h3,rfl⟩:=zmm h2
  unfold C9 at hf
  simp only [ah5,ajn,ne_eq,aiH] at hf
  obtain ⟨⟨⟨f1,f2⟩,f3⟩,f4⟩:=hf
  cases ZZ9 with
  | nil=>simp at ha
  | cons a ZZ9 =>
  simp only [ah8,ai3] at ha
  have ex:cs[f.offset]? = some (encS a):=by rw [f2];simpa using hx 0
  have ih:=Dk (e:=e) (n:=n) f4 h3 ha.2 (fun j=>by have:=hx (j + 1);rw [show i + 1 + j = i + (j + 1) from by omega];simpa using this)
  rw [List.forIn_cons]
  simp only [ahX f1,Sem.run_bind,r9 h1 ex,Result.andThen_ok,OY h1 ha.1,Sem.run_pure]
  exact ih
theorem OZ {e:Bool} {n:Nat} {fs:Array Field} {ks:List SK} {ZZ9:List SV} (hu:P.underlying t = some (.struct fs)) (hf:C9 P fs.toList 0 = true) (hk:EW P fs.toList = some ks) (ha:ZZ9.map SV.sk = ks):(Instr.checkKey e (n + 2) t (.agg (ZZ9.map encS).toArray)).run P w = .ok () w:=by
 have:=Dk (w:=w) (e:=e) (n:=n) hf hk ha (cs:=(ZZ9.map encS).toArray) (fun j=>by simp)
 unfold Instr.checkKey
 simp only [Sem.run_bind,run_underlying hu,Result.andThen_ok]
 rw [← Array.forIn_toList]
 simp only [ne_eq,ite_not] at this ⊢
 simp at this ⊢
 rw [this]
 rfl
theorem O1 {n:Nat} {ZZ9:List SV} (hs:∀ (n:Nat) (a:SV),Instr.sameBits n (encS a) (encS a) = true):Instr.sameBits (n + 1) (.agg (ZZ9.map encS).toArray) (.agg (ZZ9.map encS).toArray) = true:=by
 unfold Instr.sameBits
 simp only [beq_self_eq_true,Bool.true_and,aib]
 intro p hp
 have:∀ (l:List Value) (p:Value × Value),p ∈ l.zip l → p.1 = p.2 ∧ p.1 ∈ l:=by
  intro l
  induction l with
  | nil=>intro p hp;simp at hp
  | cons x l ih =>
   intro p hp
   rcases aif.mp hp with rfl | hp
   ·exact ⟨rfl,by simp⟩
   ·exact ⟨(ih p hp).1,aiQ _ (ih p hp).2⟩
 obtain ⟨h1,h2⟩:=this _ _ hp
 obtain ⟨x,y⟩:=p
 simp only at h1 h2
 subst h1
 simp only [aiq] at h2
 obtain ⟨s,_,rfl⟩:=h2
 exact hs _ s
theorem GD {n:Nat} (a:SV):Instr.sameBits n (encS a) (encS a) = true:=by
 cases a <;> simp [encS,Instr.sameBits]
 rw [Mq.ug];simp
theorem oN {ks:List SK} {a:KV} (h:a.ks = .agg ks):∃ ZZ9,a = .agg ZZ9 ∧ ZZ9.map SV.sk = ks:=by
 cases a with
 | one x=>cases h
 | agg ZZ9=>exact ⟨ZZ9,rfl,by simpa [KV.ks] using h⟩
theorem zO {k:SK} {a:KV} (h:a.ks = .one k):∃ x,a = .one x ∧ x.sk = k:=by
 cases a with
 | one x=>exact ⟨x,rfl,by simpa [KV.ks] using h⟩
 | agg ZZ9=>cases h
theorem O4 {n:Nat} {d:TypeDesc} (hu:P.underlying t = some d) (hd:∀ ms,d ≠ .interface ms):(Op.eqGuardIn (n + 1) t .nilIface .nilIface).run P w = .ok false w:=by
 unfold Op.eqGuardIn
 simp only [Sem.run_bind,run_underlying hu,Result.andThen_ok]
 cases d <;> first | rfl | exact absurd rfl (hd _)
theorem Bu {d:TypeDesc} (hu:P.underlying t = some d) (hd:∀ ms,d ≠ .interface ms) (w:World):(Op.eqGuardIn Op.maxDepth t .nilIface .nilIface).run P w = .ok false w:=by
 unfold Op.maxDepth
 exact O4 hu hd
theorem Ux (h:okT P t = true):kL P t:=by
 unfold okT at h
 rw [ah5] at h
 obtain ⟨hg,h⟩:=h
 have hg':P.eqGuardType P.depth t = false:=by simpa using hg
 have gd:(∀ w,(Op.eqGuardIn Op.maxDepth t .nilIface .nilIface).run P w = .ok false w) → ∀ op x y,∀ (a b:Value) (w:World),(eqGuard op t x y a b).run P w = .ok () w:=by
  intro hn op x y a b w
  have key:(Sem.run P (match a,b with
   | .nilIface,.nilIface=>do
    if (x matches .const _) || (y matches .const _) then return
    if ← Op.eqGuardIn Op.maxDepth t a b then unsupported (.noEntry "binop/eql: two nil values of an interface type with methods, neither of them the literal nil")
   | .agg _,.agg _=>do
    if !(← program).eqGuardType (← program).depth t then return
    if ← Op.eqGuardIn Op.maxDepth t a b then unsupported (.noEntry "binop/eql: two nil values of an interface type with methods, in a part of a struct or an array")
   | _,_=>pure ()) w) = .ok () w:=by
   cases a <;> cases b <;> first | rfl | (simp only [Sem.run_bind,run_program,Result.andThen_ok,hg'];rfl) | skip
   cases x <;> cases y <;> first | rfl | simp [hn]
  unfold eqGuard
  split
  ·exact key
  ·exact key
  ·rfl
 cases hu:P.underlying t with
 | none=>rw [hu] at h;cases h
 | some d =>
  rw [hu] at h
  have sc:∀ k,C8 P t = some k → wS P t = some (.one k) → (∀ w,(Op.eqGuardIn Op.maxDepth t .nilIface .nilIface).run P w = .ok false w) → (∀ a:SV,a.sk = k → MapKept.IsKey d (encS a)) → (∀ a b:SV,a.sk = k → b.sk = k → Instr.sameNow d (encS a) (encS b) = some (decide (a = b))) → kL P t:=by
   intro k hk hks hn h1 h2
   have hcase:∀ {sh},wS P t = some sh → sh = .one k:=fun e=>by rw [hks] at e;cases e;rfl
   refine ⟨fun sh e=>?_,fun sh e a b w ha hb=>?_,gd hn⟩
   ·obtain rfl:=hcase e
    refine Mq.Key.OI hu (fun a ha=>?_) (fun a b ha hb=>?_) (fun a ha=>?_)
    ·obtain ⟨x,rfl,hx⟩:=zO ha;exact h1 x hx
    ·obtain ⟨x,rfl,hx⟩:=zO ha
     obtain ⟨y,rfl,hy⟩:=zO hb
     simp only [kQ,KV.one.injEq]
     exact h2 x y hx hy
    ·obtain ⟨x,rfl,hx⟩:=zO ha;exact GD x
   ·obtain rfl:=hcase e
    obtain ⟨x,rfl,hx⟩:=zO ha
    obtain ⟨y,rfl,hy⟩:=zO hb
    simp only [kQ,KV.one.injEq]
    unfold Op.equal Op.maxDepth
    exact KI hk hx hy
  cases d with
  | int i =>
   refine sc (.int i) (by simp [C8,hu]) (by simp [wS,C8,hu]) (Bu hu (fun _ h=>by cases h)) (fun a ha=>?_) (fun a b ha hb=>?_)
   ·cases a <;> simp_all [SV.sk,encS,MapKept.IsKey]
   ·cases a <;> cases b <;> simp_all [SV.sk,encS,Instr.sameNow]
    rw [Bool.eq_iff_iff];simp
  | bool =>
   refine sc .bool (by simp [C8,hu]) (by simp [wS,C8,hu]) (Bu hu (fun _ h=>by cases h)) (fun a ha=>?_) (fun a b ha hb=>?_)
   ·cases a <;> simp_all [SV.sk,encS,MapKept.IsKey]
   ·cases a <;> cases b <;> simp_all [SV.sk,encS,Instr.sameNow]
    rw [Bool.eq_iff_iff];simp
  | string =>
   refine sc .str (by simp [C8,hu]) (by simp [wS,C8,hu]) (Bu hu (fun _ h=>by cases h)) (fun a ha=>?_) (fun a b ha hb=>?_)
   ·cases a <;> simp_all [SV.sk,encS,MapKept.IsKey]
   ·cases a <;> cases b <;> simp_all [SV.sk,encS,Instr.sameNow]
    exact Mq.ug _ _
  | struct fs =>
   simp only [ah5,Bool.not_eq_true'] at h
   have hcase:∀ {sh},wS P t = some sh → ∃ ks,EW P fs.toList = some ks ∧ sh = .agg ks:=fun e=>by
    unfold wS at e
    rw [hu] at e
    obtain ⟨ks,h1,h2⟩:=zmm e
    exact ⟨ks,h1,h2.symm⟩
   have idx:∀ (ZZ9:List SV) (j:Nat),((ZZ9.map encS).toArray)[0 + j]? = ZZ9[j]?.map encS:=fun ZZ9 j=>by simp
   have heq:∀ sh,wS P t = some sh → ∀ (a b:KV) (w:World),a.ks = sh → b.ks = sh → (Op.equal t (kQ a) (kQ b)).run P w = .ok (decide (a = b)) w:=by
    intro sh e a b w ha hb
    obtain ⟨ks,hks,rfl⟩:=hcase e
    obtain ⟨ZZ9,rfl,ha1⟩:=oN ha
    obtain ⟨bs,rfl,hb1⟩:=oN hb
    have hf:P.fieldsOf t = fs:=by simp [Program.fieldsOf,hu]
    unfold Op.equal Op.maxDepth
    simp only [kQ,KV.agg.injEq]
    rw [run_equalIn_struct (P:=P) w _ t _ _ (by rw [hf];exact hu) h.1,hf]
    exact uz h.2 hks ha1 hb1 (idx ZZ9) (idx bs)
   refine ⟨fun sh e=>?_,heq,gd (Bu hu (fun _ h=>by cases h))⟩
   ·obtain ⟨ks,hks,rfl⟩:=hcase e
    refine Mq.Key.Kq hu (fun e' a w ha=>?_) (fun a b w ha hb=>heq _ e a b w ha hb) (fun a ha=>?_) (fun a ha=>?_)
    ·obtain ⟨ZZ9,rfl,ha1⟩:=oN ha
     exact OZ (n:=9998) hu h.2 hks ha1
    ·obtain ⟨ZZ9,rfl,ha1⟩:=oN ha
     exact O1 (n:=9999) (fun n a=>GD a)
    ·obtain ⟨ZZ9,rfl,ha1⟩:=oN ha
     exact ⟨_,rfl⟩
  | _=>simp at h
end
end
section
open Go
section
variable {P : Program} {t:TypeId} {w:World}
theorem O5 {gs:Array Field} {m:Nat} (hu:P.underlying t = some (.struct gs)) (hs:kC P t = some m) (xs:Array Value) (o:Nat):(part t xs o).run P w = .ok (.agg (xs.extract o (o + m))) w:=by
 have h:=lY (w:=w) hs
 unfold part
 simp only [Sem.run_bind,isAgg,run_underlying hu,Result.andThen_ok,Sem.run_pure,aiu,h]
theorem ext_eq {xs:Array Value} {ZZ9:List SV} {i n:Nat} (hx:∀ j:Nat,xs[i + j]? = ZZ9[j]?.map encS):xs.extract i (i + n) = ((ZZ9.take n).map encS).toArray:=by
 apply Array.ext'
 rw [Array.toList_extract]
 simp only [List.extract,Nat.add_sub_cancel_left]
 apply ai4
 intro j
 rw [aiI,aiS,ah3,aiI]
 have:=hx j
 rw [← ai7] at this
 rw [this]
 split <;> rfl
theorem wZ {d:Nat} {xs ys:Array Value}:∀ {fs:List Field} {i:Nat} {ks:List SK} {ZZ9 bs:List SV},Yh P fs i = some ks → ZZ9.map SV.sk = ks → bs.map SV.sk = ks → (∀ j:Nat,xs[i + j]? = ZZ9[j]?.map encS) → (∀ j:Nat,ys[i + j]? = bs[j]?.map encS) →
  (Op.eqFields (d + 2) xs ys fs).run P w = .ok (decide (ZZ9 = bs)) w
 | [],i,ks,ZZ9,bs,hk,ha,hb,_,_=>by
  cases hk
  simp only [List.map_eq_nil_iff] at ha hb
  subst ha;subst hb
  simp [Op.eqFields]
 | f :: fs,i,ks,ZZ9,bs,hk,ha,hb,hx,hy=>by
  unfold Yh at hk
  split at hk
  case isFalse=>cases hk
  rename_i hc
  simp only [ah5,ajn,ne_eq,aiH] at hc
  obtain ⟨f1,f2⟩:=hc
  unfold Op.eqFields
  rw [ahX f1]
  split at hk
  ·rename_i k hsk
   obtain ⟨l,h3,rfl⟩:=zmm hk
   cases ZZ9 with
   | nil=>simp at ha
   | cons a ZZ9 =>
   cases bs with
   | nil=>simp at hb
   | cons b bs =>
   simp only [ah8,ai3] at ha hb
   have ex:xs[f.offset]? = some (encS a):=by rw [f2];simpa using hx 0
   have ey:ys[f.offset]? = some (encS b):=by rw [f2];simpa using hy 0
   have ih:=wZ (d:=d) h3 ha.2 hb.2 (fun j=>by have:=hx (j + 1);rw [show i + 1 + j = i + (j + 1) from by omega];simpa using this) (fun j=>by have:=hy (j + 1);rw [show i + 1 + j = i + (j + 1) from by omega];simpa using this)
   simp only [Sem.run_bind,r9 hsk ex,r9 hsk ey,Result.andThen_ok,KI hsk ha.1 hb.1,ai3]
   by_cases hab:a = b
   ·subst hab;simp [ih]
   ·simp [hab]
  ·split at hk
   ·rename_i gs hu
    split at hk
    case isFalse=>cases hk
    rename_i hc2
    simp only [ah5,Bool.not_eq_true'] at hc2
    obtain ⟨g1,g2⟩:=hc2
    obtain ⟨m,hm,hk⟩:=zbm hk
    split at hk
    case isFalse=>cases hk
    rename_i hsz
    obtain ⟨l,h3,rfl⟩:=zmm hk
    have ea:xs.extract f.offset (f.offset + m.length) = ((ZZ9.take m.length).map encS).toArray:=by rw [f2];exact ext_eq hx
    have eb:ys.extract f.offset (f.offset + m.length) = ((bs.take m.length).map encS).toArray:=by rw [f2];exact ext_eq hy
    have ta:(ZZ9.take m.length).map SV.sk = m:=by rw [List.map_take,ha,List.take_left'];rfl
    have tb:(bs.take m.length).map SV.sk = m:=by rw [List.map_take,hb,List.take_left'];rfl
    have da:(ZZ9.drop m.length).map SV.sk = l:=by rw [List.map_drop,ha,List.drop_left'];rfl
    have db:(bs.drop m.length).map SV.sk = l:=by rw [List.map_drop,hb,List.drop_left'];rfl
    have hf:P.fieldsOf f.type = gs:=by simp [Program.fieldsOf,hu]
    have inner:(Op.equalIn (d + 2) f.type (.agg ((ZZ9.take m.length).map encS).toArray) (.agg ((bs.take m.length).map encS).toArray)).run P w = .ok (decide (ZZ9.take m.length = bs.take m.length)) w:=by
     rw [run_equalIn_struct (P:=P) w _ f.type _ _ (by rw [hf];exact hu) g1,hf]
     exact uz g2 hm ta tb (fun j=>by rw [aip,List.getElem?_toArray,ah3]) (fun j=>by rw [aip,List.getElem?_toArray,ah3])
    have ih:=wZ (d:=d) (xs:=xs) (ys:=ys) (i:=i + m.length) h3 da db (fun j=>by rw [Nat.add_assoc,hx,aiS]) (fun j=>by rw [Nat.add_assoc,hy,aiS])
    simp only [Sem.run_bind,O5 hu hsz,Result.andThen_ok,ea,eb,inner,ih]
    have key:(ZZ9 = bs) ↔ (ZZ9.take m.length = bs.take m.length ∧ ZZ9.drop m.length = bs.drop m.length):=⟨fun e=>by subst e;exact ⟨rfl,rfl⟩,fun ⟨e1,e2⟩=>by rw [← aju m.length ZZ9,← aju m.length bs,e1,e2]⟩
    by_cases h1:ZZ9.take m.length = bs.take m.length
    ·simp [key,h1,ih]
    ·simp [key,h1]
   ·cases hk
theorem O6 {x y:Operand} {l:List SK} (h:ksN P t = some l):rX P t x y (.agg l) .eql false ∧ rX P t x y (.agg l) .neq true:=by
 unfold ksN at h
 split at h
 case h_2=>cases h
 rename_i fs hu
 split at h
 case isFalse=>cases h
 rename_i hc
 simp only [ah5,Bool.not_eq_true'] at hc
 obtain ⟨hg,hst⟩:=hc
 have hf:P.fieldsOf t = fs:=by simp [Program.fieldsOf,hu]
 have heq:∀ (a b:KV) (w:World),a.ks = .agg l → b.ks = .agg l → (Op.equal t (kQ a) (kQ b)).run P w = .ok (decide (a = b)) w:=by
  intro a b w ha hb
  obtain ⟨ZZ9,rfl,ha1⟩:=oN ha
  obtain ⟨bs,rfl,hb1⟩:=oN hb
  unfold Op.equal Op.maxDepth
  simp only [kQ,KV.agg.injEq]
  rw [run_equalIn_struct (P:=P) w _ t _ _ (by rw [hf];exact hu) hst,hf]
  exact wZ (d:=9997) h ha1 hb1 (fun j=>by simp) (fun j=>by simp)
 constructor
 ·intro a b w ha hb
  have:=heq a b w ha hb
  obtain ⟨ZZ9,rfl,_⟩:=oN ha
  obtain ⟨bs,rfl,_⟩:=oN hb
  refine iU (run_eqGuard_agg w _ t x y _ _ hg) ?_
  simp only [kQ] at this ⊢
  simp only [binOp,Sem.run_bind,this,Result.andThen_ok,Sem.run_pure]
  simp
 ·intro a b w ha hb
  have:=heq a b w ha hb
  obtain ⟨ZZ9,rfl,_⟩:=oN ha
  obtain ⟨bs,rfl,_⟩:=oN hb
  refine iU (run_eqGuard_agg w _ t x y _ _ hg) ?_
  simp only [kQ] at this ⊢
  simp only [binOp,Sem.run_bind,this,Result.andThen_ok,Sem.run_pure]
  simp
end
end
section
open Go
section
variable {P : Program} {Γ:Env} {aV Fz bg:Nat → Prop} {w0 w w':World} {aU:List Nat} {N:Fr} {d:Nat} {q:Bool} {κ eF:Nat → Value} {σ σ1 σ':St} {a:Act} {pv:PV} {o:Oper}
theorem KJ {ks:List SK} {k:KV} (h:k.ks = .agg ks):∃ cs,kQ k = .agg cs:=by
 cases k with
 | one x=>cases h
 | agg xs=>exact ⟨_,rfl⟩
theorem KL (h:Rel aV w0 aU N Fz κ σ a w) {op:BinOp} {t e:TypeId} {neg:Bool} {x y:Operand} {x' y':dF} (hu:P.underlying t = some (.pointer e)) (hop:(op = .eql ∧ neg = false) ∨ (op = .neq ∧ neg = true)) (hx:eY x = some x') (hy:eY y = some y') (hn:Ku y' = true) (hE:bW Γ q σ d (.wF neg x') = some (pv,σ')) :
  Does P aV w0 aU N q d Fz κ σ a w (do let v ← (do eqGuard op t x y (a.eval x) (a.eval y);binOp op t (a.eval x) (a.eval y):Sem Value);Pure.pure (.value v)) σ' pv:=by
 have hyv:a.eval y = .pointer none:=by
  unfold Ku at hn
  split at hn
  ·exact h.eval (v:=.one .iw) hy rfl
  ·cases hn
 have hpt:P.underlying t = some (.pointer (P.pointee t)):=by unfold Program.pointee;rw [hu]
 obtain ⟨v,h1,h2⟩:=zbm hE
 have hv:=h.eval hx h1
 have hg:∀ p:Option Addr,(eqGuard op t x y (.pointer p) (.pointer none)).run P w = .ok () w:=by
  intro p
  unfold eqGuard
  rcases hop with ⟨rfl,_⟩ | ⟨rfl,_⟩ <;> rfl
 have run:∀ p:Option Addr,a.eval x = .pointer p → pv = .c (.one (.f (.bool (if neg then !p.isNone else p.isNone)))) → σ' = σ → Does P aV w0 aU N q d Fz κ σ a w (do let v ← (do eqGuard op t x y (a.eval x) (a.eval y);binOp op t (a.eval x) (a.eval y):Sem Value);Pure.pure (.value v)) σ' pv:=by
  intro p hp hpv hs
  subst hpv
  subst hs
  refine Does.pure h (v:=.bool (if neg then !p.isNone else p.isNone)) ?_ rfl
  rw [hp,hyv]
  simp only [Sem.run_bind,hg,Result.andThen_ok]
  rcases hop with ⟨rfl,rfl⟩ | ⟨rfl,rfl⟩
  ·exact run_eql_pointer_nil w t p hpt
  ·exact run_neq_pointer_nil w t p hpt
 split at h2
 ·cases h2;exact run none hv (by cases neg <;> rfl) rfl
 ·cases h2;obtain ⟨b,_,hb⟩:=hv;exact run _ hb (by cases neg <;> rfl) rfl
 ·cases h2;obtain ⟨b,o,hb,_⟩:=hv;exact run _ hb (by cases neg <;> rfl) rfl
 ·cases h2;obtain ⟨b,_,_,_,hb⟩:=hv;exact run _ hb (by cases neg <;> rfl) rfl
 ·cases h2
theorem KM {X:Hx} (heq:∀ t ∈ X.eqs,kL P t) (h:Rel aV w0 aU N Fz κ σ a w) {i:I} (hc:jv P X o = some i) (hi:Kw i = false) (hE:bW Γ q σ d i = some (pv,σ')):Does P aV w0 aU N q d Fz κ σ a w (execOp a.eval o) σ' pv:=by
 have mem:∀ {t:TypeId},X.eqs.contains t = true → kL P t:=fun ht=>heq _ (by simpa using ht)
 unfold jv at hc
 split at hc
 ·
  rename_i x ho
  obtain ⟨x',h1,rfl⟩:=zmm hc
  unfold execOp;simp only [ho]
  exact Yj h h1 hE
 ·rename_i x ho
  obtain ⟨x',h1,rfl⟩:=zmm hc
  unfold execOp;simp only [ho]
  exact Yj h h1 hE
 ·rename_i c x y ho
  obtain ⟨c',h1,hc⟩:=zbm hc
  obtain ⟨x',h2,hc⟩:=zbm hc
  obtain ⟨y',h3,rfl⟩:=zmm hc
  unfold execOp;simp only [ho]
  exact Uk h h1 h2 h3 hE
 ·rename_i e ho
  obtain ⟨z,h1,rfl⟩:=zmm hc
  unfold execOp;simp only [ho]
  exact OP h h1 hE
 ·rename_i e x ho
  obtain ⟨x',h1,rfl⟩:=zmm hc
  unfold execOp;simp only [ho]
  exact Yu h h1 hE
 ·rename_i t ps ho
  split at hc
  ·rename_i fs hu
   split at hc
   ·rename_i hall
    obtain ⟨z,h1,hc⟩:=zbm hc
    obtain ⟨l,h2,rfl⟩:=zmm hc
    unfold execOp;simp only [ho]
    exact OQ h hu hall h1 h2 hE
   ·cases hc
  ·rename_i n e hu
   obtain ⟨sz,h0,hc⟩:=zbm hc
   obtain ⟨z,h1,hc⟩:=zbm hc
   obtain ⟨l,h2,rfl⟩:=zmm hc
   unfold execOp;simp only [ho]
   exact KA h hu h0 h1 h2 hE
  ·cases hc
 ·rename_i t len ps ho
  obtain ⟨e,h1,hc⟩:=zbm hc
  obtain ⟨sz,h2,hc⟩:=zbm hc
  split at hc
  ·cases hc
  ·rename_i hs
   obtain ⟨z,h3,hc⟩:=zbm hc
   split at hc
   ·rename_i hz
    obtain ⟨l,h4,e4⟩:=zmm hc
    unfold execOp;simp only [ho]
    split at e4
    ·subst e4;exact Yv h (uo h1) h2 hs h3 hz h4 hE
    ·subst e4;exact R9 h (uo h1) h2 hs h3 hz h4 hE
   ·cases hc
 ·rename_i t x ho
  obtain ⟨g,h1,hc⟩:=zbm hc
  obtain ⟨n,h2,hc⟩:=zbm hc
  obtain ⟨x',h3,rfl⟩:=zmm hc
  unfold execOp;simp only [ho]
  exact Ul h h1 h2 h3 hE
 ·rename_i t x y ho
  obtain ⟨n,h1,hc⟩:=zbm hc
  obtain ⟨x',h2,hc⟩:=zbm hc
  obtain ⟨y',h3,rfl⟩:=zmm hc
  unfold execOp;simp only [ho]
  exact OV h h1 h2 h3 hE
 ·rename_i x ho
  obtain ⟨x',h1,rfl⟩:=zmm hc
  exact Um h h1 hE ho
 ·rename_i op t x y u ho
  obtain ⟨x',h1,hc⟩:=zbm hc
  obtain ⟨y',h2,hc⟩:=zbm hc
  unfold execOp;simp only [ho]
  split at hc
  ·split at hc
   ·rename_i hop;cases hc;subst hop;exact Ym h h1 h2 hE
   ·split at hc
    ·rename_i hop;cases hc;subst hop;exact qH h zJ.1 h1 h2 hE
    ·split at hc
     ·rename_i hop;cases hc;subst hop;exact qH h zJ.2 h1 h2 hE
     ·cases hc
  ·split at hc
   ·rename_i hop;cases hc;exact adP h hop h1 h2 hE
   ·split at hc
    ·rename_i hop;cases hc;exact YA h hop h1 h2 hE
    ·split at hc
     ·rename_i hop;cases hc;exact Sb h (.inl ⟨hop,rfl⟩) h1 h2 hE
     ·split at hc
      ·rename_i hop;cases hc;exact Sb h (.inr ⟨hop,rfl⟩) h1 h2 hE
      ·obtain ⟨c,h3,rfl⟩:=zmm hc
       exact Yl h h3 h1 h2 hE
  ·rename_i hu
   split at hc
   ·rename_i hop;cases hc;subst hop;exact qH h (wU hu).1 h1 h2 hE
   ·split at hc
    ·rename_i hop;cases hc;subst hop;exact qH h (wU hu).2 h1 h2 hE
    ·cases hc
  ·rename_i e hu
   split at hc
   ·rename_i hn
    split at hc
    ·rename_i hop;cases hc;exact KL h hu (.inl ⟨hop,rfl⟩) h1 h2 hn hE
    ·split at hc
     ·rename_i hop;cases hc;exact KL h hu (.inr ⟨hop,rfl⟩) h1 h2 hn hE
     ·cases hc
   ·cases hc
  ·rename_i e hu
   split at hc
   ·rename_i hn
    split at hc
    ·rename_i hop;cases hc;exact KG h hu (.inl ⟨hop,rfl⟩) h1 h2 hn hE
    ·split at hc
     ·rename_i hop;cases hc;exact KG h hu (.inr ⟨hop,rfl⟩) h1 h2 hn hE
     ·cases hc
   ·cases hc
  ·rename_i fs hu
   split at hc
   ·rename_i he
    obtain ⟨sh,h3,hc⟩:=zbm hc
    have hsh:∃ ks,sh = .agg ks:=by
     unfold wS at h3
     rw [hu] at h3
     obtain ⟨ks,_,rfl⟩:=zmm h3
     exact ⟨ks,rfl⟩
    obtain ⟨ks,rfl⟩:=hsh
    have hr:=Dc (x:=x) (y:=y) (mem he) h3 (fun _ hk=>KJ hk)
    split at hc
    ·rename_i hop;cases hc;subst hop;exact qH h hr.1 h1 h2 hE
    ·split at hc
     ·rename_i hop;cases hc;subst hop;exact qH h hr.2 h1 h2 hE
     ·cases hc
   ·obtain ⟨ks,h3,hc⟩:=zbm hc
    have hr:=O6 (x:=x) (y:=y) h3
    split at hc
    ·rename_i hop;cases hc;subst hop;exact qH h hr.1 h1 h2 hE
    ·split at hc
     ·rename_i hop;cases hc;subst hop;exact qH h hr.2 h1 h2 hE
     ·cases hc
  ·rename_i n e hu
   split at hc
   ·rename_i he
    obtain ⟨sh,h3,hc⟩:=zbm hc
    have hsh:∃ ks,sh = .agg ks:=by
     unfold wS at h3
     rw [hu] at h3
     obtain ⟨ks,_,rfl⟩:=zmm h3
     exact ⟨_,rfl⟩
    obtain ⟨ks,rfl⟩:=hsh
    have hr:=Dc (x:=x) (y:=y) (mem he) h3 (fun _ hk=>KJ hk)
    split at hc
    ·rename_i hop;cases hc;subst hop;exact qH h hr.1 h1 h2 hE
    ·split at hc
     ·rename_i hop;cases hc;subst hop;exact qH h hr.2 h1 h2 hE
     ·cases hc
   ·cases hc
  ·cases hc
 ·rename_i t x ho
  obtain ⟨x',h1,rfl⟩:=zmm hc
  unfold execOp;simp only [ho]
  exact adM h h1 hE
 ·rename_i src dst x ho
  unfold execOp;simp only [ho]
  split at hc
  ·rename_i hs hd
   obtain ⟨x',h1,rfl⟩:=zmm hc
   exact adN h hs hd h1 hE
  ·rename_i hs hd
   obtain ⟨x',h1,rfl⟩:=zmm hc
   exact Yk h hs hd h1 hE
  ·rename_i e hs hd
   split at hc
   ·rename_i he hz
    obtain ⟨x',h1,rfl⟩:=zmm hc
    exact YB h hs he hd h1 hE
   ·cases hc
  ·cases hc
 ·rename_i t ho
  obtain ⟨m,h1,hc⟩:=zbm hc
  obtain ⟨sh,h2,rfl⟩:=zmm hc
  unfold execOp;simp only [ho,Option.map_none]
  exact OW h hE
 ·rename_i t x lo hi0 ho
  unfold execOp;simp only [ho,Option.map_none]
  split at hc
  ·rename_i hu
   obtain ⟨x',h1,hc⟩:=zbm hc
   obtain ⟨lo',h2,hc⟩:=zbm hc
   obtain ⟨hi',h3,rfl⟩:=zmm hc
   exact Ur h hu h1 h2 h3 hE
  ·rename_i e hu
   obtain ⟨sz,h0,hc⟩:=zbm hc
   obtain ⟨x',h1,hc⟩:=zbm hc
   obtain ⟨lo',h2,hc⟩:=zbm hc
   obtain ⟨hi',h3,hc⟩:=zbm hc
   split at hc
   ·split at hc
    ·rename_i hi1
     cases hc
     cases lo with
     | some l=>obtain ⟨_,_,h⟩:=zmm h2;cases h
     | none =>
      cases hi0 with
      | none=>cases h3
      | some hv =>
       obtain ⟨y',h4,h5⟩:=zmm h3
       cases h5
       simp only [Option.map_none,Option.map_some]
       exact Uu h hu h0 h1 h4 hE
    ·cases hc
   ·split at hc
    ·split at hc
     ·rename_i lo1
      cases hc
      cases hi0 with
      | some l=>obtain ⟨_,_,h⟩:=zmm h3;cases h
      | none =>
       cases lo with
       | none=>cases h2
       | some hv =>
        obtain ⟨y',h4,h5⟩:=zmm h2
        cases h5
        simp only [Option.map_none,Option.map_some]
        exact Uv h hu h0 h1 h4 hE
     ·cases hc
    ·cases hc
     exact Yw h hu h0 h1 h2 h3 hE
  ·cases hc
 ·rename_i t x f ho
  obtain ⟨fd,h1,hc⟩:=zbm hc
  obtain ⟨n,h2,hc⟩:=zbm hc
  split at hc
  ·cases hc
  ·rename_i h0
   obtain ⟨x',h3,rfl⟩:=zmm hc
   unfold execOp;simp only [ho]
   exact adS h h1 h2 h0 h3 hE
 ·rename_i t x f ho
  obtain ⟨fd,h1,hc⟩:=zbm hc
  obtain ⟨n,h2,hc⟩:=zbm hc
  obtain ⟨g,h3,hc⟩:=zbm hc
  obtain ⟨x',h4,rfl⟩:=zmm hc
  unfold execOp;simp only [ho]
  exact Yq h h1 h2 h3 h4 hE
 ·rename_i t x y ho
  split at hc
  ·rename_i off ha
   obtain ⟨x',h1,rfl⟩:=zmm hc
   unfold execOp;simp only [ho]
   exact Yp h ha h1 hE
  obtain ⟨e,h1,hc⟩:=zbm hc
  obtain ⟨sz,h2,hc⟩:=zbm hc
  obtain ⟨x',h3,hc⟩:=zbm hc
  obtain ⟨y',h4,rfl⟩:=zmm hc
  unfold execOp;simp only [ho]
  exact adT h h1 h2 h3 h4 hE
 ·rename_i t x y ho
  unfold execOp;simp only [ho]
  split at hc
  ·rename_i hu
   obtain ⟨x',h1,hc⟩:=zbm hc
   obtain ⟨y',h2,rfl⟩:=zmm hc
   exact Yo h hu h1 h2 hE
  ·rename_i n e hu
   obtain ⟨sz,h1,hc⟩:=zbm hc
   obtain ⟨g,h2,hc⟩:=zbm hc
   split at hc
   ·cases hc
   ·rename_i hg
    obtain ⟨x',h3,hc⟩:=zbm hc
    obtain ⟨y',h4,rfl⟩:=zmm hc
    exact Yr h hu h1 h2 (fun e=>by rw [not_and] at hg;exact aiJ.mp (hg e)) h3 h4 hE
  ·cases hc
 ·rename_i t x k ok ho
  obtain ⟨m,h1,hc⟩:=zbm hc
  split at hc
  ·rename_i he
   obtain ⟨sh,h2,hc⟩:=zbm hc
   obtain ⟨z,h3,hc⟩:=zbm hc
   obtain ⟨x',h4,hc⟩:=zbm hc
   obtain ⟨k',h5,rfl⟩:=zmm hc
   unfold execOp;simp only [ho]
   exact Us h h1 (mem he) h2 h3 h4 h5 hE
  ·cases hc
 ·rename_i t m k x ho
  obtain ⟨mm,h1,hc⟩:=zbm hc
  split at hc
  ·rename_i he
   obtain ⟨sh,h2,hc⟩:=zbm hc
   obtain ⟨m',h3,hc⟩:=zbm hc
   obtain ⟨k',h4,hc⟩:=zbm hc
   obtain ⟨x',h5,rfl⟩:=zmm hc
   unfold execOp;simp only [ho]
   exact KF h h1 (mem he) h2 h3 h4 h5 hE
  ·cases hc
 ·rename_i t m k x ho
  obtain ⟨mm,h1,hc⟩:=zbm hc
  split at hc
  ·rename_i he
   obtain ⟨sh,h2,hc⟩:=zbm hc
   obtain ⟨m',h3,hc⟩:=zbm hc
   obtain ⟨k',h4,hc⟩:=zbm hc
   obtain ⟨x',h5,rfl⟩:=zmm hc
   unfold execOp;simp only [ho]
   exact KF h h1 (mem he) h2 h3 h4 h5 hE
  ·cases hc
 ·rename_i x i ho
  obtain ⟨x',h1,rfl⟩:=zmm hc
  unfold execOp;simp only [ho]
  exact Yn h h1 hE
 ·rename_i f first caps ho
  split at hc
  ·rename_i h0
   obtain ⟨l,h1,rfl⟩:=zmm hc
   unfold execOp;simp only [ho]
   exact YD h h0 h1 hE
  ·cases hc
 ·
  rename_i c ho
  have hargs:∀ {xs:Array Operand} {l:List Operand},xs.toList = l → xs.map a.eval = (l.map a.eval).toArray:=fun h=>by rw [← h,← aje,Array.toArray_toList]
  split at hc
  ·split at hc
   ·obtain ⟨l,h1,rfl⟩:=zmm hc;cases hi
   ·cases hc
  ·rename_i nM
   split at hc
   ·rename_i x t h1 h2
    have e1:c.args.map a.eval = #[a.eval x]:=by rw [hargs h1];rfl
    have e2:c.argTypes[0]? = some t:=by rw [← ai7,h2];rfl
    unfold execOp resolve;simp only [ho,nM,Sem.run_bind,Sem.run_pure,Result.andThen_ok,e1]
    split at hc
    ·rename_i hu
     obtain ⟨x',h3,rfl⟩:=zmm hc
     exact Un (u:=o.type) h e2 hu h3 hE
    ·rename_i e hu
     obtain ⟨x',h3,rfl⟩:=zmm hc
     exact Uo (u:=o.type) h e2 hu h3 hE
    ·rename_i k e hu
     obtain ⟨x',h3,rfl⟩:=zmm hc
     exact Uq (u:=o.type) h e2 hu h3 hE
    ·cases hc
   ·cases hc
  ·rename_i nM
   split at hc
   ·rename_i x y t u h1 h2
    have e1:c.args.map a.eval = #[a.eval x,a.eval y]:=by rw [hargs h1];rfl
    split at hc
    ·rename_i htu
     subst htu
     have e2:c.argTypes = #[t,t]:=by rw [← Array.toArray_toList (xs:=c.argTypes),h2]
     obtain ⟨e,h3,hc⟩:=zbm hc
     obtain ⟨sz,h4,hc⟩:=zbm hc
     obtain ⟨ER,h5,hc⟩:=zbm hc
     obtain ⟨z,h6,hc⟩:=zbm hc
     split at hc
     ·rename_i hz
      obtain ⟨x',h7,hc⟩:=zbm hc
      obtain ⟨y',h8,rfl⟩:=zmm hc
      unfold execOp resolve;simp only [ho,nM,Sem.run_bind,Sem.run_pure,Result.andThen_ok,e1,e2]
      exact Yz (ty:=o.type) h (uo h3) h4 h5 h6 hz.1 hz.2.1 hz.2.2 h7 h8 hE
     ·cases hc
    ·cases hc
   ·cases hc
  ·rename_i nM
   split at hc
   ·rename_i x y h1
    have e1:c.args.map a.eval = #[a.eval x,a.eval y]:=by rw [hargs h1];rfl
    obtain ⟨x',h7,hc⟩:=zbm hc
    obtain ⟨y',h8,rfl⟩:=zmm hc
    unfold execOp resolve;simp only [ho,nM,Sem.run_bind,Sem.run_pure,Result.andThen_ok,e1]
    exact adQ (u:=o.type) h h7 h8 hE
   ·cases hc
  ·rename_i nM
   split at hc
   ·rename_i x y h1
    have e1:c.args.map a.eval = #[a.eval x,a.eval y]:=by rw [hargs h1];rfl
    obtain ⟨x',h7,hc⟩:=zbm hc
    obtain ⟨y',h8,rfl⟩:=zmm hc
    unfold execOp resolve;simp only [ho,nM,Sem.run_bind,Sem.run_pure,Result.andThen_ok,e1]
    exact adR (u:=o.type) h h7 h8 hE
   ·cases hc
  ·rename_i nM
   split at hc
   ·rename_i x y t k h1 h2
    have e1:c.args.map a.eval = #[a.eval x,a.eval y]:=by rw [hargs h1];rfl
    have e2:c.argTypes = #[t,k]:=by rw [← Array.toArray_toList (xs:=c.argTypes),h2]
    obtain ⟨m,h3,hc⟩:=zbm hc
    split at hc
    ·rename_i he
     obtain ⟨sh,h4,hc⟩:=zbm hc
     obtain ⟨x',h7,hc⟩:=zbm hc
     obtain ⟨y',h8,rfl⟩:=zmm hc
     unfold execOp resolve;simp only [ho,nM,Sem.run_bind,Sem.run_pure,Result.andThen_ok,e1,e2,he.2]
     exact Yy (ty:=o.type) h h3 (mem he.1) h4 h7 h8 hE
    ·cases hc
   ·cases hc
  ·rename_i nM
   split at hc
   ·rename_i x t h1 h2
    have e1:c.args.map a.eval = #[a.eval x]:=by rw [hargs h1];rfl
    have e2:c.argTypes = #[t]:=by rw [← Array.toArray_toList (xs:=c.argTypes),h2]
    obtain ⟨e,h3,hc⟩:=zbm hc
    obtain ⟨sz,h4,hc⟩:=zbm hc
    obtain ⟨zp,h5,hc⟩:=zbm hc
    obtain ⟨z,h6,hc⟩:=zbm hc
    split at hc
    ·obtain ⟨x',h7,rfl⟩:=zmm hc
     unfold execOp resolve;simp only [ho,nM,Sem.run_bind,Sem.run_pure,Result.andThen_ok,e1,e2]
     exact YC (ty:=o.type) h (uo h3) h5 h6 h7 hE
    ·cases hc
   ·cases hc
  ·cases hc
 ·cases hc
end
end
section
open Go
def oq (v:Value):List Nat:=match blk v with
 | some b=>[b]
 | none=>[]
def iP (Fz:Nat → Prop) (w:World) (sz:Nat) (rows:List (List FV)) (v:Value) (bs:List Nat):Prop :=
 0 < sz ∧ ∃ e inner A c,v = .slice A rows.length c ∧ w.ownsRow 0 e sz v rows.length inner ∧ dX Fz w sz rows inner ∧ bs = oq v
def Dl (Fz:Nat → Prop) (w:World):CL → Value → List Nat → Prop
 | .f x,v,bs=>eO Fz w x v ∧ bs = []
 | .iw,v,bs=>v = .pointer none ∧ bs = []
 | .eH,v,bs=>v = .map none ∧ bs = []
 | .mp sh ents,v,bs=>∃ b,v = .map (some b) ∧ y8 Fz w sh ents b ∧ bs = [b]
 | .own sz rows,v,bs=>iP Fz w sz rows v bs
def oO (Fz:Nat → Prop) (w:World):List CL → List Value → List Nat → Prop
 | [],[],bs=>bs = []
 | x :: xs,v :: vs,bs=>∃ b1 b2,Dl Fz w x v b1 ∧ oO Fz w xs vs b2 ∧ bs = b1 ++ b2
 | _,_,_=>False
def mE (Fz:Nat → Prop) (w:World):TV → Value → List Nat → Prop
 | .f x,v,bs=>eO Fz w x v ∧ bs = []
 | .iw,v,bs=>v = .pointer none ∧ bs = []
 | .eH,v,bs=>v = .map none ∧ bs = []
 | .ptr cs,v,bs=>∃ b vals e ms,v = .pointer (some ⟨b,0,none⟩) ∧ w.heap[b]? = some (.cells vals e (0,0)) ∧ oO Fz w cs vals.toList ms ∧ bs = b :: ms
 | .mp sh ents,v,bs=>∃ b,v = .map (some b) ∧ y8 Fz w sh ents b ∧ bs = [b]
 | .own sz rows,v,bs=>iP Fz w sz rows v bs
 | .fp cs,v,bs=>dW Fz (fun _=>undef) w (.fp cs) v ∧ bs = []
 | .fn f cs,v,bs=>dW Fz (fun _=>undef) w (.fn f cs) v ∧ bs = []
 | .any,_,bs=>bs = []
def j5 (Fz:Nat → Prop) (w:World):List TV → List Value → List Nat → Prop
 | [],[],bs=>bs = []
 | x :: xs,v :: vs,bs=>∃ b1 b2,mE Fz w x v b1 ∧ j5 Fz w xs vs b2 ∧ bs = b1 ++ b2
 | _,_,_=>False
def ou (Fz:Nat → Prop) (w:World):AV → Value → List Nat → Prop
 | .one x,v,bs=>mE Fz w x v bs
 | .agg xs,v,bs=>∃ cs,v = .agg cs ∧ j5 Fz w xs cs.toList bs
def eZ (Fz:Nat → Prop) (w:World):List AV → List Value → List Nat → Prop
 | [],[],bs=>bs = []
 | x :: xs,v :: vs,bs=>∃ b1 b2,ou Fz w x v b1 ∧ eZ Fz w xs vs b2 ∧ bs = b1 ++ b2
 | _,_,_=>False
section
variable {Fz bg:Nat → Prop} {w w':World}
theorem y8.mono {sh:KS} {ents:List (KV × FC)} {b:Nat} (hf:∀ b,Fz b → bg b) (hw:∀ b,Fz b → w'.heap[b]? = w.heap[b]?) (hb:w'.heap[b]? = w.heap[b]?) (h:y8 Fz w sh ents b):y8 bg w' sh ents b:=by
 obtain ⟨l,h1,h2,h3⟩:=h
 exact ⟨l,h1.move hb,gY.mono hf hw _ _ h2,h3⟩
theorem iP.mono (hf:∀ b,Fz b → bg b) (hw:∀ b,Fz b → w'.heap[b]? = w.heap[b]?) {sz:Nat} {rows:List (List FV)} {v:Value} {bs:List Nat} (hb:∀ b ∈ bs,w'.heap[b]? = w.heap[b]?) (h:iP Fz w sz rows v bs):iP bg w' sz rows v bs:=by
 obtain ⟨h0,e,inner,A,c,h1,h2,h3,h4⟩:=h
 refine ⟨h0,e,inner,A,c,h1,zD h2 (fun k hk=>hb k ?_),dX.mono hf hw _ _ _ h3,h4⟩
 rw [h4,oq,Ba hk]
 simp
theorem Dl.mono (hf:∀ b,Fz b → bg b) (hw:∀ b,Fz b → w'.heap[b]? = w.heap[b]?) {x:CL} {v:Value} {bs:List Nat} (hb:∀ b ∈ bs,w'.heap[b]? = w.heap[b]?) (h:Dl Fz w x v bs):Dl bg w' x v bs:=by
 cases x with
 | f x=>exact ⟨eO.mono hf hw x v h.1,h.2⟩
 | iw=>exact h
 | eH=>exact h
 | mp sh ents=>obtain ⟨b,h1,h2,rfl⟩:=h;exact ⟨b,h1,h2.mono hf hw (hb b (by simp)),rfl⟩
 | own sz rows=>exact iP.mono hf hw hb h
theorem oO.mono (hf:∀ b,Fz b → bg b) (hw:∀ b,Fz b → w'.heap[b]? = w.heap[b]?):∀ {xs:List CL} {vs:List Value} {bs:List Nat},(∀ b ∈ bs,w'.heap[b]? = w.heap[b]?) → oO Fz w xs vs bs → oO bg w' xs vs bs
 | [],[],_,_,h=>h
 | x :: xs,v :: vs,_,hb,⟨b1,b2,h1,h2,e⟩=>⟨b1,b2,h1.mono hf hw (fun b h=>hb b (by rw [e];simp [h])),oO.mono hf hw (fun b h=>hb b (by rw [e];simp [h])) h2,e⟩
 | [],_ :: _,_,_,h=>h.elim
 | _ :: _,[],_,_,h=>h.elim
theorem mE.mono (hf:∀ b,Fz b → bg b) (hw:∀ b,Fz b → w'.heap[b]? = w.heap[b]?) {x:TV} {v:Value} {bs:List Nat} (hb:∀ b ∈ bs,w'.heap[b]? = w.heap[b]?) (h:mE Fz w x v bs):mE bg w' x v bs:=by
 cases x with
 | f x=>exact ⟨eO.mono hf hw x v h.1,h.2⟩
 | iw=>exact h
 | eH=>exact h
 | ptr cs =>
  obtain ⟨b,vals,e,ms,h1,h2,h3,rfl⟩:=h
  exact ⟨b,vals,e,ms,h1,(hb b (by simp)).trans h2,h3.mono hf hw (fun b h=>hb b (by simp [h])),rfl⟩
 | mp sh ents=>obtain ⟨b,h1,h2,rfl⟩:=h;exact ⟨b,h1,h2.mono hf hw (hb b (by simp)),rfl⟩
 | own sz rows=>exact iP.mono hf hw hb h
 | fp cs=>exact ⟨dW.mono hf hw (fun _ _=>rfl) h.1,h.2⟩
 | fn f cs=>exact ⟨dW.mono hf hw (fun _ _=>rfl) h.1,h.2⟩
 | any=>exact h
theorem j5.mono (hf:∀ b,Fz b → bg b) (hw:∀ b,Fz b → w'.heap[b]? = w.heap[b]?):∀ {xs:List TV} {vs:List Value} {bs:List Nat},(∀ b ∈ bs,w'.heap[b]? = w.heap[b]?) → j5 Fz w xs vs bs → j5 bg w' xs vs bs
 | [],[],_,_,h=>h
 | x :: xs,v :: vs,_,hb,⟨b1,b2,h1,h2,e⟩=>⟨b1,b2,h1.mono hf hw (fun b h=>hb b (by rw [e];simp [h])),j5.mono hf hw (fun b h=>hb b (by rw [e];simp [h])) h2,e⟩
 | [],_ :: _,_,_,h=>h.elim
 | _ :: _,[],_,_,h=>h.elim
theorem ou.mono (hf:∀ b,Fz b → bg b) (hw:∀ b,Fz b → w'.heap[b]? = w.heap[b]?) {x:AV} {v:Value} {bs:List Nat} (hb:∀ b ∈ bs,w'.heap[b]? = w.heap[b]?) (h:ou Fz w x v bs):ou bg w' x v bs:=by
 cases x with
 | one x=>exact mE.mono hf hw hb h
 | agg xs=>obtain ⟨cs,rfl,h⟩:=h;exact ⟨cs,rfl,h.mono hf hw hb⟩
theorem eZ.mono (hf:∀ b,Fz b → bg b) (hw:∀ b,Fz b → w'.heap[b]? = w.heap[b]?):∀ {xs:List AV} {vs:List Value} {bs:List Nat},(∀ b ∈ bs,w'.heap[b]? = w.heap[b]?) → eZ Fz w xs vs bs → eZ bg w' xs vs bs
 | [],[],_,_,h=>h
 | x :: xs,v :: vs,_,hb,⟨b1,b2,h1,h2,e⟩=>⟨b1,b2,h1.mono hf hw (fun b h=>hb b (by rw [e];simp [h])),eZ.mono hf hw (fun b h=>hb b (by rw [e];simp [h])) h2,e⟩
 | [],_ :: _,_,_,h=>h.elim
 | _ :: _,[],_,_,h=>h.elim
end
structure bO (aV:Nat → Prop) (w0:World) (aU:List Nat) (N:Fr) (bs:List Nat) (Fz:Nat → Prop) (κ:Nat → Value) (σ:St) (a:Act) (w:World):Prop where
 rel:Rel aV w0 aU N Fz κ σ a w
 lJ:bs.Nodup
 ap:∀ b ∈ bs,¬ Fz b ∧ b < w.heap.size ∧ (b ∈ aU ∨ w0.heap.size ≤ b) ∧ ∀ p ∈ σ.ob,blk (κ p.1) ≠ some b
section
variable {P : Program} {Γ:Env} {aV Fz bg:Nat → Prop} {w0 w w':World} {aU bs YE:List Nat} {N:Fr} {d:Nat} {q:Bool} {κ eF:Nat → Value} {σ σ1 σ':St} {a:Act} {pv:PV} {o:Oper}
theorem Rel.x (h:Rel aV w0 aU N Fz κ σ a w):bO aV w0 aU N [] Fz κ σ a w:=⟨h,ajC,fun b hb=>by simp at hb⟩
theorem bO.take (h:bO aV w0 aU N bs Fz κ σ a w) {key b:Nat} {ob:Ob} (hk:get σ.ob key = some ob) (hb:blk (κ key) = some b):bO aV w0 aU N (b :: bs) Fz κ ⟨σ.tm,rem σ.ob key⟩ a w:=by
 have hkm:=get_mem hk
 have hp:=h.rel.pos _ hkm b hb
 refine ⟨h.rel.less (fun _ h=>h) (fun p hp=>(eB.mp hp).1),List.nodup_cons.mpr ⟨fun hb'=>(h.ap b hb').2.2.2 _ hkm hb,h.lJ⟩,fun b' hb'=>?_⟩
 rcases aif.mp hb' with rfl | hb'
 ·refine ⟨hp.1,hp.2.1,hp.2.2,fun p hp' e=>?_⟩
  obtain ⟨h1,h2⟩:=eB.mp hp'
  exact h.rel.uh p h1 _ hkm b' h2 e hb
 ·have:=h.ap b' hb'
  exact ⟨this.1,this.2.1,this.2.2.1,fun p hp'=>this.2.2.2 p (eB.mp hp').1⟩
theorem bO.GH (h:bO aV w0 aU N bs Fz κ σ a w) {key sz:Nat} {rows:List (List FV)} (hk:get σ.ob key = some (.row sz rows)):bO aV w0 aU N (oq (κ key) ++ bs) Fz κ ⟨σ.tm,rem σ.ob key⟩ a w ∧ iP Fz w sz rows (κ key) (oq (κ key)):=by
 obtain ⟨o0,e,inner,A,c,o1,o2,o3⟩:=h.rel.obj hk
 refine ⟨?_,o0,e,inner,A,c,o1,o2,o3,rfl⟩
 cases hb:blk (κ key) with
 | some b=>simp only [oq,hb];exact h.take hk hb
 | none =>
  simp only [oq,hb,List.nil_append]
  exact ⟨h.rel.less (fun _ h=>h) (fun p hp=>(eB.mp hp).1),h.lJ,fun b' hb'=>by
   have:=h.ap b' hb'
   exact ⟨this.1,this.2.1,this.2.2.1,fun p hp'=>this.2.2.2 p (eB.mp hp').1⟩⟩
theorem bO.perm (h:bO aV w0 aU N bs Fz κ σ a w) (hp:bs.Perm YE):bO aV w0 aU N YE Fz κ σ a w:=⟨h.rel,hp.nodup_iff.mp h.lJ,fun b hb=>h.ap b (hp.mem_iff.mpr hb)⟩
theorem bO.yT (h:bO aV w0 aU N bs Fz κ σ a w) {key sz:Nat} {rows:List (List FV)} (hk:get σ.ob key = some (.row sz rows)) (hs:Ev.yT σ key = some σ'):∃ bg,bO aV w0 aU N bs bg κ σ' a w ∧ (∀ b,Fz b → bg b) ∧ (∀ b,blk (κ key) = some b → bg b) ∧ eO bg w (.sl rows) (κ key):=by
 have hs':=hs
 unfold Ev.yT at hs
 rw [hk] at hs
 cases hs
 have hkm:=get_mem hk
 obtain ⟨bg,g1,g2,g3,g4⟩:=h.rel.Yt hk
 refine ⟨bg,⟨g1,h.lJ,fun b hb=>?_⟩,g2,fun b hb=>(g4 b).mpr (.inr hb),g3⟩
 have:=h.ap b hb
 refine ⟨fun hf=>?_,this.2.1,this.2.2.1,fun p hp=>?_⟩
 ·rcases (g4 b).mp hf with h1 | h1
  ·exact this.1 h1
  ·exact this.2.2.2 _ hkm h1
 ·obtain ⟨r,hr,rfl⟩:=aiq.mp hp
  exact this.2.2.2 r (eB.mp hr).1
theorem bO.uU (h:bO aV w0 aU N bs Fz κ σ a w) {x:PL} {y:FV} {v:Value} (hx:dW Fz κ w x v) (hs:Ev.uU σ x = some (y,σ')):∃ bg,bO aV w0 aU N bs bg κ σ' a w ∧ (∀ b,Fz b → bg b) ∧ eO bg w y v:=by
 cases x with
 | f x=>cases hs;exact ⟨Fz,h,fun _ h=>h,hx⟩
 | bK=>cases hs;exact ⟨Fz,h,fun _ h=>h,by simp only [eO];exact ⟨none,0,hx,ah1 _,by simp,.inl trivial⟩⟩
 | own key n =>
  simp only [Ev.uU] at hs
  split at hs
  ·rename_i sz rows hk
   obtain ⟨s,h1,h2⟩:=zmm hs
   cases h2
   obtain ⟨bg,e1,e2,_,e3⟩:=h.yT hk h1
   exact ⟨bg,e1,e2,by rw [hx.1];exact e3⟩
  ·cases hs
 | _=>cases hs
theorem Uy (h:bO aV w0 aU N bs Fz κ σ a w) {x:PL} {y:CL} {v:Value} (hx:dW Fz κ w x v) (hs:IK σ x = some (y,σ')):∃ bg bx,bO aV w0 aU N (bx ++ bs) bg κ σ' a w ∧ (∀ b,Fz b → bg b) ∧ Dl bg w y v bx:=by
 cases x with
 | f x=>cases hs;exact ⟨Fz,[],h,fun _ h=>h,hx,rfl⟩
 | bK=>cases hs;exact ⟨Fz,[],h,fun _ h=>h,by simp only [eO];exact ⟨none,0,hx,ah1 _,by simp,.inl trivial⟩,rfl⟩
 | iw=>cases hs;exact ⟨Fz,[],h,fun _ h=>h,hx,rfl⟩
 | eH=>cases hs;exact ⟨Fz,[],h,fun _ h=>h,hx,rfl⟩
 | own key n =>
  simp only [IK] at hs
  split at hs
  ·rename_i sz rows fK
   cases hs
   obtain ⟨g1,g2⟩:=h.GH fK
   exact ⟨Fz,_,g1,fun _ h=>h,by rw [hx.1];exact g2⟩
  ·cases hs
 | mp key =>
  simp only [IK] at hs
  split at hs
  ·rename_i sh ents fK
   cases hs
   obtain ⟨b,h1,h2⟩:=h.rel.obj fK
   exact ⟨Fz,[b],h.take fK (by rw [h1];rfl),fun _ h=>h,b,by rw [hx.1,h1],h2,rfl⟩
  ·cases hs
 | _=>cases hs
theorem Bv : ∀ {xs:List PL} {ys:List CL} {vs:List Value} {bs:List Nat} {Fz:Nat → Prop} {σ σ':St},bO aV w0 aU N bs Fz κ σ a w → aM Fz κ w xs vs → yZ σ xs = some (ys,σ') → ∃ bg bx,bO aV w0 aU N (bx ++ bs) bg κ σ' a w ∧ (∀ b,Fz b → bg b) ∧ oO bg w ys vs bx
 | [],ys,[],bs,Fz,σ,σ',h,_,hs=>by cases hs;exact ⟨Fz,[],h,fun _ h=>h,rfl⟩
 | x :: xs,ys,v :: vs,bs,Fz,σ,σ',h,hx,hs=>by
  obtain ⟨p,h1,h2⟩:=zbm hs
  obtain ⟨r,h3,h4⟩:=zmm h2
  cases h4
  obtain ⟨F1,b1,e1,e2,e3⟩:=Uy h hx.1 h1
  obtain ⟨F2,b2,e4,e5,e6⟩:=Bv e1 (aM.mono e2 (fun _ _=>rfl) xs (fun _ _=>rfl) vs hx.2) h3
  refine ⟨F2,b1 ++ b2,e4.perm ?_,fun b hb=>e5 b (e2 b hb),b1,b2,e3.mono e5 (fun _ _=>rfl) (fun _ _=>rfl),e6,rfl⟩
  rw [← aiP]
  exact List.perm_append_comm.append_right bs
 | [],_,_ :: _,_,_,_,_,_,h,_=>h.elim
 | _ :: _,_,[],_,_,_,_,_,h,_=>h.elim
def sj (gv:Bool) (κ:Nat → Value) (xs:List PL) (b:Nat):Prop:=gv = false ∧ ∃ key n,PL.own key n ∈ xs ∧ blk (κ key) = some b
theorem EZ {gv:Bool} (h:bO aV w0 aU N bs Fz κ σ a w) {x:PL} {y:TV} {v:Value} (hx:dW Fz κ w x v) (hs:qP gv σ x = some (y,σ')):∃ bg bx,bO aV w0 aU N (bx ++ bs) bg κ σ' a w ∧ (∀ b,Fz b → bg b) ∧ mE (fun b=>bg b ∨ sj gv κ [x] b) w y v bx:=by
 have hor:∀ {F:Nat → Prop} b,F b → F b ∨ sj gv κ [x] b:=fun b h=>.inl h
 cases x with
 | f x=>cases hs;exact ⟨Fz,[],h,fun _ h=>h,eO.mono hor (fun _ _=>rfl) x v hx,rfl⟩
 | bK=>cases hs;exact ⟨Fz,[],h,fun _ h=>h,by simp only [eO];exact ⟨none,0,hx,ah1 _,by simp,.inl trivial⟩,rfl⟩
 | iw=>cases hs;exact ⟨Fz,[],h,fun _ h=>h,hx,rfl⟩
 | eH=>cases hs;exact ⟨Fz,[],h,fun _ h=>h,hx,rfl⟩
 | own key n =>
  simp only [qP] at hs
  split at hs
  ·rename_i sz rows fK
   split at hs
   ·cases hs
    obtain ⟨g1,g2⟩:=h.GH fK
    exact ⟨Fz,_,g1,fun _ h=>h,by rw [hx.1];exact g2.mono hor (fun _ _=>rfl) (fun _ _=>rfl)⟩
   ·rename_i hg
    cases hs
    refine ⟨Fz,[],h,fun _ h=>h,?_,rfl⟩
    rw [hx.1]
    exact qR hor (fun b hb=>.inr ⟨by simpa using hg,key,n,by simp,hb⟩) (h.rel.obj fK)
  ·cases hs
 | fp cs=>cases hs;exact ⟨Fz,[],h,fun _ h=>h,dW.mono (κ:=κ) (eF:=fun _=>undef) hor (fun _ _=>rfl) (fun k hk=>by cases hk) hx,rfl⟩
 | fn f cs=>cases hs;exact ⟨Fz,[],h,fun _ h=>h,dW.mono (κ:=κ) (eF:=fun _=>undef) hor (fun _ _=>rfl) (fun k hk=>by cases hk) hx,rfl⟩
 | mp key =>
  simp only [qP] at hs
  split at hs
  ·rename_i sh ents fK
   cases hs
   obtain ⟨b,h1,h2⟩:=h.rel.obj fK
   exact ⟨Fz,[b],h.take fK (by rw [h1];rfl),fun _ h=>h,b,by rw [hx.1,h1],h2.mono hor (fun _ _=>rfl) rfl,rfl⟩
  ·cases hs
 | ptr key off =>
  cases off with
  | succ n=>cases hs
  | zero =>
   simp only [qP] at hs
   split at hs
   ·rename_i xs fK
    obtain ⟨p,h1,h2⟩:=zmm hs
    cases h2
    obtain ⟨b,cs,e,g1,g2,g3⟩:=h.rel.obj fK
    obtain ⟨b',g4,g5⟩:=hx
    rw [g1] at g4
    cases g4
    obtain ⟨F1,bx,e1,e2,e3⟩:=Bv (h.take fK (by rw [g1];rfl)) g3 h1
    refine ⟨F1,b :: bx,e1.perm ?_,e2,b,cs,e,bx,g5,g2,e3.mono hor (fun _ _=>rfl) (fun _ _=>rfl),rfl⟩
    exact List.perm_middle
   ·cases hs
 | _=>cases hs
theorem GI {gv:Bool}:∀ {xs:List PL} {ys:List TV} {vs:List Value} {bs:List Nat} {Fz:Nat → Prop} {σ σ':St},bO aV w0 aU N bs Fz κ σ a w → aM Fz κ w xs vs → qQ gv σ xs = some (ys,σ') → ∃ bg bx,bO aV w0 aU N (bx ++ bs) bg κ σ' a w ∧ (∀ b,Fz b → bg b) ∧ j5 (fun b=>bg b ∨ sj gv κ xs b) w ys vs bx
 | [],ys,[],bs,Fz,σ,σ',h,_,hs=>by cases hs;exact ⟨Fz,[],h,fun _ h=>h,rfl⟩
 | x :: xs,ys,v :: vs,bs,Fz,σ,σ',h,hx,hs=>by
  obtain ⟨p,h1,h2⟩:=zbm hs
  obtain ⟨r,h3,h4⟩:=zmm h2
  cases h4
  obtain ⟨F1,b1,e1,e2,e3⟩:=EZ h hx.1 h1
  obtain ⟨F2,b2,e4,e5,e6⟩:=GI e1 (aM.mono e2 (fun _ _=>rfl) xs (fun _ _=>rfl) vs hx.2) h3
  refine ⟨F2,b1 ++ b2,e4.perm ?_,fun b hb=>e5 b (e2 b hb),b1,b2,e3.mono (fun b hb=>?_) (fun _ _=>rfl) (fun _ _=>rfl),e6.mono (fun b hb=>?_) (fun _ _=>rfl) (fun _ _=>rfl),rfl⟩
  ·rw [← aiP]
   exact List.perm_append_comm.append_right bs
  ·rcases hb with hb | ⟨hg,k,n,hm,hb⟩
   ·exact .inl (e5 b hb)
   ·exact .inr ⟨hg,k,n,by simp at hm;simp [hm],hb⟩
  ·rcases hb with hb | ⟨hg,k,n,hm,hb⟩
   ·exact .inl hb
   ·exact .inr ⟨hg,k,n,by simp [hm],hb⟩
 | [],_,_ :: _,_,_,_,_,_,h,_=>h.elim
 | _ :: _,_,[],_,_,_,_,_,h,_=>h.elim
theorem KN {gv:Bool} (h:bO aV w0 aU N bs Fz κ σ a w) {x:CV} {y:AV} {v:Value} (hx:fJ Fz κ w x v) (hs:J7 gv σ x = some (y,σ')):∃ bg bx,bO aV w0 aU N (bx ++ bs) bg κ σ' a w ∧ (∀ b,Fz b → bg b) ∧ ou (fun b=>bg b ∨ sj gv κ (Ev.cells x) b) w y v bx:=by
 cases x with
 | one x =>
  obtain ⟨p,h1,h2⟩:=zmm hs
  cases h2
  exact EZ h hx h1
 | agg xs =>
  obtain ⟨p,h1,h2⟩:=zmm hs
  cases h2
  obtain ⟨cs,rfl,hx⟩:=hx
  obtain ⟨F1,b1,e1,e2,e3⟩:=GI h hx h1
  exact ⟨F1,b1,e1,e2,cs,rfl,e3⟩
theorem Bw {gv:Bool}:∀ {xs:List CV} {ys:List AV} {vs:List Value} {bs:List Nat} {Fz:Nat → Prop} {σ σ':St},bO aV w0 aU N bs Fz κ σ a w → dH Fz κ w xs vs → rA gv σ xs = some (ys,σ') → ∃ bg bx,bO aV w0 aU N (bx ++ bs) bg κ σ' a w ∧ (∀ b,Fz b → bg b) ∧ eZ (fun b=>bg b ∨ sj gv κ (xs.flatMap Ev.cells) b) w ys vs bx
 | [],ys,[],bs,Fz,σ,σ',h,_,hs=>by cases hs;exact ⟨Fz,[],h,fun _ h=>h,rfl⟩
 | x :: xs,ys,v :: vs,bs,Fz,σ,σ',h,hx,hs=>by
  obtain ⟨p,h1,h2⟩:=zbm hs
  obtain ⟨r,h3,h4⟩:=zmm h2
  cases h4
  obtain ⟨F1,b1,e1,e2,e3⟩:=KN h hx.1 h1
  obtain ⟨F2,b2,e4,e5,e6⟩:=Bw e1 (dH.mono e2 (fun _ _=>rfl) xs (fun _ _=>rfl) vs hx.2) h3
  refine ⟨F2,b1 ++ b2,e4.perm ?_,fun b hb=>e5 b (e2 b hb),b1,b2,e3.mono (fun b hb=>?_) (fun _ _=>rfl) (fun _ _=>rfl),e6.mono (fun b hb=>?_) (fun _ _=>rfl) (fun _ _=>rfl),rfl⟩
  ·rw [← aiP]
   exact List.perm_append_comm.append_right bs
  ·rcases hb with hb | ⟨hg,k,n,hm,hb⟩
   ·exact .inl (e5 b hb)
   ·exact .inr ⟨hg,k,n,by simp [hm],hb⟩
  ·rcases hb with hb | ⟨hg,k,n,hm,hb⟩
   ·exact .inl hb
   ·exact .inr ⟨hg,k,n,by rw [ajD];exact List.mem_append_right _ hm,hb⟩
 | [],_,_ :: _,_,_,_,_,_,h,_=>h.elim
 | _ :: _,_,[],_,_,_,_,_,h,_=>h.elim
theorem Bz : ∀ {xs:List PL} {Fz:Nat → Prop} {σ σ':St},bO aV w0 aU N bs Fz κ σ a w → wO σ xs = some σ' → ∃ bg,bO aV w0 aU N bs bg κ σ' a w ∧ (∀ b,Fz b → bg b) ∧ ∀ b,sj false κ xs b → bg b
 | [],Fz,σ,σ',h,hs=>by cases hs;exact ⟨Fz,h,fun _ h=>h,fun b ⟨_,k,n,hm,_⟩=>by simp at hm⟩
 | x :: xs,Fz,σ,σ',h,hs=>by
  have other:(∀ k n,x ≠ .own k n) → wO σ xs = some σ' → ∃ bg,bO aV w0 aU N bs bg κ σ' a w ∧ (∀ b,Fz b → bg b) ∧ ∀ b,sj false κ (x :: xs) b → bg b:=by
   intro hx hs
   obtain ⟨F1,e1,e2,e3⟩:=Bz h hs
   refine ⟨F1,e1,e2,fun b ⟨_,k,n,hm,hb⟩=>e3 b ⟨rfl,k,n,?_,hb⟩⟩
   rcases aif.mp hm with h | h
   ·exact absurd h.symm (hx k n)
   ·exact h
  cases x with
  | own key n =>
   simp only [wO] at hs
   obtain ⟨s,h1,h2⟩:=zbm hs
   have hrow:∃ sz rows,get σ.ob key = some (.row sz rows):=by
    unfold Ev.yT at h1
    split at h1
    ·exact ⟨_,_,by assumption⟩
    ·cases h1
   obtain ⟨sz,rows,hk⟩:=hrow
   obtain ⟨F1,e1,e2,e3,_⟩:=h.yT hk h1
   obtain ⟨F2,e4,e5,e6⟩:=Bz e1 h2
   refine ⟨F2,e4,fun b hb=>e5 b (e2 b hb),fun b ⟨_,k,n,hm,hb⟩=>?_⟩
   rcases aif.mp hm with h | h
   ·cases h;exact e5 b (e3 b hb)
   ·exact e6 b ⟨rfl,k,n,h,hb⟩
  | _=>exact other (fun _ _ h=>by cases h) hs
theorem Dm : ∀ {xs:List CV} {Fz:Nat → Prop} {σ σ':St},bO aV w0 aU N bs Fz κ σ a w → rD σ xs = some σ' → ∃ bg,bO aV w0 aU N bs bg κ σ' a w ∧ (∀ b,Fz b → bg b) ∧ ∀ b,sj false κ (xs.flatMap Ev.cells) b → bg b
 | [],Fz,σ,σ',h,hs=>by cases hs;exact ⟨Fz,h,fun _ h=>h,fun b ⟨_,k,n,hm,_⟩=>by simp at hm⟩
 | x :: xs,Fz,σ,σ',h,hs=>by
  obtain ⟨s,h1,h2⟩:=zbm hs
  obtain ⟨F1,e1,e2,e3⟩:=Bz h h1
  obtain ⟨F2,e4,e5,e6⟩:=Dm e1 h2
  refine ⟨F2,e4,fun b hb=>e5 b (e2 b hb),fun b ⟨_,k,n,hm,hb⟩=>?_⟩
  rw [ajD] at hm
  rcases air.mp hm with h | h
  ·exact e5 b (e3 b ⟨rfl,k,n,h,hb⟩)
  ·exact e6 b ⟨rfl,k,n,h,hb⟩
end
end
section
open Go
section
variable {P : Program} {Γ:Env} {aV Fz bg:Nat → Prop} {w0 w w':World} {aU bs YE:List Nat} {N:Fr} {d:Nat} {q:Bool} {κ eF:Nat → Value} {σ σ1 σ':St} {a:Act} {pv:PV} {o:Oper}
theorem bO.give {b:Nat} (h:bO aV w0 aU N (b :: bs) Fz κ σ a w) {key:Nat} {ob:Ob} {v:Value} (hn:new σ key ob = some σ') (hv:blk v = some b) (ho:gZ 0 Fz (oI κ key v) w key ob):bO aV w0 aU N bs Fz (oI κ key v) σ' a w:=by
 have hb:=h.ap b (by simp)
 unfold Ev.new Xa at hn
 split at hn
 ·cases hn
 ·rename_i hm
  simp only [Option.map_some,aie] at hn
  subst hn
  have hm':∀ p ∈ rem σ.ob key,lT key p.2 = false:=by
   intro p hp
   cases he:lT key p.2 with
   | false=>rfl
   | true=>exact absurd (ai0.mpr ⟨p,hp,he⟩) hm
  refine ⟨⟨fun p hp=>?_,h.rel.sz,h.rel.lJ,h.rel.fs,fun p hp=>?_,fun p hp r hr b' hne hb1 hb2=>?_,fun p hp b' hb1=>?_,h.rel.fz,h.rel.yU,h.rel.big,h.rel.ext,h.rel.kp⟩,(List.nodup_cons.mp h.lJ).2,fun b' hb'=>?_⟩
  ·obtain ⟨h1,h2⟩:=ajs.mp hp
   refine gW.mono (fun _ h=>h) (fun b hb'=>rfl) (fun k hk=>dY ?_ v) (h.rel.tm p h1)
   rintro rfl
   rw [hk] at h2;cases h2
  ·rcases aif.mp hp with rfl | hp
   ·exact ho
   ·obtain ⟨h1,h2⟩:=eB.mp hp
    refine gZ.mono (fun _ h=>h) (fun b hb'=>rfl) (fun k hk=>dY ?_ v) (fun b hb'=>rfl) (h.rel.ob p h1)
    rintro rfl
    rcases hk with hk | hk
    ·exact h2 hk.symm
    ·rw [hm' p hp] at hk;cases hk
  ·rcases aif.mp hp with rfl | hp <;> rcases aif.mp hr with rfl | hr
   ·exact hne rfl
   ·obtain ⟨h1,h2⟩:=eB.mp hr
    rw [bL,hv] at hb1
    cases hb1
    rw [dY h2] at hb2
    exact hb.2.2.2 r h1 hb2
   ·obtain ⟨h1,h2⟩:=eB.mp hp
    simp only [bL] at hb2
    rw [hv] at hb2
    cases hb2
    rw [dY h2] at hb1
    exact hb.2.2.2 p h1 hb1
   ·obtain ⟨h1,h2⟩:=eB.mp hp
    obtain ⟨h3,h4⟩:=eB.mp hr
    rw [dY h2] at hb1
    rw [dY h4] at hb2
    exact h.rel.uh p h1 r h3 b' hne hb1 hb2
  ·rcases aif.mp hp with rfl | hp
   ·simp only [bL] at hb1
    rw [hv] at hb1
    cases hb1
    exact ⟨hb.1,hb.2.1,hb.2.2.1⟩
   ·obtain ⟨h1,h2⟩:=eB.mp hp
    rw [dY h2] at hb1
    exact h.rel.pos p h1 b' hb1
  ·have hx:=h.ap b' (aiQ _ hb')
   refine ⟨hx.1,hx.2.1,hx.2.2.1,fun p hp=>?_⟩
   rcases aif.mp hp with rfl | hp
   ·simp only [bL]
    rw [hv]
    intro e
    cases e
    exact (List.nodup_cons.mp h.lJ).1 hb'
   ·obtain ⟨h1,h2⟩:=eB.mp hp
    rw [dY h2]
    exact hx.2.2.2 p h1
theorem bO.back {b:Nat} (h:bO aV w0 aU N (b :: bs) Fz κ σ a w) {key:Nat} {ob:Ob} (hv:blk (κ key) = some b) (ho:gZ 0 Fz κ w key ob):bO aV w0 aU N bs Fz κ (iY σ key ob) a w:=by
 have hb:=h.ap b (by simp)
 refine ⟨⟨h.rel.tm,h.rel.sz,h.rel.lJ,h.rel.fs,fun p hp=>?_,fun p hp r hr b' hne hb1 hb2=>?_,fun p hp b' hb1=>?_,h.rel.fz,h.rel.yU,h.rel.big,h.rel.ext,h.rel.kp⟩,(List.nodup_cons.mp h.lJ).2,fun b' hb'=>?_⟩
 ·rcases gT hp with rfl | ⟨hp,_⟩
  ·exact ho
  ·exact h.rel.ob p hp
 ·rcases gT hp with rfl | ⟨hp,_⟩ <;> rcases gT hr with rfl | ⟨hr,_⟩
  ·exact hne rfl
  ·rw [hv] at hb1;cases hb1
   exact hb.2.2.2 r hr hb2
  ·simp only [hv] at hb2;cases hb2
   exact hb.2.2.2 p hp hb1
  ·exact h.rel.uh p hp r hr b' hne hb1 hb2
 ·rcases gT hp with rfl | ⟨hp,_⟩
  ·simp only [hv] at hb1;cases hb1
   exact ⟨hb.1,hb.2.1,hb.2.2.1⟩
  ·exact h.rel.pos p hp b' hb1
 ·have hx:=h.ap b' (aiQ _ hb')
  refine ⟨hx.1,hx.2.1,hx.2.2.1,fun p hp=>?_⟩
  rcases gT hp with rfl | ⟨hp,_⟩
  ·simp only [hv]
   intro e
   cases e
   exact (List.nodup_cons.mp h.lJ).1 hb'
  ·exact hx.2.2.2 p hp
theorem BA {key:Nat} {v:Value} {pend:List PL} {jo:List Value} (hp:aM Fz κ w pend jo) (hm:¬ pend.any (dR key) = true):aM Fz (oI κ key v) w pend jo :=
 aM.mono (fun _ h=>h) (fun _ _=>rfl) pend (fun k hk=>dY (fun e=>by subst e;exact hm hk) v) jo hp
theorem bO.GJ {b:Nat} (h:bO aV w0 aU N (b :: bs) Fz κ σ a w) {key:Nat} {ob:Ob} {v:Value} {pend:List PL} {jo:List Value} (hp:aM Fz κ w pend jo) (hn:newP pend σ key ob = some σ') (hv:blk v = some b) (ho:gZ 0 Fz (oI κ key v) w key ob) :
  bO aV w0 aU N bs Fz (oI κ key v) σ' a w ∧ aM Fz (oI κ key v) w pend jo:=by
 unfold newP at hn
 split at hn
 ·cases hn
 ·rename_i hm
  exact ⟨h.give hn hv ho,BA hp hm⟩
theorem y8.ofMap {sh:KS} {ents:List (KV × FC)} {b key:Nat} {B:Nat} {v:Value} (hv:v = .map (some b)) (h:y8 Fz w sh ents b):gZ B Fz (oI κ key v) w key (.map sh ents):=⟨b,by rw [bL,hv],h⟩
theorem iP.row {sz key:Nat} {rows:List (List FV)} {v:Value} {bx:List Nat} {B:Nat} (hB:B = 0) (h:iP Fz w sz rows v bx):gZ B Fz (oI κ key v) w key (.row sz rows):=by
 subst hB
 obtain ⟨h0,e,inner,A,c,h1,h2,h3,_⟩:=h
 exact ⟨h0,e,inner,A,c,by rw [bL];exact h1,by rw [bL];exact h2,h3⟩
theorem bO.KO {v:Value} {sz:Nat} {rows:List (List FV)} {bx:List Nat} (h:bO aV w0 aU N (bx ++ bs) Fz κ σ a w) {key:Nat} {pend:List PL} {jo:List Value} (hp:aM Fz κ w pend jo) (hn:newP pend σ key (.row sz rows) = some σ') (ho:iP Fz w sz rows v bx) :
  bO aV w0 aU N bs Fz (oI κ key v) σ' a w ∧ aM Fz (oI κ key v) w pend jo ∧ dW Fz (oI κ key v) w (.own key rows.length) v:=by
 have hrow:=iP.row (κ:=κ) (key:=key) (B:=0) rfl ho
 have hbx:bx = oq v:=ho.2.choose_spec.choose_spec.choose_spec.choose_spec.2.2.2
 have hval:dW Fz (oI κ key v) w (.own key rows.length) v:=by
  obtain ⟨h0,e,inner,A,c,h1,_⟩:=ho
  exact ⟨by rw [bL],A,c,h1⟩
 subst hbx
 cases hb:blk v with
 | some b =>
  simp only [oq,hb] at h
  obtain ⟨g1,g2⟩:=bO.GJ (b:=b) (v:=v) h hp hn hb hrow
  exact ⟨g1,g2,hval⟩
 | none =>
  simp only [oq,hb,List.nil_append] at h
  unfold newP at hn
  split at hn
  ·cases hn
  ·rename_i hm
   refine ⟨⟨h.rel.new hn (ah1 _) (fun _ _=>rfl) (fun b hb'=>by rw [hb] at hb';cases hb') ⟨rfl,rfl⟩ hrow,h.lJ,fun b' hb'=>?_⟩,BA hp hm,hval⟩
   have hx:=h.ap b' hb'
   refine ⟨hx.1,hx.2.1,hx.2.2.1,fun p hp'=>?_⟩
   unfold Ev.new Xa at hn
   split at hn
   ·cases hn
   ·simp only [Option.map_some,aie] at hn
    subst hn
    rcases aif.mp hp' with rfl | hp'
    ·simp only [bL];rw [hb];intro e;cases e
    ·obtain ⟨h1,h2⟩:=eB.mp hp'
     rw [dY h2]
     exact hx.2.2.2 p h1
theorem bO.YF {key:Nat} {ob:Ob} (h:bO aV w0 aU N (oq (κ key) ++ bs) Fz κ σ a w) (ho:gZ 0 Fz κ w key ob):bO aV w0 aU N bs Fz κ (iY σ key ob) a w:=by
 cases hb:blk (κ key) with
 | some b=>simp only [oq,hb] at h;exact h.back hb ho
 | none =>
  simp only [oq,hb,List.nil_append] at h
  refine ⟨⟨h.rel.tm,h.rel.sz,h.rel.lJ,h.rel.fs,fun p hp=>?_,fun p hp r hr b' hne hb1 hb2=>?_,fun p hp b' hb1=>?_,h.rel.fz,h.rel.yU,h.rel.big,h.rel.ext,h.rel.kp⟩,h.lJ,fun b' hb'=>?_⟩
  ·rcases gT hp with rfl | ⟨hp,_⟩
   ·exact ho
   ·exact h.rel.ob p hp
  ·rcases gT hp with rfl | ⟨hp,_⟩ <;> rcases gT hr with rfl | ⟨hr,_⟩
   ·exact hne rfl
   ·rw [hb] at hb1;cases hb1
   ·simp only [hb] at hb2;cases hb2
   ·exact h.rel.uh p hp r hr b' hne hb1 hb2
  ·rcases gT hp with rfl | ⟨hp,_⟩
   ·simp only [hb] at hb1;cases hb1
   ·exact h.rel.pos p hp b' hb1
  ·have:=h.ap b' hb'
   refine ⟨this.1,this.2.1,this.2.2.1,fun p hp=>?_⟩
   rcases gT hp with rfl | ⟨hp,_⟩
   ·simp only [hb];exact fun e=>by cases e
   ·exact this.2.2.2 p hp
theorem su {Kp:Nat → Prop} {kf:Nat → Nat} (hk2:∀ k,Kp k → Kp (k + k % 2)) (Uz:∀ c,Kp (kf c)):∀ {xs:List CL} {vs:List Value} {bx bs:List Nat} {c:Nat} {pend l:List PL} {jo:List Value} {κ:Nat → Value} {σ σ':St},bO aV w0 aU N (bx ++ bs) Fz κ σ a w → oO Fz w xs vs bx → aM Fz κ w pend jo → qz kf c pend σ xs = some (l,σ') →
  ∃ eF,bO aV w0 aU N bs Fz eF σ' a w ∧ aM Fz eF w l vs ∧ aM Fz eF w pend jo ∧ ∀ k,¬ Kp k → eF k = κ k
 | [],[],bx,bs,c,pend,l,jo,κ,σ,σ',h,hx,hp,hs=>by
  cases hs
  cases hx
  exact ⟨κ,h,trivial,hp,fun _ _=>rfl⟩
 | [],_ :: _,_,_,_,_,_,_,_,_,_,_,hx,_,_=>hx.elim
 | _ :: _,[],_,_,_,_,_,_,_,_,_,_,hx,_,_=>hx.elim
 | x :: xs,v :: vs,bx,bs,c,pend,l,jo,κ,σ,σ',h,hx,hp,hs=>by
  obtain ⟨b1,b2,h1,h2,rfl⟩:=hx
  have quiet:∀ (y:PL),dW Fz κ w y v → b1 = [] → ((qz kf (c + 1) (y :: pend) σ xs).map fun p=>(y :: p.1,p.2)) = some (l,σ') → ∃ eF,bO aV w0 aU N bs Fz eF σ' a w ∧ aM Fz eF w l (v :: vs) ∧ aM Fz eF w pend jo ∧ ∀ k,¬ Kp k → eF k = κ k:=by
   intro y hy hb hs
   subst hb
   obtain ⟨p,h3,h4⟩:=zmm hs
   cases h4
   obtain ⟨eF,e1,e2,e3,e4⟩:=su hk2 Uz h h2 (show aM Fz κ w (y :: pend) (v :: jo) from ⟨hy,hp⟩) h3
   exact ⟨eF,e1,⟨e3.1,e2⟩,e3.2,e4⟩
  cases x with
  | f x=>exact quiet (.f x) h1.1 h1.2 hs
  | iw=>exact quiet .iw h1.1 h1.2 hs
  | eH=>exact quiet .eH h1.1 h1.2 hs
  | mp sh ents =>
   obtain ⟨b,hv,hM,rfl⟩:=h1
   obtain ⟨s,h3,h4⟩:=zbm hs
   obtain ⟨p,h5,h6⟩:=zmm h4
   cases h6
   obtain ⟨g1,g2⟩:=bO.GJ (bs:=b2 ++ bs) (b:=b) (v:=v) (by simpa using h) hp h3 (by rw [hv];rfl) (y8.ofMap hv hM)
   obtain ⟨eF,e1,e2,e3,e4⟩:=su hk2 Uz g1 h2 (show aM Fz (oI κ (kf c) v) w (.mp (kf c) :: pend) (v :: jo) from ⟨⟨by rw [bL],b,hv⟩,g2⟩) h5
   exact ⟨eF,e1,⟨e3.1,e2⟩,e3.2,fun k hk=>(e4 k hk).trans (dY (fun (e:k = kf c)=>hk (by rw [e];exact Uz c)) v)⟩
  | own sz rows =>
   obtain ⟨s,h3,h4⟩:=zbm hs
   obtain ⟨p,h5,h6⟩:=zmm h4
   cases h6
   obtain ⟨g1,g2,g3⟩:=bO.KO (bs:=b2 ++ bs) (bx:=b1) (by rw [← aiP];exact h) hp h3 h1
   obtain ⟨eF,e1,e2,e3,e4⟩:=su hk2 Uz g1 h2 (show aM Fz (oI κ (kf c + kf c % 2) v) w (.own (kf c + kf c % 2) rows.length :: pend) (v :: jo) from ⟨g3,g2⟩) h5
   exact ⟨eF,e1,⟨e3.1,e2⟩,e3.2,fun k hk=>(e4 k hk).trans (dY (fun (e:k = kf c + kf c % 2)=>hk (by rw [e];exact hk2 _ (Uz c))) v)⟩
theorem KP {Kp:Nat → Prop} {key:Nat} (hk2:∀ k,Kp k → Kp (k + k % 2)) (hk:Kp key) (Uz:∀ c,Kp (OC key c)) {x:TV} {v:Value} {bx:List Nat} {pend:List PL} {l:PL} {jo:List Value} (h:bO aV w0 aU N (bx ++ bs) Fz κ σ a w) (hx:mE Fz w x v bx) (hp:aM Fz κ w pend jo) (hs:CP key pend σ x = some (l,σ')) :
  ∃ eF,bO aV w0 aU N bs Fz eF σ' a w ∧ dW Fz eF w l v ∧ aM Fz eF w pend jo ∧ ∀ k,¬ Kp k → eF k = κ k:=by
 cases x with
 | f x=>cases hs;obtain ⟨h1,rfl⟩:=hx;exact ⟨κ,h,h1,hp,fun _ _=>rfl⟩
 | iw=>cases hs;obtain ⟨h1,rfl⟩:=hx;exact ⟨κ,h,h1,hp,fun _ _=>rfl⟩
 | eH=>cases hs;obtain ⟨h1,rfl⟩:=hx;exact ⟨κ,h,h1,hp,fun _ _=>rfl⟩
 | mp sh ents =>
  obtain ⟨s,h3,h4⟩:=zmm hs
  cases h4
  obtain ⟨b,hv,hM,rfl⟩:=hx
  obtain ⟨g1,g2⟩:=bO.GJ (bs:=bs) (b:=b) (v:=v) h hp h3 (by rw [hv];rfl) (y8.ofMap hv hM)
  exact ⟨_,g1,⟨by rw [bL],b,hv⟩,g2,fun k hk'=>dY (fun (e:k = key)=>hk' (by rw [e];exact hk)) v⟩
 | own sz rows =>
  obtain ⟨s,h3,h4⟩:=zmm hs
  cases h4
  obtain ⟨g1,g2,g3⟩:=bO.KO (bs:=bs) (bx:=bx) h hp h3 hx
  exact ⟨_,g1,g3,g2,fun k hk'=>dY (fun (e:k = ow key)=>hk' (by rw [e];unfold ow;split;exact hk2 _ hk;exact hk)) v⟩
 | fp cs=>cases hs;obtain ⟨h1,rfl⟩:=hx;exact ⟨κ,h,dW.mono (eF:=κ) (fun _ h=>h) (fun _ _=>rfl) (fun k hk=>by cases hk) h1,hp,fun _ _=>rfl⟩
 | fn f cs=>cases hs;obtain ⟨h1,rfl⟩:=hx;exact ⟨κ,h,dW.mono (eF:=κ) (fun _ h=>h) (fun _ _=>rfl) (fun k hk=>by cases hk) h1,hp,fun _ _=>rfl⟩
 | any=>cases hs;cases hx;exact ⟨κ,h,trivial,hp,fun _ _=>rfl⟩
 | ptr cs =>
  obtain ⟨p,h3,h4⟩:=zbm hs
  split at h4
  ·cases h4
  ·rename_i hm
   obtain ⟨s,h5,h6⟩:=zmm h4
   cases h6
   obtain ⟨b,vals,e,ms,hv,hh,hcs,rfl⟩:=hx
   obtain ⟨zf,e1,e2,e3,e4⟩:=su hk2 Uz (bs:=b :: bs) (h.perm (by simpa using (List.perm_middle (l₁:=ms) (l₂:=bs) (a:=b)).symm)) hcs hp h3
   obtain ⟨g1,g2⟩:=bO.GJ (bs:=bs) (b:=b) (v:=v) e1 e3 h5 (by rw [hv];rfl) ⟨b,vals,e,by rw [bL,hv],hh,BA e2 hm⟩
   exact ⟨_,g1,⟨b,by rw [bL,hv],hv⟩,g2,fun k hk'=>(dY (fun (e:k = key)=>hk' (by rw [e];exact hk)) v).trans (e4 k hk')⟩
theorem GK {Kp:Nat → Prop} {base:Nat} (hk2:∀ k,Kp k → Kp (k + k % 2)) (hK:∀ k c,Kp k → Kp (k + 2 * c)) (hb:Kp base):∀ {xs:List TV} {vs:List Value} {bx bs:List Nat} {j:Nat} {pend l:List PL} {jo:List Value} {κ:Nat → Value} {σ σ':St},bO aV w0 aU N (bx ++ bs) Fz κ σ a w → j5 Fz w xs vs bx → aM Fz κ w pend jo → wM base j pend σ xs = some (l,σ') →
  ∃ eF,bO aV w0 aU N bs Fz eF σ' a w ∧ aM Fz eF w l vs ∧ aM Fz eF w pend jo ∧ ∀ k,¬ Kp k → eF k = κ k
 | [],[],bx,bs,j,pend,l,jo,κ,σ,σ',h,hx,hp,hs=>by
  cases hs
  cases hx
  exact ⟨κ,h,trivial,hp,fun _ _=>rfl⟩
 | [],_ :: _,_,_,_,_,_,_,_,_,_,_,hx,_,_=>hx.elim
 | _ :: _,[],_,_,_,_,_,_,_,_,_,_,hx,_,_=>hx.elim
 | x :: xs,v :: vs,bx,bs,j,pend,l,jo,κ,σ,σ',h,hx,hp,hs=>by
  obtain ⟨b1,b2,h1,h2,rfl⟩:=hx
  obtain ⟨p,h3,h4⟩:=zbm hs
  obtain ⟨r,h5,h6⟩:=zmm h4
  cases h6
  have hk:Kp (base + 200 * (j + 1)):=by have:=hK base (100 * (j + 1)) hb;rwa [show 2 * (100 * (j + 1)) = 200 * (j + 1) from by omega] at this
  obtain ⟨zf,e1,e2,e3,e4⟩:=KP hk2 hk (fun c=>hK _ _ hk) (bs:=b2 ++ bs) (by rw [← aiP];exact h) h1 hp h3
  obtain ⟨E5,g1,g2,g3,g4⟩:=GK hk2 hK hb e1 h2 (show aM Fz zf w (p.1 :: pend) (v :: jo) from ⟨e2,e3⟩) h5
  exact ⟨E5,g1,⟨g3.1,g2⟩,g3.2,fun k hk=>(g4 k hk).trans (e4 k hk)⟩
theorem KQ {Kp:Nat → Prop} {base:Nat} (hk2:∀ k,Kp k → Kp (k + k % 2)) (hK:∀ k c,Kp k → Kp (k + 2 * c)) (hb:Kp base) {x:AV} {v:Value} {bx:List Nat} {pend:List PL} {l:CV} {jo:List Value} (h:bO aV w0 aU N (bx ++ bs) Fz κ σ a w) (hx:ou Fz w x v bx) (hp:aM Fz κ w pend jo) (hs:J8 base pend σ x = some (l,σ')) :
  ∃ eF,bO aV w0 aU N bs Fz eF σ' a w ∧ fJ Fz eF w l v ∧ aM Fz eF w pend jo ∧ ∀ k,¬ Kp k → eF k = κ k:=by
 cases x with
 | one x =>
  obtain ⟨p,h1,h2⟩:=zmm hs
  cases h2
  have hk:Kp (base + 200):=hK base 100 hb
  exact KP hk2 hk (fun c=>hK _ _ hk) h hx hp h1
 | agg xs =>
  obtain ⟨p,h1,h2⟩:=zmm hs
  cases h2
  obtain ⟨cs,rfl,hx⟩:=hx
  obtain ⟨zf,e1,e2,e3,e4⟩:=GK hk2 hK hb h hx hp h1
  exact ⟨zf,e1,⟨cs,rfl,e2⟩,e3,e4⟩
def Dp : CV → Value → List Value
 | .one _,v=>[v]
 | .agg _,v=>v.cells.toList
theorem fJ.Dp {x:CV} {v:Value} (h:fJ Fz κ w x v):aM Fz κ w (Ev.cells x) (Ev.Dp x v):=by
 cases x with
 | one x=>exact ⟨h,trivial⟩
 | agg xs=>obtain ⟨cs,rfl,h⟩:=h;exact h
theorem fJ.KR {x:CV} {v:Value} (hs:∀ xs,x = .agg xs → ∃ cs,v = .agg cs) (h:aM Fz κ w (Ev.cells x) (Ev.Dp x v)):fJ Fz κ w x v:=by
 cases x with
 | one x=>exact h.1
 | agg xs=>obtain ⟨cs,rfl⟩:=hs xs rfl;exact ⟨cs,rfl,h⟩
theorem aM.BD : ∀ {xs ys:List PL} {us vs:List Value},us.length = xs.length → aM Fz κ w (xs ++ ys) (us ++ vs) → aM Fz κ w xs us ∧ aM Fz κ w ys vs
 | [],ys,[],vs,_,h=>⟨trivial,h⟩
 | x :: xs,ys,u :: us,vs,hl,h=>by
  obtain ⟨h1,h2⟩:=aM.BD (xs:=xs) (us:=us) (by simpa using hl) h.2
  exact ⟨⟨h.1,h1⟩,h2⟩
theorem BF {Kp:Nat → Prop} {base:Nat} (hk2:∀ k,Kp k → Kp (k + k % 2)) (hK:∀ k c,Kp k → Kp (k + 2 * c)) (hb:Kp base):∀ {xs:List AV} {vs:List Value} {bx bs:List Nat} {i:Nat} {pend:List PL} {l:List CV} {jo:List Value} {κ:Nat → Value} {σ σ':St},bO aV w0 aU N (bx ++ bs) Fz κ σ a w → eZ Fz w xs vs bx → aM Fz κ w pend jo → wN base i pend σ xs = some (l,σ') →
  ∃ eF,bO aV w0 aU N bs Fz eF σ' a w ∧ dH Fz eF w l vs ∧ aM Fz eF w pend jo ∧ ∀ k,¬ Kp k → eF k = κ k
 | [],[],bx,bs,i,pend,l,jo,κ,σ,σ',h,hx,hp,hs=>by
  cases hs
  cases hx
  exact ⟨κ,h,trivial,hp,fun _ _=>rfl⟩
 | [],_ :: _,_,_,_,_,_,_,_,_,_,_,hx,_,_=>hx.elim
 | _ :: _,[],_,_,_,_,_,_,_,_,_,_,hx,_,_=>hx.elim
 | x :: xs,v :: vs,bx,bs,i,pend,l,jo,κ,σ,σ',h,hx,hp,hs=>by
  obtain ⟨b1,b2,h1,h2,rfl⟩:=hx
  obtain ⟨p,h3,h4⟩:=zbm hs
  obtain ⟨r,h5,h6⟩:=zmm h4
  cases h6
  have hk:Kp (base + 2000 * i):=by have:=hK base (1000 * i) hb;rwa [show 2 * (1000 * i) = 2000 * i from by omega] at this
  obtain ⟨zf,e1,e2,e3,e4⟩:=KQ hk2 hK hk (bs:=b2 ++ bs) (by rw [← aiP];exact h) h1 hp h3
  obtain ⟨E5,g1,g2,g3,g4⟩:=BF hk2 hK hb e1 h2 (show aM Fz zf w (Ev.cells p.1 ++ pend) (Ev.Dp p.1 v ++ jo) from e2.Dp.app e3) h5
  obtain ⟨g5,g6⟩:=g3.BD (by have:=e2.Dp.length;omega)
  exact ⟨E5,g1,⟨fJ.KR (fun xs hx=>by rw [hx] at e2;obtain ⟨cs,h,_⟩:=e2;exact ⟨cs,h⟩) g5,g2⟩,g6,fun k hk=>(g4 k hk).trans (e4 k hk)⟩
end
end
section
open Go
section
variable {P : Program} {Γ:Env} {aV Fz bg:Nat → Prop} {w0 w w':World} {aU bs YE:List Nat} {N:Fr} {d:Nat} {q:Bool} {κ eF:Nat → Value} {σ σ1 σ':St} {a:Act} {pv:PV} {o:Oper}
theorem KT {gv:Bool} (h:bO aV w0 aU N bs Fz κ σ a w) {x:PL} {y:TV} (hs:qP gv σ x = some (y,σ')):∀ b,sj gv κ [x] b → b < w.heap.size:=by
 rintro b ⟨hg,key,n,hm,hb⟩
 simp at hm
 subst hm
 simp only [qP] at hs
 split at hs
 ·rename_i sz rows fK
  exact (h.rel.pos _ (get_mem fK) b hb).2.1
 ·cases hs
theorem GL {gv:Bool}:∀ {xs:List PL} {ys:List TV} {vs:List Value} {bs:List Nat} {Fz:Nat → Prop} {σ σ':St},bO aV w0 aU N bs Fz κ σ a w → aM Fz κ w xs vs → qQ gv σ xs = some (ys,σ') → ∀ b,sj gv κ xs b → b < w.heap.size
 | [],ys,[],bs,Fz,σ,σ',h,_,hs,b,⟨_,k,n,hm,_⟩=>by simp at hm
 | x :: xs,ys,v :: vs,bs,Fz,σ,σ',h,hx,hs,b,⟨hg,k,n,hm,hb⟩=>by
  obtain ⟨p,h1,h2⟩:=zbm hs
  obtain ⟨r,h3,h4⟩:=zmm h2
  rcases aif.mp hm with hm | hm
  ·exact KT h h1 b ⟨hg,k,n,by simp [hm],hb⟩
  ·obtain ⟨F1,b1,e1,e2,e3⟩:=EZ h hx.1 h1
   exact GL e1 (aM.mono e2 (fun _ _=>rfl) xs (fun _ _=>rfl) vs hx.2) h3 b ⟨hg,k,n,hm,hb⟩
 | [],_,_ :: _,_,_,_,_,_,h,_,_,_=>h.elim
 | _ :: _,_,[],_,_,_,_,_,h,_,_,_=>h.elim
theorem UA {gv:Bool} (h:bO aV w0 aU N bs Fz κ σ a w) {x:CV} {y:AV} {v:Value} (hx:fJ Fz κ w x v) (hs:J7 gv σ x = some (y,σ')):∀ b,sj gv κ (Ev.cells x) b → b < w.heap.size:=by
 cases x with
 | one x =>
  obtain ⟨p,h1,h2⟩:=zmm hs
  exact KT h h1
 | agg xs =>
  obtain ⟨p,h1,h2⟩:=zmm hs
  obtain ⟨cs,rfl,hx⟩:=hx
  exact GL h hx h1
theorem GN {gv:Bool}:∀ {xs:List CV} {ys:List AV} {vs:List Value} {bs:List Nat} {Fz:Nat → Prop} {σ σ':St},bO aV w0 aU N bs Fz κ σ a w → dH Fz κ w xs vs → rA gv σ xs = some (ys,σ') → ∀ b,sj gv κ (xs.flatMap Ev.cells) b → b < w.heap.size
 | [],ys,[],bs,Fz,σ,σ',h,_,hs,b,⟨_,k,n,hm,_⟩=>by simp at hm
 | x :: xs,ys,v :: vs,bs,Fz,σ,σ',h,hx,hs,b,⟨hg,k,n,hm,hb⟩=>by
  obtain ⟨p,h1,h2⟩:=zbm hs
  obtain ⟨r,h3,h4⟩:=zmm h2
  rw [ajD] at hm
  rcases air.mp hm with hm | hm
  ·exact UA h hx.1 h1 b ⟨hg,k,n,hm,hb⟩
  ·obtain ⟨F1,b1,e1,e2,e3⟩:=KN h hx.1 h1
   exact GN e1 (dH.mono e2 (fun _ _=>rfl) xs (fun _ _=>rfl) vs hx.2) h3 b ⟨hg,k,n,hm,hb⟩
 | [],_,_ :: _,_,_,_,_,_,h,_,_,_=>h.elim
 | _ :: _,_,[],_,_,_,_,_,h,_,_,_=>h.elim
theorem bO.sub {b1 b2:List Nat} (h:bO aV w0 aU N (b1 ++ b2) Fz κ σ a w):bO aV w0 aU N b2 Fz κ σ a w:=⟨h.rel,(ajr.mp h.lJ).2.1,fun b hb=>h.ap b (List.mem_append_right _ hb)⟩
theorem IW {base:Nat} {xs:List PL} (hb:base % 2 = 0) (c:Nat):IL base xs c % 2 = 0:=by
 unfold IL
 split
 ·split
  ·assumption
  ·omega
 ·split
  ·assumption
  ·omega
 ·omega
theorem KU {fB:St} {base:Nat} (hb:base % 2 = 0) {x:PL} {y:TV} {v:Value} {bx:List Nat} {pend:List PL} {jo:List Value} (h:bO aV w0 aU N (bx ++ bs) Fz κ σ a w) (hy:mE Fz w y v bx) (hp:aM Fz κ w pend jo) (hsub:∀ κ,aM Fz κ w pend jo → dW Fz κ w x v) (hs:CQ fB pend base σ x y = some σ') :
  ∃ eF,bO aV w0 aU N bs Fz eF σ' a w ∧ aM Fz eF w pend jo ∧ ∀ k,k % 2 = 1 → eF k = κ k:=by
 have plain:bx = [] → some σ = some σ' → ∃ eF,bO aV w0 aU N bs Fz eF σ' a w ∧ aM Fz eF w pend jo ∧ ∀ k,k % 2 = 1 → eF k = κ k:=by
  intro hb hs
  cases hs
  subst hb
  exact ⟨κ,h,hp,fun _ _=>rfl⟩
 cases y with
 | ptr cs =>
  cases x with
  | ptr key off =>
   simp only [CQ] at hs
   split at hs
   ·rename_i xs fK
    obtain ⟨p,h1,h2⟩:=zmm hs
    cases h2
    obtain ⟨b,vals,e,ms,hv,hh,hcs,rfl⟩:=hy
    obtain ⟨zf,e1,e2,e3,e4⟩:=su (Kp:=fun k=>k % 2 = 0) (fun k hk=>by omega) (IW hb) (bs:=b :: bs) (h.perm (by simpa using (List.perm_middle (l₁:=ms) (l₂:=bs) (a:=b)).symm)) hcs hp h1
    obtain ⟨b',g1,g2⟩:=hsub zf e3
    rw [hv] at g2
    cases g2
    exact ⟨zf,e1.back (by rw [g1];rfl) ⟨b,vals,e,g1,hh,e2⟩,e3,fun k hk=>e4 k (by omega)⟩
   ·cases hs
  | _=>cases hs
 | mp sh ents =>
  cases x with
  | mp key =>
   cases hs
   obtain ⟨b,hv,hM,rfl⟩:=hy
   have hk:=(hsub κ hp).1
   rw [hv] at hk
   exact ⟨κ,h.back (b:=b) (by rw [← hk];rfl) ⟨b,hk.symm,hM⟩,hp,fun _ _=>rfl⟩
  | _=>cases hs
 | own sz rows =>
  have g:∃ eF,bO aV w0 aU N bs Fz eF σ a w ∧ aM Fz eF w pend jo ∧ ∀ k,k % 2 = 1 → eF k = κ k:=⟨κ,h.sub,hp,fun _ _=>rfl⟩
  cases x with
  | own key n =>
   cases hs
   have hk:=(hsub κ hp).1
   obtain ⟨o0,e,inner,A,c,o1,o2,o3,o4⟩:=hy
   rw [hk] at o1 o2 o4
   rw [o4] at h
   exact ⟨κ,h.YF ⟨o0,e,inner,A,c,o1,o2,o3⟩,hp,fun _ _=>rfl⟩
  | _=>first | (cases hs;exact g) | cases hs
 | fp cs=>cases x <;> first | exact plain hy.2 hs | cases hs
 | fn f cs=>cases x <;> first | exact plain hy.2 hs | cases hs
 | any=>cases x <;> first | exact plain hy hs | cases hs
 | f y=>cases x <;> first | exact plain hy.2 hs | cases hs
 | iw=>cases x <;> first | exact plain hy.2 hs | cases hs
 | eH=>cases x <;> first | exact plain hy.2 hs | cases hs
theorem GQ {fB:St} {pend:List PL} {jo:List Value}:∀ {xs:List PL} {ys:List TV} {vs:List Value} {bx bs:List Nat} {base:Nat} {κ:Nat → Value} {σ σ':St},base % 2 = 0 → bO aV w0 aU N (bx ++ bs) Fz κ σ a w → j5 Fz w ys vs bx → aM Fz κ w pend jo → (∀ κ,aM Fz κ w pend jo → aM Fz κ w xs vs) → AZ fB pend base σ xs ys = some σ' →
  ∃ eF,bO aV w0 aU N bs Fz eF σ' a w ∧ aM Fz eF w pend jo ∧ ∀ k,k % 2 = 1 → eF k = κ k
 | [],[],[],bx,bs,base,κ,σ,σ',hb,h,hy,hp,hsub,hs=>by cases hs;cases hy;exact ⟨κ,h,hp,fun _ _=>rfl⟩
 | x :: xs,y :: ys,v :: vs,bx,bs,base,κ,σ,σ',hb,h,hy,hp,hsub,hs=>by
  obtain ⟨s,h1,h2⟩:=zbm hs
  obtain ⟨b1,b2,g1,g2,rfl⟩:=hy
  obtain ⟨zf,e1,e2,e3⟩:=KU hb (bs:=b2 ++ bs) (by rw [← aiP];exact h) g1 hp (fun κ hk=>(hsub κ hk).1) h1
  obtain ⟨E5,e4,e5,e6⟩:=GQ (by omega) e1 g2 e2 (fun κ hk=>(hsub κ hk).2) h2
  exact ⟨E5,e4,e5,fun k hk=>(e6 k hk).trans (e3 k hk)⟩
 | [],[],_ :: _,_,_,_,_,_,_,_,_,hy,_,_,_=>hy.elim
 | _ :: _,_ :: _,[],_,_,_,_,_,_,_,_,hy,_,_,_=>hy.elim
 | [],_ :: _,_,_,_,_,_,_,_,_,_,_,_,_,hs=>by cases hs
 | _ :: _,[],_,_,_,_,_,_,_,_,_,_,_,_,hs=>by cases hs
theorem UC {fB:St} {base:Nat} (hb:base % 2 = 0) {x:CV} {y:AV} {v:Value} {bx:List Nat} {pend:List PL} {jo:List Value} (h:bO aV w0 aU N (bx ++ bs) Fz κ σ a w) (hy:ou Fz w y v bx) (hp:aM Fz κ w pend jo) (hsub:∀ κ,aM Fz κ w pend jo → aM Fz κ w (Ev.cells x) (Dp x v)) (hs:Yg fB pend base σ x y = some σ') :
  ∃ eF,bO aV w0 aU N bs Fz eF σ' a w ∧ aM Fz eF w pend jo ∧ ∀ k,k % 2 = 1 → eF k = κ k:=by
 cases x with
 | one x =>
  cases y with
  | one y=>exact KU hb h hy hp (fun κ hk=>(hsub κ hk).1) hs
  | agg ys=>cases hs
 | agg xs =>
  cases y with
  | one y=>cases hs
  | agg ys =>
   obtain ⟨cs,rfl,hy⟩:=hy
   exact GQ hb h hy hp hsub hs
theorem GR {fB:St} {pend:List PL} {jo:List Value}:∀ {xs:List CV} {ys:List AV} {vs:List Value} {bx bs:List Nat} {base:Nat} {κ:Nat → Value} {σ σ':St},base % 2 = 0 → bO aV w0 aU N (bx ++ bs) Fz κ σ a w → eZ Fz w ys vs bx → aM Fz κ w pend jo → (∀ κ,aM Fz κ w pend jo → dH Fz κ w xs vs) → y5 fB pend base σ xs ys = some σ' →
  ∃ eF,bO aV w0 aU N bs Fz eF σ' a w ∧ aM Fz eF w pend jo ∧ ∀ k,k % 2 = 1 → eF k = κ k
 | [],[],[],bx,bs,base,κ,σ,σ',hb,h,hy,hp,hsub,hs=>by cases hs;cases hy;exact ⟨κ,h,hp,fun _ _=>rfl⟩
 | x :: xs,y :: ys,v :: vs,bx,bs,base,κ,σ,σ',hb,h,hy,hp,hsub,hs=>by
  obtain ⟨s,h1,h2⟩:=zbm hs
  obtain ⟨b1,b2,g1,g2,rfl⟩:=hy
  obtain ⟨zf,e1,e2,e3⟩:=UC hb (bs:=b2 ++ bs) (by rw [← aiP];exact h) g1 hp (fun κ hk=>(hsub κ hk).1.Dp) h1
  obtain ⟨E5,e4,e5,e6⟩:=GR (by omega) e1 g2 e2 (fun κ hk=>(hsub κ hk).2) h2
  exact ⟨E5,e4,e5,fun k hk=>(e6 k hk).trans (e3 k hk)⟩
 | [],[],_ :: _,_,_,_,_,_,_,_,_,hy,_,_,_=>hy.elim
 | _ :: _,_ :: _,[],_,_,_,_,_,_,_,_,hy,_,_,_=>hy.elim
 | [],_ :: _,_,_,_,_,_,_,_,_,_,_,_,_,hs=>by cases hs
 | _ :: _,[],_,_,_,_,_,_,_,_,_,_,_,_,hs=>by cases hs
def ret : List Value → Value
 | [x]=>x
 | xs=>.tuple xs.toArray
structure Post (Fz:Nat → Prop) (w:World) (vals:List Value) (bs:List Nat) (rs oP:List AV) (bg:Nat → Prop) (w':World) (sw:List Value) (b1 b2:List Nat):Prop where
 f1:∀ b,Fz b → bg b
 f2:∀ b,bg b → b < w'.heap.size ∧ (Fz b ∨ b ∈ bs ∨ w.heap.size ≤ b)
 big:w.heap.size ≤ w'.heap.size
 ext:∀ b,b < w.heap.size → b ∉ bs → w'.heap[b]? = w.heap[b]?
 kp:Kp w w'
 bk:eZ bg w' oP vals b1
 rs:eZ bg w' rs sw b2
 lJ:(b1 ++ b2).Nodup
 ap:∀ b ∈ b1 ++ b2,¬ bg b ∧ b < w'.heap.size ∧ (b ∈ bs ∨ w.heap.size ≤ b)
def Sat (P:Program) (f:FuncId) (g:List AV → Option (List AV × List AV)):Prop :=
 ∀ dV rs oP,g dV = some (rs,oP) → ∀ (Fz:Nat → Prop) (w:World) (vals:List Value) (bs:List Nat),eZ Fz w dV vals bs → bs.Nodup → (∀ b ∈ bs,¬ Fz b ∧ b < w.heap.size) → (∀ b,Fz b → b < w.heap.size) →
  Calls P f vals.toArray w fun e w'=>∃ bg sw b1 b2,e = .returned (ret sw) ∧ Post Fz w vals bs rs oP bg w' sw b1 b2
def gL (P:Program) (Γ:Env):Prop:=∀ f,Sat P f (Γ f)
theorem bO.called (h:bO aV w0 aU N bs Fz κ σ a w) {vals sw:List Value} {rs oP:List AV} {b1 b2:List Nat} (hp:Post Fz w vals bs rs oP bg w' sw b1 b2):bO aV w0 aU N (b1 ++ b2) bg κ σ a w':=by
 have hap:∀ b ∈ bs,_:=h.ap
 have hfz:∀ b,Fz b → w'.heap[b]? = w.heap[b]?:=fun b hb=>hp.ext b (h.rel.fz b hb).1 (fun hm=>(hap b hm).1 hb)
 have fK:∀ p ∈ σ.ob,∀ b,blk (κ p.1) = some b → w'.heap[b]? = w.heap[b]?:=fun p hp' b hb=>hp.ext b (h.rel.pos p hp' b hb).2.1 (fun hm=>(hap b hm).2.2.2 p hp' hb)
 refine ⟨⟨fun p hp'=>gW.mono hp.f1 hfz (fun _ _=>rfl) (h.rel.tm p hp'),h.rel.sz,h.rel.lJ,h.rel.fs,fun p hp'=>gZ.mono hp.f1 hfz (fun _ _=>rfl) (fK p hp') (h.rel.ob p hp'),h.rel.uh,fun p hp' b hb=>?_,fun b hb=>?_,fun b hb=>hp.f1 b (h.rel.yU b hb),aij h.rel.big hp.big,fun b h1 h2=>?_,?_⟩,hp.lJ,fun b hb=>?_⟩
 ·have:=h.rel.pos p hp' b hb
  refine ⟨fun hf=>?_,aiz this.2.1 hp.big,this.2.2⟩
  rcases (hp.f2 b hf).2 with h1 | h1 | h1
  ·exact this.1 h1
  ·exact (hap b h1).2.2.2 p hp' hb
  ·omega
 ·have:=hp.f2 b hb
  refine ⟨this.1,?_⟩
  rcases this.2 with h1 | h1 | h1
  ·exact (h.rel.fz b h1).2
  ·exact .inr (hap b h1).2.2.1
  ·exact .inr (.inr (aij h.rel.big h1))
 ·rw [hp.ext b (aiz h1 h.rel.big) (fun hm=>?_)]
  ·exact h.rel.ext b h1 h2
  ·rcases (hap b hm).2.2.1 with h3 | h3
   ·exact h2 h3
   ·omega
 ·exact h.rel.kp.trans hp.kp
 ·obtain ⟨h1,h2,h3⟩:=hp.ap b hb
  refine ⟨h1,h2,?_,fun p hp' e=>?_⟩
  ·rcases h3 with h3 | h3
   ·exact (hap b h3).2.2.1
   ·exact .inr (aij h.rel.big h3)
  ·rcases h3 with h3 | h3
   ·exact (hap b h3).2.2.2 p hp' e
   ·have:=(h.rel.pos p hp' b e).2.1
    omega
theorem Dq {x:TV} {v:Value} {bx:List Nat} (h:mE Fz w x v bx) (hp:plain x = true):bx = []:=by
 cases x <;> first | exact h.2 | exact h | cases hp
theorem zP : ∀ {xs:List TV} {vs:List Value} {bx:List Nat},j5 Fz w xs vs bx → xs.all plain = true → bx = []
 | [],[],_,h,_=>h
 | x :: xs,v :: vs,_,⟨b1,b2,h1,h2,e⟩,hp=>by
  rw [List.all_cons,ah5] at hp
  rw [e,Dq h1 hp.1,zP h2 hp.2];rfl
 | [],_ :: _,_,h,_=>h.elim
 | _ :: _,[],_,h,_=>h.elim
theorem E8 {x:AV} {v:Value} {bx:List Nat} (h:ou Fz w x v bx) (hp:fC x = true):bx = []:=by
 cases x with
 | one x=>exact Dq h hp
 | agg xs=>obtain ⟨cs,rfl,h⟩:=h;exact zP h hp
theorem oQ : ∀ {xs:List AV} {vs:List Value} {bx:List Nat},eZ Fz w xs vs bx → xs.all fC = true → bx = []
 | [],[],_,h,_=>h
 | x :: xs,v :: vs,_,⟨b1,b2,h1,h2,e⟩,hp=>by
  rw [List.all_cons,ah5] at hp
  rw [e,E8 h1 hp.1,oQ h2 hp.2];rfl
 | [],_ :: _,_,h,_=>h.elim
 | _ :: _,[],_,h,_=>h.elim
theorem GU {x:TV} {v:Value} {bx:List Nat} (h:mE Fz w x v bx) (hp:Kk x = false):mE bg w' x v [] ∧ bx = []:=by
 cases x with
 | f x =>
  obtain ⟨h1,h2⟩:=h
  refine ⟨⟨?_,rfl⟩,h2⟩
  cases x with
  | sl rows=>cases hp
  | _=>exact h1
 | _=>cases hp
theorem Dr : ∀ {xs:List TV} {vs:List Value} {bx:List Nat},j5 Fz w xs vs bx → xs.any Kk = false → j5 bg w' xs vs [] ∧ bx = []
 | [],[],_,h,_=>⟨rfl,h⟩
 | x :: xs,v :: vs,_,⟨b1,b2,h1,h2,e⟩,hp=>by
  rw [List.any_cons,ajI] at hp
  obtain ⟨g1,rfl⟩:=GU h1 hp.1
  obtain ⟨g2,rfl⟩:=Dr h2 hp.2
  exact ⟨⟨[],[],g1,g2,rfl⟩,e⟩
 | [],_ :: _,_,h,_=>h.elim
 | _ :: _,[],_,h,_=>h.elim
theorem IX {x:AV} {v:Value} {bx:List Nat} (h:ou Fz w x v bx) (hp:vM x = false):ou bg w' x v [] ∧ bx = []:=by
 cases x with
 | one x=>exact GU h hp
 | agg xs =>
  obtain ⟨cs,rfl,h⟩:=h
  obtain ⟨g1,g2⟩:=Dr (bg:=bg) (w':=w') h hp
  exact ⟨⟨cs,rfl,g1⟩,g2⟩
theorem xg : ∀ {xs:List AV} {vs:List Value} {bx:List Nat},eZ Fz w xs vs bx → xs.any vM = false → eZ bg w' xs vs [] ∧ bx = []
 | [],[],_,h,_=>⟨rfl,h⟩
 | x :: xs,v :: vs,_,⟨b1,b2,h1,h2,e⟩,hp=>by
  rw [List.any_cons,ajI] at hp
  obtain ⟨g1,rfl⟩:=IX h1 hp.1
  obtain ⟨g2,rfl⟩:=xg h2 hp.2
  exact ⟨⟨[],[],g1,g2,rfl⟩,e⟩
 | [],_ :: _,_,h,_=>h.elim
 | _ :: _,[],_,h,_=>h.elim
end
end
section
open Go
section
variable {P : Program} {Γ:Env} {aV Fz bg:Nat → Prop} {w0 w w':World} {aU bs YE:List Nat} {N:Fr} {d:Nat} {q:Bool} {κ eF:Nat → Value} {σ σ1 σ':St} {a:Act} {pv:PV} {o:Oper}
theorem sD (h:Rel aV w0 aU N Fz κ σ a w):∀ {xs:List Operand} {ys:List dF} {l:List CV},Bc xs = some ys → iT σ ys = some l → dH Fz κ w l (xs.map a.eval)
 | [],ys,l,hx,hv=>by cases hx;cases hv;trivial
 | x :: xs,ys,l,hx,hv=>by
  obtain ⟨y,h1,h2⟩:=zbm hx
  obtain ⟨m,h3,rfl⟩:=zmm h2
  obtain ⟨v,h4,h5⟩:=zbm hv
  obtain ⟨n,h6,rfl⟩:=zmm h5
  exact ⟨h.eval h1 h4,sD h h3 h6⟩
theorem dH.Dp : ∀ {xs:List CV} {vs:List Value},dH Fz κ w xs vs → ∃ jo,aM Fz κ w (xs.flatMap Ev.cells) jo ∧ ∀ (bg:Nat → Prop) (w':World) eF,aM bg eF w' (xs.flatMap Ev.cells) jo → dH bg eF w' xs vs
 | [],[],_=>⟨[],trivial,fun _ _ _ _=>trivial⟩
 | x :: xs,v :: vs,h=>by
  obtain ⟨jo,h1,h2⟩:=dH.Dp h.2
  refine ⟨Ev.Dp x v ++ jo,by rw [ajD];exact h.1.Dp.app h1,fun F' w' eF hr=>?_⟩
  rw [ajD] at hr
  obtain ⟨g1,g2⟩:=hr.BD (by have:=h.1.Dp.length;omega)
  exact ⟨fJ.KR (fun ys hy=>by have:=h.1;rw [hy] at this;obtain ⟨cs,h,_⟩:=this;exact ⟨cs,h⟩) g1,h2 F' w' eF g2⟩
 | [],_ :: _,h=>h.elim
 | _ :: _,[],h=>h.elim
theorem GV {xs:List CV} {vs:List Value} (h:dH Fz κ w xs vs):gW Fz κ w (IQ xs) (ret vs):=by
 match xs,vs,h with
 | [],[],h=>exact ⟨_,rfl,h⟩
 | [x],[v],h=>exact h.1
 | x :: y :: xs,v :: u :: vs,h=>exact ⟨_,rfl,h⟩
theorem KW {gv:Bool} {xs:List CV} (h:xs.any (fun x=>(Ev.cells x).any fP) = false) (b:Nat):¬ sj gv κ (xs.flatMap Ev.cells) b:=by
 rintro ⟨_,k,n,hm,_⟩
 obtain ⟨x,hx,hm⟩:=List.mem_flatMap.mp hm
 have:xs.any (fun x=>(Ev.cells x).any fP) = true:=ai0.mpr ⟨x,hx,ai0.mpr ⟨_,hm,rfl⟩⟩
 rw [h] at this;cases this
theorem iP.fz {sz:Nat} {rows:List (List FV)} {v:Value} {bx:List Nat} (h:iP Fz w sz rows v bx) (hf:∀ b,Fz b → bg b) (hb:∀ b ∈ bx,bg b):eO bg w (.sl rows) v:=by
 have hrow:=iP.row (κ:=fun _=>undef) (key:=0) (B:=0) rfl h
 have hbx:bx = oq v:=h.2.choose_spec.choose_spec.choose_spec.choose_spec.2.2.2
 have:=qR (bg:=bg) hf (fun b hk=>hb b (by rw [bL] at hk;rw [hbx,oq,hk];simp)) hrow
 rwa [bL] at this
theorem eZ.fz : ∀ {xs:List AV} {vs:List Value} {bs:List Nat},eZ Fz w xs vs bs → ∃ bf bk:List Nat,bk.Sublist bs ∧ (∀ b ∈ bf,b ∈ bs) ∧ (bs.Nodup → ∀ b ∈ bf,b ∉ bk) ∧ ∀ bg:Nat → Prop,(∀ b,Fz b → bg b) → (∀ b ∈ bf,bg b) → eZ bg w (xs.map OD) vs bk
 | [],[],_,h=>⟨[],[],by cases h;exact ajH _,by simp,by simp,fun _ _ _=>rfl⟩
 | x :: xs,v :: vs,bs,⟨b1,b2,h1,h2,e⟩=>by
  subst e
  obtain ⟨bf,bk,g1,g2,g3,g4⟩:=eZ.fz h2
  by_cases hx:∃ sz rows,x = .one (.own sz rows)
  ·obtain ⟨sz,rows,rfl⟩:=hx
   refine ⟨b1 ++ bf,bk,g1.trans (List.sublist_append_right _ _),fun b hb=>?_,fun hn b hb hk=>?_,fun F hf hbf=>⟨[],bk,⟨iP.fz h1 hf fun b hb=>hbf b (by simp [hb]),rfl⟩,g4 F hf fun b hb=>hbf b (by simp [hb]),rfl⟩⟩
   ·rcases air.mp hb with hb | hb
    ·simp [hb]
    ·simp [g2 b hb]
   ·have hn':=ajr.mp hn
    rcases air.mp hb with hb | hb
    ·exact hn'.2.2 b hb b (g1.subset hk) rfl
    ·exact g3 hn'.2.1 b hb hk
  ·have hfz:OD x = x:=by
    cases x with
    | one y=>cases y <;> first | rfl | exact absurd ⟨_,_,rfl⟩ hx
    | agg _=>rfl
   refine ⟨bf,b1 ++ bk,List.Sublist.append (ajH _) g1,fun b hb=>by simp [g2 b hb],fun hn b hb hk=>?_,fun F hf hbf=>⟨b1,bk,?_,g4 F hf hbf,rfl⟩⟩
   ·have hn':=ajr.mp hn
    rcases air.mp hk with hk | hk
    ·exact hn'.2.2 b hk b (g2 b hb) rfl
    ·exact g3 hn'.2.1 b hb hk
   ·rw [hfz];exact h1.mono hf (fun _ _=>rfl) (fun _ _=>rfl)
 | [],_ :: _,_,h=>h.elim
 | _ :: _,[],_,h=>h.elim
theorem Sat.Ud {f:FuncId} {g:List AV → Option (List AV × List AV)} (h:Sat P f g):Sat P f (fun dV=>(g dV).map (Ev.Ud q)):=by
 cases q with
 | false =>
  intro dV rs oP hg
  obtain ⟨r,h1,h2⟩:=zmm hg
  have:r = (rs,oP):=h2
  subst this
  exact h dV rs oP h1
 | true =>
  intro dV rs oP hg Fz w vals bs ha hn hb hf
  obtain ⟨r,h1,h2⟩:=zmm hg
  have e1:r.1.map OD = rs:=aio Prod.fst h2
  have e2:r.2 = oP:=aio Prod.snd h2
  subst e1;subst e2
  refine Calls.mono (h dV r.1 r.2 h1 Fz w vals bs ha hn hb hf) ?_
  rintro e w' ⟨bg,sw,b1,b2,rfl,hp⟩
  obtain ⟨bf,bk,g1,g2,g3,g4⟩:=eZ.fz hp.rs
  have hnd:=ajr.mp hp.lJ
  refine ⟨fun b=>bg b ∨ b ∈ bf,sw,b1,bk,rfl,fun b hb=>.inl (hp.f1 b hb),fun b hb=>?_,hp.big,hp.ext,hp.kp,hp.bk.mono (fun b hb=>.inl hb) (fun _ _=>rfl) (fun _ _=>rfl),g4 _ (fun b hb=>.inl hb) (fun b hb=>.inr hb),List.Sublist.nodup (List.Sublist.append (ajH _) g1) hp.lJ,fun b hb=>?_⟩
  ·rcases hb with hb | hb
   ·exact hp.f2 b hb
   ·have:=hp.ap b (by simp [g2 b hb])
    exact ⟨this.2.1,.inr this.2.2⟩
  ·have hm:b ∈ b1 ++ b2:=by
    rcases air.mp hb with hb | hb
    ·simp [hb]
    ·simp [g1.subset hb]
   have:=hp.ap b hm
   refine ⟨fun hor=>?_,this.2⟩
   rcases hor with h1 | h1
   ·exact this.1 h1
   ·rcases air.mp hb with hb | hb
    ·exact hnd.2.2 b hb b (g2 b h1) rfl
    ·exact g3 hnd.2.1 b h1 hb
theorem zQ {gv:Bool} (j6:gL P Γ) (h:Rel aV w0 aU N Fz κ σ a w) {f:FuncId} {mq:List CV} {vals:List Value} (hv:dH Fz κ w mq vals) (hE:kr Γ gv q σ d f mq = some (pv,σ')) :
  Calls P f vals.toArray w fun e w'=>∃ v bg eF,e = .returned v ∧ Good aV w0 aU N q d Fz κ σ a w bg eF σ' w' pv v:=by
 unfold kr at hE
 obtain ⟨p,h1,hE⟩:=zbm hE
 obtain ⟨r,h2,hE⟩:=zbm hE
 split at hE
 ·cases hE
 split at hE
 ·cases hE
 rename_i hq1 hq2
 obtain ⟨s1,h3,hE⟩:=zbm hE
 obtain ⟨s2,h4,hE⟩:=zbm hE
 obtain ⟨u,h5,h6⟩:=zmm hE
 cases h6
 obtain ⟨F1,bx,e1,e2,e3⟩:=Bw h.x hv h1
 rw [ai1] at e1
 have elt:=GN h.x hv h1
 obtain ⟨jo,l1,l2⟩:=hv.Dp
 have YG:=(Sat.Ud (q:=q) (j6 f)) p.1 r.1 r.2 h2
 have fin:∀ {F2:Nat → Prop} {w':World} {sw:List Value} {b1 b2:List Nat},(∀ b,Fz b → F2 b) → (∀ b,Fz b → w'.heap[b]? = w.heap[b]?) → bO aV w0 aU N (b1 ++ b2) F2 κ s1 a w' → eZ F2 w' r.2 vals b1 → eZ F2 w' r.1 sw b2 →
   ∃ v bg eF,Ending.returned (ret sw) = .returned v ∧ Good aV w0 aU N q d Fz κ σ a w bg eF u.2 w' (IQ u.1) v:=by
  intro F2 w' sw b1 b2 hf hw hx hb hr
  have YH:aM F2 κ w' (mq.flatMap Ev.cells) jo:=aM.mono hf hw _ (fun _ _=>rfl) _ l1
  have key:∃ zf,bO aV w0 aU N (b2 ++ []) F2 zf s2 a w' ∧ ∀ k,k % 2 = 1 → zf k = κ k:=by
   rw [ai1]
   split at h4
   ·cases h4
    exact ⟨κ,hx.sub,fun _ _=>rfl⟩
   ·obtain ⟨zf,g1,g2,g3⟩:=GR (by unfold dw;omega) hx hb YH (fun eF hk=>l2 F2 w' eF hk) h4
    exact ⟨zf,g1,g3⟩
  obtain ⟨zf,g1,g2⟩:=key
  obtain ⟨E5,g3,g4,_,g5⟩:=BF (Kp:=fun k=>k % 2 = 0) (fun k hk=>by omega) (fun k c hk=>by omega) (by unfold dw;omega) g1 hr (show aM F2 zf w' [] [] from trivial) h5
  exact ⟨_,F2,E5,rfl,g3.rel,GV g4,hf,fun k hk=>(g5 k (by omega)).trans (g2 k hk)⟩
 have call:∀ {F2:Nat → Prop},(∀ b,F1 b → F2 b) → bO aV w0 aU N bx F2 κ s1 a w → eZ F2 w p.1 vals bx → Calls P f vals.toArray w fun e w'=>∃ v bg eF,e = .returned v ∧ Good aV w0 aU N q d Fz κ σ a w bg eF u.2 w' (IQ u.1) v:=by
  intro F2 hf hx ha
  refine Calls.mono (YG F2 w vals bx ha hx.lJ (fun b hb=>⟨(hx.ap b hb).1,(hx.ap b hb).2.1⟩) (fun b hb=>(hx.rel.fz b hb).1)) ?_
  rintro e w' ⟨F3,sw,b1,b2,rfl,hp⟩
  refine fin (fun b hb=>hp.f1 b (hf b (e2 b hb))) (fun b hb=>?_) (hx.called hp) hp.bk hp.rs
  exact hp.ext b (h.fz b hb).1 (fun hm=>(hx.ap b hm).1 (hf b (e2 b hb)))
 cases gv with
 | true =>
  rw [ajw,Bool.false_and,ahY (by decide)] at h3
  cases h3
  exact call (fun _ h=>h) e1 (e3.mono (fun b hb=>hb.resolve_right (fun hl=>by cases hl.1)) (fun _ _=>rfl) (fun _ _=>rfl))
 | false =>
 rw [Bool.not_false,Bool.true_and] at h3
 split at h3
 ·obtain ⟨F2,g1,g2,g3⟩:=Dm e1 h3
  refine call g2 g1 (e3.mono (fun b hb=>?_) (fun _ _=>rfl) (fun _ _=>rfl))
  rcases hb with hb | hb
  ·exact g2 b hb
  ·exact g3 b hb
 ·rename_i hfr
  cases h3
  rw [ah5,Decidable.not_and_iff_or_not] at hfr
  by_cases hown:mq.any (fun x=>(Ev.cells x).any fP) = true
  ·rcases hfr with hfr | hfr
   ·rw [aiV,not_or] at hfr
    have adV:r.1.any vM = false:=any_false hfr.1
    have hpl:p.1.all fC = true:=by simpa using hfr.2
    have hbx:=oQ e3 hpl
    subst hbx
    refine Calls.mono (YG (fun b=>F1 b ∨ sj false κ (mq.flatMap Ev.cells) b) w vals [] e3 ajC (fun b hb=>by simp at hb) (fun b hb=>?_)) ?_
    ·rcases hb with hb | hb
     ·exact (e1.rel.fz b hb).1
     ·exact elt b hb
    ·rintro e w' ⟨F3,sw,b1,b2,rfl,hp⟩
     have hg:=e1.rel.grow hp.big (fun b hb=>hp.ext b hb (by simp)) hp.kp
     obtain ⟨n1,_⟩:=xg (bg:=F1) (w':=w') hp.rs adV
     rw [ahX hpl] at h4
     cases h4
     obtain ⟨E5,g3,g4,_,g5⟩:=BF (Kp:=fun k=>k % 2 = 0) (fun k hk=>by omega) (fun k c hk=>by omega) (by unfold dw;omega) (bx:=[]) (bs:=[]) hg.x n1 (show aM F1 κ w' [] [] from trivial) h5
     exact ⟨_,F1,E5,rfl,g3.rel,GV g4,e2,fun k hk=>g5 k (by omega)⟩
   ·exact absurd hown hfr
  ·have hno:mq.any (fun x=>(Ev.cells x).any fP) = false:=any_false hown
   exact call (fun _ h=>h) e1 (e3.mono (fun b hb=>hb.resolve_right (KW hno b)) (fun _ _=>rfl) (fun _ _=>rfl))
theorem KX {x:PL} {y:TV} {gv:Bool} (h:avT x = some y):qP gv σ x = some (y,σ) ∧ plain y = true ∧ fP x = false:=by
 cases x <;> first | (cases h;exact ⟨rfl,rfl,rfl⟩) | cases h
theorem GX {gv:Bool}:∀ {xs:List PL} {ys:List TV},OE xs = some ys → qQ gv σ xs = some (ys,σ) ∧ ys.all plain = true ∧ xs.any fP = false
 | [],ys,h=>by cases h;exact ⟨rfl,rfl,rfl⟩
 | x :: xs,ys,h=>by
  obtain ⟨y,h1,h2⟩:=zbm h
  obtain ⟨l,h3,rfl⟩:=zmm h2
  obtain ⟨e1,e2,e3⟩:=KX (σ:=σ) (gv:=gv) h1
  obtain ⟨g1,g2,g3⟩:=GX (gv:=gv) h3
  exact ⟨by unfold qQ;rw [e1];simp only [Option.bind_some,g1,Option.map_some],by simp only [List.all_cons,e2,g2,Bool.and_self],by simp only [List.any_cons,e3,g3,Bool.or_self]⟩
theorem GY {gv:Bool}:∀ {xs:List CV} {ys:List AV},Kl xs = some ys → rA gv σ xs = some (ys,σ) ∧ ys.all fC = true ∧ xs.any (fun x=>(Ev.cells x).any fP) = false
 | [],ys,h=>by cases h;exact ⟨rfl,rfl,rfl⟩
 | x :: xs,ys,h=>by
  obtain ⟨y,h1,h2⟩:=zbm h
  obtain ⟨l,h3,rfl⟩:=zmm h2
  have key:J7 gv σ x = some (y,σ) ∧ fC y = true ∧ (Ev.cells x).any fP = false:=by
   cases x with
   | one x =>
    obtain ⟨z,h4,rfl⟩:=zmm h1
    obtain ⟨e1,e2,e3⟩:=KX (σ:=σ) (gv:=gv) h4
    exact ⟨by show Option.map _ (qP gv σ x) = _;rw [e1];rfl,e2,by simp only [Ev.cells,List.any_cons,e3,List.any_nil,Bool.or_self]⟩
   | agg xs =>
    obtain ⟨z,h4,rfl⟩:=zmm h1
    obtain ⟨e1,e2,e3⟩:=GX (σ:=σ) (gv:=gv) h4
    exact ⟨by show Option.map _ (qQ gv σ xs) = _;rw [e1];rfl,e2,e3⟩
  obtain ⟨e1,e2,e3⟩:=key
  obtain ⟨g1,g2,g3⟩:=GY (gv:=gv) h3
  exact ⟨by unfold rA;rw [e1];simp only [Option.bind_some,g1,Option.map_some],by simp only [List.all_cons,e2,g2,Bool.and_self],by simp only [List.any_cons,e3,g3,Bool.or_self]⟩
theorem E9 (j6:gL P Γ) (h:Rel aV w0 aU N Fz κ σ a w) {f:FuncId} {mq:List CV} {vals:List Value} (hv:dH Fz κ w mq vals) (hE:rE Γ σ d f mq = some (pv,σ')) :
  Calls P f vals.toArray w fun e w'=>∃ v bg eF,e = .returned v ∧ Good aV w0 aU N q d Fz κ σ a w bg eF σ' w' pv v:=by
 unfold rE at hE
 obtain ⟨dV,h1,hE⟩:=zbm hE
 obtain ⟨r,h2,hE⟩:=zbm hE
 obtain ⟨p,h3,hE⟩:=zbm hE
 obtain ⟨s',h4,h5⟩:=zmm hE
 obtain ⟨rfl,rfl⟩:=Prod.mk.inj h5
 obtain ⟨g1,g2,g3⟩:=GY (σ:=σ) (gv:=false) h1
 obtain ⟨F1,bx,e1,e2,e3⟩:=Bw h.x hv g1
 rw [ai1] at e1
 have hbx:=oQ e3 g2
 subst hbx
 have ha:eZ F1 w dV vals []:=e3.mono (fun b hb=>hb.resolve_right (KW g3 b)) (fun _ _=>rfl) (fun _ _=>rfl)
 refine Calls.mono (j6 f dV r.1 r.2 h2 F1 w vals [] ha ajC (fun b hb=>by simp at hb) (fun b hb=>(e1.rel.fz b hb).1)) ?_
 rintro e w' ⟨F3,sw,b1,b2,rfl,hp⟩
 have hx:=e1.called hp
 obtain ⟨rs,bk⟩:=r
 have hr:=hp.rs
 simp only at h3 hr
 match rs,h3 with
 | [.one (.own sz rows)],h3 =>
  cases h3
  match sw,hr with
  | [v],⟨c1,c2,k1,k2,k3⟩ =>
   have:c2 = []:=k2
   subst this
   rw [ai1] at k3
   subst k3
   obtain ⟨m1,m2,m3⟩:=bO.KO (bs:=[]) (pend:=[]) (jo:=[]) (by rw [ai1];exact hx.sub) (show aM F3 κ w' [] [] from trivial) (show newP [] σ (dw d) (.row sz rows) = some s' from h4) k1
   exact ⟨v,F3,oI κ (dw d) v,rfl,m1.rel,m3,fun b hb=>hp.f1 b (e2 b hb),fun k hk=>dY (by unfold dw;omega) _⟩
theorem oo {f:FuncId} {fn:Func} {args:Array Value} (hf:P.funcs[f]? = some fn) (hn:(fn.name == "runtime.NumGoroutine") = false) (hb:fn.body.isSome = true):(callFunc f args).run P w = .ok (.enter f args) w:=by
 unfold callFunc
 have hb':fn.body.isNone = false:=by cases h:fn.body <;> simp_all
 rw [Sem.run_bind,show (program:Sem Program).run P w = .ok P w from rfl]
 simp only [Result.andThen_ok,hf,hn,hb',ais,aik]
 rfl
theorem IY {X:Hx} {i:I} (hc:rU P X o = some i):∃ c l,o.op = .call c ∧ Bc c.args.toList = some l ∧
  ((∃ fn f,(i = .call (X.gv.contains f) f l ∨ i = .yX f l) ∧ c.callee = .value (.func f) ∧ P.funcs[f]? = some fn ∧ (fn.name == "runtime.NumGoroutine") = false ∧ fn.body.isSome = true) ∨ ∃ t,i = .dyn (.t t) l ∧ c.callee = .value (.tmp t)):=by
 unfold rU at hc
 split at hc
 ·rename_i c ho
  split at hc
  ·rename_i f nM
   split at hc
   ·rename_i fn hf
    split at hc
    ·rename_i hh
     obtain ⟨l,h1,rfl⟩:=zmm hc
     refine ⟨c,l,ho,h1,.inl ⟨fn,f,?_,nM,hf,hh.1,hh.2⟩⟩
     split
     ·exact .inr rfl
     ·exact .inl rfl
    ·cases hc
   ·cases hc
  ·rename_i t nM
   obtain ⟨l,h1,rfl⟩:=zmm hc
   exact ⟨c,l,ho,h1,.inr ⟨t,rfl,nM⟩⟩
  ·cases hc
 ·cases hc
def dG (P:Program) (Γ:Env):Prop:=∀ f dV r,Γ f dV = some r → ∃ fn,P.funcs[f]? = some fn ∧ (fn.name == "runtime.NumGoroutine") = false ∧ fn.body.isSome = true
theorem mV.KC : ∀ {caps:List (List FV)} {cs:List Value},mV Fz w caps cs → dH Fz κ w (caps.map fun c=>CV.one (.fp c)) cs
 | [],[],_=>trivial
 | c :: caps,v :: cs,h=>⟨h.1,mV.KC h.2⟩
 | [],_ :: _,h=>h.elim
 | _ :: _,[],h=>h.elim
theorem dH.app : ∀ {xs ys:List CV} {us vs:List Value},dH Fz κ w xs us → dH Fz κ w ys vs → dH Fz κ w (xs ++ ys) (us ++ vs)
 | [],ys,[],vs,_,h=>h
 | x :: xs,ys,u :: us,vs,h,h'=>⟨h.1,dH.app h.2 h'⟩
 | [],_,_ :: _,_,h,_=>h.elim
 | _ :: _,_,[],_,h,_=>h.elim
theorem vO {gv:Bool} (hC:dG P Γ) {f:FuncId} {mq:List CV} (hE:kr Γ gv q σ d f mq = some (pv,σ')):∃ fn,P.funcs[f]? = some fn ∧ (fn.name == "runtime.NumGoroutine") = false ∧ fn.body.isSome = true:=by
 unfold kr at hE
 obtain ⟨p,h1,hE⟩:=zbm hE
 obtain ⟨r,h2,hE⟩:=zbm hE
 obtain ⟨r',h2,_⟩:=zmm h2
 exact hC f _ _ h2
theorem YI {X:Hx} (heq:∀ t ∈ X.eqs,kL P t) (j6:gL P Γ) (hC:dG P Γ) (h:Rel aV w0 aU N Fz κ σ a w) {i:I} (hc:rV P X o = some i) (hE:bW Γ q σ d i = some (pv,σ')) {K:Act → World → Prop} {Q:Exit → Act → World → Prop}
  (hK:∀ v bg eF w',Good aV w0 aU N q d Fz κ σ a w bg eF σ' w' pv v → K (a.put o.dst v) w'):o.wp P a w K Q:=by
 unfold rV at hc
 split at hc
 ·rename_i i' hcc
  cases hc
  have Sc:∀ c:Call,c.args.map a.eval = (c.args.toList.map a.eval).toArray:=fun c=>by rw [← aje,Array.toArray_toList]
  have fin:∀ {f:FuncId} {fn:Func} {vals:List Value},P.funcs[f]? = some fn → (fn.name == "runtime.NumGoroutine") = false → fn.body.isSome = true → (Calls P f vals.toArray w fun e w'=>∃ v bg eF,e = .returned v ∧ Good aV w0 aU N q d Fz κ σ a w bg eF σ' w' pv v) → (execOp a.eval o).run P w = (callFunc f vals.toArray).run P w → o.wp P a w K Q:=by
   intro f fn vals hf hn hb Fa hrun
   unfold Oper.wp
   rw [hrun,oo hf hn hb,Oper.upon_enter]
   refine Calls.mono Fa ?_
   rintro e w' ⟨v,bg,eF,rfl,hg⟩
   exact hK v bg eF w' hg
  obtain ⟨c,l,ho,hargs,⟨fn,f,hi,nM,hf,hn,hb⟩ | ⟨t,rfl,nM⟩⟩:=IY hcc
  ·have Fa:Calls P f (c.args.toList.map a.eval).toArray w fun e w'=>∃ v bg eF,e = .returned v ∧ Good aV w0 aU N q d Fz κ σ a w bg eF σ' w' pv v:=by
    rcases hi with rfl | rfl
    ·obtain ⟨mq,h1,h2⟩:=zbm hE
     exact zQ j6 h (sD h hargs h1) h2
    ·obtain ⟨mq,h1,h2⟩:=zbm hE
     exact E9 j6 h (sD h hargs h1) h2
   refine fin hf hn hb Fa ?_
   unfold execOp resolve
   simp only [ho,nM,Sc,Sem.run_bind]
   show (do let d ← Deferred.ofValue (a.eval (.func f)) (c.args.toList.map a.eval).toArray;invoke d.target d.args:Sem Next).run P w = _
   have hd:Deferred.ofValue (a.eval (.func f)) (c.args.toList.map a.eval).toArray = pure { target:=.fn (.func f) #[],args:=#[] ++ (c.args.toList.map a.eval).toArray }:=rfl
   rw [hd]
   simp only [Sem.run_bind,Sem.run_pure,Result.andThen_ok,invoke,Array.empty_append,Array.append_empty]
  ·obtain ⟨v,h1,h2⟩:=zbm hE
   have hv:=h.eval (x:=.tmp t) rfl h1
   split at h2
   ·rename_i f caps
    obtain ⟨mq,h3,h4⟩:=zbm h2
    obtain ⟨cs,e1,e2⟩:=hv
    obtain ⟨fn,hf,hn,hb⟩:=vO hC h4
    refine fin hf hn hb (zQ j6 h ((sD h hargs h3).app e2.KC) h4) ?_
    unfold execOp resolve
    simp only [ho,nM,Sc,Sem.run_bind]
    rw [e1]
    have hd:Deferred.ofValue (.func (.func f) #[] cs.toArray) (c.args.toList.map a.eval).toArray = pure { target:=.fn (.func f) cs.toArray,args:=#[] ++ (c.args.toList.map a.eval).toArray }:=rfl
    rw [hd]
    simp only [Sem.run_bind,Sem.run_pure,Result.andThen_ok,invoke,Array.empty_append,List.append_toArray,List.nil_append]
   ·cases h2
 ·split at hc
  ·rename_i i' hc0
   split at hc
   ·cases hc
   ·rename_i hi
    cases hc
    obtain ⟨r,w',eF,bg,v,h1,h2,h3⟩:=KM heq h hc0 (aiX.mpr hi) hE
    unfold Oper.wp
    rw [h1]
    rcases h2 with rfl | ⟨rfl,rfl⟩
    ·exact hK v bg eF w' h3
    ·exact hK undef bg eF w' h3
  ·cases hc
end
end
end Go.Proofs.YtfokaoeinpnagaaGreat.Ev

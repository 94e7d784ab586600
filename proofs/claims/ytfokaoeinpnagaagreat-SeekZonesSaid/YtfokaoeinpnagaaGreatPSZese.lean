/- A part of the proof of SeekZones: cut, joined and given short names by a program of this session (wip/tools/pack.py); Lean checks it. No condition. -/
import Derived.Test.YtfokaoeinpnagaaGreatPSZesd
import Derived.Carry
import Derived.Laws.Cover3
import Derived.WalkSpells
import Derived.Laws.BytesString
import Derived.Lib.SliceRun
import Derived.Lib.BufferMore
import Derived.Laws.Pointers
import Derived.Calls
import Derived.LoopN
import Derived.Tactics
set_option linter.unusedSectionVars false
set_option linter.unusedSimpArgs false
set_option linter.unusedVariables false
set_option maxHeartbeats 16000000
set_option maxRecDepth 100000
namespace Go.Proofs.YtfokaoeinpnagaaGreat.Ev
section
open Go
section
variable {P : Program} {Γ:Env} {bn Fz bD:Nat → Prop} {w0 w w':World} {bg:List Nat} {N:Fr} {d:Nat} {q:Bool} {κ eZ:Nat → Value} {σ σ1 σ':St} {a:Act} {pv:PV} {o:Oper}
theorem lS (cells:Array Value) (hn:0 < cells.size):∀ (len:Nat),(List.range (len * cells.size)).map (fun j=>cells[j % cells.size]!) = (List.replicate len cells.toList).flatten
 | 0=>by simp
 | len + 1=>by
  have ih:=lS cells hn len
  rw [ajV,Nat.add_comm,List.range_add,aks,aku,List.replicate_succ,List.flatten_cons]
  congr 1
  ·refine List.ext_getElem (by simp) fun j h1 h2=>?_
   have hj:j < cells.size:=by simpa using h2
   simp [Nat.mod_eq_of_lt hj,hj]
  ·rw [← ih]
   refine List.map_congr_left fun j _=>?_
   simp [Nat.add_mod_left]
theorem aT.app : ∀ {xs ys:List PL} {us vs:List Value},aT Fz κ w xs us → aT Fz κ w ys vs → aT Fz κ w (xs ++ ys) (us ++ vs):=by
 intro xs
 induction xs with
 | nil=>intro ys us vs h h';cases us with | nil=>exact h' | cons _ _=>exact h.elim
 | cons x xs ih=>intro ys us vs h h';cases us with | nil=>exact h.elim | cons u us=>exact ⟨h.1,ih h.2 h'⟩
theorem aT.LW {xs:List PL} {us:List Value} (h:aT Fz κ w xs us):∀ (n:Nat),aT Fz κ w (List.replicate n xs).flatten (List.replicate n us).flatten
 | 0=>trivial
 | n + 1=>by rw [List.replicate_succ,List.replicate_succ,List.flatten_cons,List.flatten_cons];exact h.app (h.LW n)
theorem Qh {t e:TypeId} {len:Nat} {parts:Array (Nat × Value)} {cells:Array Value} {ie:TypeInfo} {z:Value} (hu:P.underlying t = some (.slice e)) (hie:P.info? e = some ie) (hz:ie.zero = some z) (hsmall:¬ len * ie.size > 2 ^ 24)
  (h:Instr.fill (fun i=>some (i * ie.size,ie.size)) ((Array.range (len * ie.size)).map (z.cells[· % z.cells.size]!)) parts.toList = some cells) :
  (Instr.buildSlice t len parts).run P w = .ok (.slice (some ⟨w.heap.size,0,none⟩) len len) (w.alloc (.cells cells e)):=by
 by_cases hpos:len * ie.size = 0
 ·rw [hpos] at h
  have e0:∀ (x:Array Value),(Array.range 0).map (fun j=>x[j % x.size]!) = (#[]:Array Value):=fun x=>by simp
  rw [e0] at h
  have e1:((Array.range (len * ie.size)).map (fun j=>(#[]:Array Value)[j % (#[]:Array Value).size]!)) = (#[]:Array Value):=by rw [hpos];simp
  unfold Instr.buildSlice
  simp only [Sem.run_bind,run_underlying hu,sizeOf,typeInfo,Result.andThen_ok]
  have e2:Array.map (fun (x:Nat)=>(default:Value)) (Array.range 0) = #[]:=by simp
  simp [hie,hpos,newRow]
  rw [e2,h]
  rfl
 ·exact run_buildSlice w t e len parts cells ie z hu hie hz hsmall hpos h
theorem TI (h:Rel bn w0 bg N Fz κ σ a w) {t e:TypeId} {len sz:Nat} {ps:Array (Nat × Operand)} {z:List PL} {l:List (Nat × Nat × dM)} (hu:P.underlying t = some (.slice e)) (hn:lJ P e = some sz) (hs:¬ (sz = 0 ∨ len * sz > 16777216)) (hz:Ai P e = some z) (hzl:z.length = sz) (hp:oK sz ps.toList = some l)
  (hE:bZ Γ q σ d (.zH e sz len (List.replicate len z).flatten l) = some (pv,σ')) :
  Does P bn w0 bg N q d Fz κ σ a w (do let v ← Instr.buildSlice t len (ps.map fun (i,x)=>(i,a.eval x));Pure.pure (.value v)) σ' pv:=by
 obtain ⟨vs,h1,h2⟩:=zbm hE
 obtain ⟨z',h3,h4⟩:=zbm h2
 split at h4
 ·cases h4
 ·rename_i hq
  obtain ⟨p,h5,h6⟩:=zbm h4
  obtain ⟨s,h7,h8⟩:=zmm h6
  cases h8
  obtain ⟨i,zv,e1,e2,e3⟩:=uS (Fz:=Fz) (κ:=κ) (w:=w) hz
  have hsz:i.size = sz:=by unfold lJ at hn;rw [e1] at hn;simpa using hn
  have hlz:=e3.length
  rw [Array.length_toList,hzl] at hlz
  have hzs:zv.cells.size = sz:=by omega
  have hb:aT Fz κ w (List.replicate len z).flatten ((Array.range (len * i.size)).map (zv.cells[· % zv.cells.size]!)).toList:=by
   rw [akn,Array.toList_range,hsz,← hzs,lS zv.cells (by omega) len]
   exact e3.LW len
  obtain ⟨cs',e6,e7,e8⟩:=nI h (place:=fun i=>some (i * sz,sz)) (ps:=ps.toList) (fun _=>trivial) (qB hp) h1 h3 hb
  have hcs:cs'.size = len * sz:=by rw [e8];simp [hsz]
  obtain ⟨bD,g1,g2,g3,g4,g5⟩:=h.Qg e7 hq h5
  obtain ⟨a1,a2,a3⟩:=mD w (.cells cs' e (0,0))
  have hlen:p.1.length = len * sz:=by have:=g3.len;rw [Array.length_toList] at this;omega
  have hrun:=Qh (P:=P) (w:=w) (t:=t) (e:=e) (len:=len) (parts:=ps.map fun (i,x)=>(i,a.eval x)) (cells:=cs') hu e1 e2 (by rw [hsz];omega) (by rw [akn];rw [hsz] at e6 ⊢;exact e6)
  refine Does.after g2 g4 g5 ⟨_,_,_,_,_,by rw [Sem.run_bind,hrun];rfl,.inl rfl,Good.new (pl:=.own (dA d) len) g1 h7 (by omega) a2 (fun b hb=>by cases hb;exact ⟨ajd _,by show w.heap.size < _;omega⟩) ⟨rfl,rfl⟩ ?_ ⟨by rw [bO],_,_,rfl⟩⟩
  refine ⟨by omega,e,cs'.toList,some ⟨w.heap.size,0,none⟩,len,by rw [bO,rW],?_,eD.mono (fun _ h=>h) (fun b hb=>a2 b (g1.fz b hb).1) sz _ _ (Ap g3 hlen)⟩
  rw [bO,rW]
  have hle:len ≤ len * sz:=Nat.le_mul_of_pos_right _ (by omega)
  refine ⟨by rw [Array.length_toList];exact hcs,.inr ⟨w.heap.size,len,cs',rfl,ajO _,a1,ajd _,by simp only [maxLen];omega,hcs,?_⟩⟩
  rw [akL]
  rw [Array.length_toList];omega
theorem Zw (h:Rel bn w0 bg N Fz κ σ a w) {t e:TypeId} {len sz:Nat} {ps:Array (Nat × Operand)} {z:List PL} {l:List (Nat × Nat × dM)} (hu:P.underlying t = some (.slice e)) (hn:lJ P e = some sz) (hs:¬ (sz = 0 ∨ len * sz > 16777216)) (hz:Ai P e = some z) (hzl:z.length = sz) (hp:oK sz ps.toList = some l)
  (hE:bZ Γ q σ d (.PD e sz len (List.replicate len z).flatten l) = some (pv,σ')) :
  Does P bn w0 bg N q d Fz κ σ a w (do let v ← Instr.buildSlice t len (ps.map fun (i,x)=>(i,a.eval x));Pure.pure (.value v)) σ' pv:=by
 obtain ⟨⟨pv1,σ1⟩,hE1,h2⟩:=zbm hE
 obtain ⟨r,w',eZ,bD,v,g1,g2,g3⟩:=TI (Γ:=Γ) (q:=q) (d:=d) h hu hn hs hz hzl hp hE1
 simp only at h2
 unfold D5 at h2
 split at h2
 ·rename_i x s
  obtain ⟨y,h3,h4⟩:=zmm h2
  cases h4
  obtain ⟨F2,k1,k2,k3⟩:=g3.rel.vN g3.val h3
  exact ⟨r,w',eZ,F2,v,g1,g2,⟨k1,k3,fun b hb=>k2 b (g3.f1 b hb),g3.e6⟩⟩
 ·cases h2
theorem Kp.setRow (w:World) (b:Nat) (c:Array Value):Kp w (w.setRow b c):=⟨rfl,rfl⟩
theorem Good.set (h:Rel bn w0 bg N Fz κ σ a w) {key:Nat} {o o':Ob} (hk:get σ.ob key = some o) (hs:w.heap.size ≤ w'.heap.size) (hb:∀ b,b < w.heap.size → blk (κ key) ≠ some b → w'.heap[b]? = w.heap[b]?)
  (hkp:Kp w w') (ho:iO 0 Fz κ w' key o') {v:Value} (hv:iK Fz κ w' pv v):Good bn w0 bg N q d Fz κ σ a w Fz κ (jA σ key o') w' pv v where
 rel:=h.set hk hs hb hkp ho
 val:=hv
 f1:=fun _ h=>h
 e6:=fun _ _=>rfl
theorem vR {t:TypeId} {n g off:Nat} {cur:Array Value} {e:TypeId} {v:Value} (hn:lJ P t = some n) (hv:v.cells.toList.length = n) (h1:∀ u ∈ v.cells.toList,u.oneCell' = true) (hg:w.heap[g]? = some (.cells cur e (0,0))) (hl:off + n ≤ cur.size) :
  (Instr.storeAt t (.pointer (some ⟨g,off,none⟩)) v).run P w = .ok () (w.setRow g (cur.toList.take off ++ v.cells.toList ++ cur.toList.drop (off + v.cells.toList.length)).toArray):=by
 have:=run_storeCells_at P g off e v.cells.toList 0 cur w hg (by omega) h1
 rw [Nat.add_zero] at this
 have hs:(Instr.sureAddr (.pointer (some ⟨g,off,none⟩))).run P w = .ok ⟨g,off,none⟩ w:=rfl
 unfold Instr.storeAt storeVar
 rw [Array.length_toList] at hv
 simp only [Sem.run_bind,hs,Result.andThen_ok,nT hn]
 rw [ai9 (by omega)]
 exact this
theorem Qi (h:Rel bn w0 bg N Fz κ σ a w) {t:TypeId} {n:Nat} {x y:Operand} {x' y':dM} (hn:lJ P t = some n) (hx:fC x = some x') (hy:fC y = some y') (hE:bZ Γ q σ d (.store n x' y') = some (pv,σ')) :
  Does P bn w0 bg N q d Fz κ σ a w (do Instr.storeAt t (a.eval x) (a.eval y);Pure.pure .skip) σ' pv:=by
 obtain ⟨v,h1,h2⟩:=zbm hE
 obtain ⟨u,h3,h4⟩:=zbm h2
 have hv:=h.eval hx h1
 split at h4
 ·rename_i hc
  obtain ⟨e1,e2⟩:=(h.eval hy h3).cells hc.2
  have hlen:=e1.length
  rw [hc.1] at hlen
  split at h4
  ·rename_i key off
   split at h4
   ·rename_i xs fZ
    obtain ⟨l,h5,h6⟩:=zmm h4
    cases h6
    obtain ⟨b,e3,e4⟩:=hv
    obtain ⟨b',cs,e,e5,e6,e7⟩:=h.obj fZ
    rw [e3] at e5
    cases e5
    obtain ⟨e8,e9⟩:=e7.lay e1 h5
    have hrun:=vR (P:=P) hn hlen e2 e6 (off:=off) (by rw [Array.length_toList (xs:=cs)] at e9;omega)
    refine ⟨.skip,w.setRow b _,κ,Fz,undef,by rw [e4,Sem.run_bind,hrun];rfl,.inr ⟨rfl,rfl⟩,Good.set h fZ (by simp) (fun k _ hk=>setRow_other w b k _ (fun e=>hk (by rw [e3,e];rfl))) (Kp.setRow _ _ _) ?_ rfl⟩
    refine ⟨b,_,e,e3,setRow_heap w b cs _ e _ e6,?_⟩
    exact aT.mono (fun _ h=>h) (fun k hk=>setRow_other w b k _ (fun e=>(h.pos _ (get_mem fZ) b (by rw [e3];rfl)).1 (e ▸ hk))) _ (fun _ _=>rfl) _ e8
   ·cases h4
  ·rename_i key z i off
   split at h4
   ·cases h4
   ·rename_i hq
    obtain ⟨p,h5,h6⟩:=zbm h4
    obtain ⟨bD,g1,g2,g3,g4,g5⟩:=h.Qg e1 hq h5
    split at h6
    ·rename_i sz rows fZ
     split at h6
     ·cases h6
     ·rename_i hz
      have hz':sz = z:=ajQ.mp hz
      subst hz'
      obtain ⟨r,h7,h8⟩:=zbm h6
      obtain ⟨l,h9,h10⟩:=zmm h8
      cases h10
      refine Does.after g2 g4 g5 ?_
      obtain ⟨b,n',c,e3,e4⟩:=hv
      obtain ⟨o0,e,inner,A,c',o1,⟨o2,o3⟩,o4⟩:=g1.obj fZ
      obtain ⟨r1,r2,r3⟩:=o4.set g3 h7 h9
      rcases o3 with ⟨o3,o5⟩ | ⟨g,cap,cur,o3,o5,o6,o7,o8,o9,o10⟩
      ·rw [o3] at e3;cases e3
      ·rw [o3] at e3
       injection e3 with q1 q2 q3
       injection q1 with q1
       injection q1 with q1
       subst q1
       have hci:inner.length ≤ cur.toList.length:=by rw [← o10,ajq];exact Nat.min_le_right _ _
       have hm:(i + 1) * sz = i * sz + sz:=ajV i sz
       rw [hm] at r3
       have hrun:=vR (P:=P) hn hlen e2 o6 (off:=i * sz + off) (by rw [Array.length_toList (xs:=cur)] at hci;omega)
       have hpos:=(g1.pos _ (get_mem fZ) g (by show blk (κ key) = _;rw [o3];rfl)).1
       have hmv:∀ k,bD k → (w.setRow g (cur.toList.take (i * sz + off) ++ (a.eval y).cells.toList ++ cur.toList.drop (i * sz + off + (a.eval y).cells.toList.length)).toArray).heap[k]? = w.heap[k]?:=fun k hk=>setRow_other w g k _ (fun e=>hpos (e ▸ hk))
       refine ⟨.skip,_,κ,bD,undef,by rw [e4,Sem.run_bind,hrun];rfl,.inr ⟨rfl,rfl⟩,Good.set g1 fZ (by simp) (fun k _ hk=>setRow_other w g k _ (fun e=>hk (by rw [o3,e];rfl))) (Kp.setRow _ _ _) ?_ rfl⟩
       have hle:i * sz + off + (a.eval y).cells.toList.length ≤ inner.length:=by omega
       have hn2:=o2
       refine ⟨o0,e,_,A,c',by rw [akK];exact o1,?_,eD.mono (fun _ h=>h) hmv sz _ _ r1⟩
       rw [akK]
       refine ⟨by simp only [ajh,ajq,ajA];omega,.inr ⟨g,cap,_,o3,o5,setRow_heap w g cur _ e _ o6,o7,o8,?_,?_⟩⟩
       ·simp only [List.size_toArray,ajh,ajq,ajA,Array.length_toList] at *
        omega
       ·refine akl fun j=>?_
        have e5:i * sz + off + (a.eval y).cells.toList.length ≤ cur.toList.length:=by omega
        rw [ajU,gX e5,gX hle]
        have hin:∀ j,j < rows.length * sz → inner[j]? = cur.toList[j]?:=fun j hj=>by rw [← o10,ajU,ai8 hj]
        by_cases hj:j < rows.length * sz
        ·rw [ai8 hj,hin j hj]
        ·rw [ai9 hj]
         rw [ai9 (by omega),ai9 (by omega)]
         exact (akx (by omega)).symm
    ·cases h6
  ·cases h4
 ·cases h4
end
end
section
open Go
section
variable {P : Program} {Γ:Env} {bn Fz bD:Nat → Prop} {w0 w w':World} {bg:List Nat} {N:Fr} {d:Nat} {q:Bool} {κ eZ:Nat → Value} {σ σ1 σ':St} {a:Act} {pv:PV} {o:Oper}
theorem eD.all {sz:Nat}:∀ {rows:List (List FV)} {vs:List Value},eD Fz w sz rows vs → rows.all (fun r=>r.length == sz) = true
 | [],_,_=>rfl
 | r :: rs,vs,h=>by rw [List.all_cons,eD.all h.2.2,h.1];simp
theorem Zx (h:Rel bn w0 bg N Fz κ σ a w) {t e:TypeId} {sz:Nat} {x:Operand} {lo hi:Option Operand} {x':dM} {lo' hi':Option dM} (hu:P.underlying t = some (.slice e)) (hn:lJ P e = some sz) (hx:fC x = some x') (hlo:xK lo = some lo') (hhi:xK hi = some hi') (hE:bZ Γ q σ d (.cut sz x' lo' hi') = some (pv,σ')) :
  Does P bn w0 bg N q d Fz κ σ a w (do let v ← Instr.sliceAt t (a.eval x) (lo.map a.eval) (hi.map a.eval) none;Pure.pure (.value v)) σ' pv:=by
 obtain ⟨v,h1,h2⟩:=zbm hE
 have hv:=h.eval hx h1
 split at h2
 ·rename_i rows
  split at h2
  ·cases h2
  ·rename_i hall
   obtain ⟨p,h3,h4⟩:=zbm h2
   cases h4
   obtain ⟨A,c,e1,e2,e2',e3⟩:=(show ∃ A c,a.eval x = .slice A rows.length c ∧ rows.length ≤ c ∧ rows.length ≤ 9223372036854775807 ∧ (rows = [] ∨ ∃ b o sz,A = some ⟨b,o,none⟩ ∧ Fz b ∧ dn Fz w sz b o rows) by simpa only [fV,eB,eY] using hv)
   obtain ⟨f1,f2,f3⟩:=Cg (P:=P) h hlo hhi h3
   have hrun:=pR (P:=P) (A:=A) hu hn (f3 true c e2)
   refine Does.pure h (v:=_) (by rw [e1];exact hrun) ?_
   exact Ci e2 e2' e3 (by simpa using hall) f1 f2
 ·obtain ⟨p,h3,h4⟩:=zbm h2
  cases h4
  obtain ⟨f1,f2,f3⟩:=Cg (P:=P) h hlo hhi h3
  have hrun:=pR (P:=P) (A:=none) hu hn (f3 true 0 (ajd _))
  refine Does.pure h (v:=_) (by rw [show a.eval x = .slice none 0 0 from hv];exact hrun) ?_
  have:=Ci (Fz:=Fz) (w:=w) (sz:=sz) (rows:=[]) (A:=none) (c:=0) (l:=p.1) (r:=p.2) (ajd _) (by simp) (.inl rfl) rfl f1 f2
  show eY Fz w (.sl []) _
  simpa using this
 ·rename_i key n
  split at h2
  ·rename_i sz' rows fZ
   split at h2
   ·cases h2
   ·rename_i hsz
    have hsz':sz' = sz:=ajQ.mp hsz
    subst hsz'
    obtain ⟨p,h3,h4⟩:=zbm h2
    split at h4
    ·cases h4
    ·rename_i hq
     obtain ⟨s,h5,h6⟩:=zbm h4
     cases h6
     obtain ⟨f1,f2,f3⟩:=Cg (P:=P) h hlo hhi h3
     have hall:rows.all (fun r=>r.length == sz') = true:=by obtain ⟨_,_,inner,_,_,_,_,o4⟩:=h.obj fZ;exact o4.all
     obtain ⟨bD,g1,g2,g3⟩:=h.zI fZ h5
     obtain ⟨A,c,e1,e2,e2',e3⟩:=(show ∃ A c,κ key = .slice A rows.length c ∧ rows.length ≤ c ∧ rows.length ≤ 9223372036854775807 ∧ (rows = [] ∨ ∃ b o sz,A = some ⟨b,o,none⟩ ∧ bD b ∧ dn bD w sz b o rows) by simpa only [eY] using g3)
     have hrun:=pR (P:=P) (A:=A) hu hn (f3 true c e2)
     have hk:∀ p ∈ σ'.ob,∃ p' ∈ σ.ob,p'.1 = p.1:=(Ea (σ:=σ) (x:=.own key n) (y:=.sl rows) (by simp only [Ev.vN,fZ,h5,Option.map_some])).1
     refine Does.after g2 (fun Zy=>absurd Zy hq) hk (Does.pure g1 (v:=_) (by rw [show a.eval x = κ key from hv.1,e1];exact hrun) ?_)
     exact Ci e2 e2' e3 hall f1 f2
  ·cases h2
 ·cases h2
theorem Qj (h:Rel bn w0 bg N Fz κ σ a w) {t:TypeId} {sh:KS} (hE:bZ Γ q σ d (.pK sh) = some (pv,σ')):Does P bn w0 bg N q d Fz κ σ a w (do let v ← Instr.makeMap t none;Pure.pure (.value v)) σ' pv:=by
 obtain ⟨s,h1,h2⟩:=zmm hE
 cases h2
 obtain ⟨a1,a2,a3⟩:=mD w (.map #[] 0)
 refine ⟨_,_,_,_,_,by rw [Sem.run_bind,show (Instr.makeMap t none).run P w = .ok (.map (some w.heap.size)) (w.alloc (.map #[] 0)) from rfl];rfl,.inl rfl,Good.new (pl:=.mp (dA d)) h h1 (by omega) a2 (fun b hb=>by cases hb;exact ⟨ajd _,by show w.heap.size < _;omega⟩) ⟨rfl,rfl⟩ ⟨w.heap.size,by rw [bO],[],Mq.At.made w,trivial,by simp⟩ ⟨by rw [bO],_,rfl⟩⟩
theorem iN.keys : ∀ {l:List (KV × FC)} {m:List (KV × Value)},iN Fz w l m → l.map (·.1) = m.map (·.1)
 | [],[],_=>rfl
 | p :: l,r :: m,h=>by rw [ajk,ajk,h.1,iN.keys h.2.2]
 | [],_ :: _,h=>h.elim
 | _ :: _,[],h=>h.elim
theorem iN.idx {l:List (KV × FC)} {m:List (KV × Value)} (h:iN Fz w l m) (k:KV):xA l k = Mq.idx m k:=by unfold xA Mq.idx;rw [h.keys]
theorem iN.at : ∀ {l:List (KV × FC)} {m:List (KV × Value)} {i:Nat},iN Fz w l m → (∀ p,l[i]? = some p → ∃ r,m[i]? = some r ∧ p.1 = r.1 ∧ lW Fz w p.2 r.2) ∧ (l[i]? = none → m[i]? = none)
 | [],[],i,_=>⟨fun p h=>by simp at h,fun _=>by simp⟩
 | p :: l,r :: m,0,h=>⟨fun q hq=>by cases hq;exact ⟨r,rfl,h.1,h.2.1⟩,fun hn=>by simp at hn⟩
 | p :: l,r :: m,i + 1,h=>by simpa using iN.at (i:=i) h.2.2
 | [],_ :: _,_,h=>h.elim
 | _ :: _,[],_,h=>h.elim
theorem iN.sP {l:List (KV × FC)} {m:List (KV × Value)} (h:iN Fz w l m) (k:KV):(∀ x,sH l k = some x → ∃ v,Mq.sP m k = some v ∧ lW Fz w x v) ∧ (sH l k = none → Mq.sP m k = none):=by
 unfold sH Mq.sP
 rw [h.idx k]
 cases Mq.idx m k with
 | none=>exact ⟨fun x hx=>by simp at hx,fun _=>rfl⟩
 | some i =>
  simp only [Option.bind_some]
  refine ⟨fun x hx=>?_,fun hx=>?_⟩
  ·obtain ⟨p,hp,rfl⟩:=zmm hx
   obtain ⟨r,h1,h2,h3⟩:=(h.at (i:=i)).1 p hp
   exact ⟨r.2,by rw [h1];rfl,h3⟩
  ·rw [Option.map_eq_none_iff] at hx
   rw [(h.at (i:=i)).2 hx];rfl
theorem iN.setAt {k:KV} {x:FC} {v:Value} (hv:lW Fz w x v):∀ {l:List (KV × FC)} {m:List (KV × Value)} {i:Nat},iN Fz w l m → iN Fz w (l.set i (k,x)) (m.set i (k,v))
 | [],[],_,_=>trivial
 | p :: l,r :: m,0,h=>⟨rfl,hv,h.2.2⟩
 | p :: l,r :: m,i + 1,h=>⟨h.1,h.2.1,iN.setAt hv h.2.2⟩
 | [],_ :: _,_,h=>h.elim
 | _ :: _,[],_,h=>h.elim
theorem iN.push {k:KV} {x:FC} {v:Value} (hv:lW Fz w x v):∀ {l:List (KV × FC)} {m:List (KV × Value)},iN Fz w l m → iN Fz w (l ++ [(k,x)]) (m ++ [(k,v)])
 | [],[],_=>⟨rfl,hv,trivial⟩
 | p :: l,r :: m,h=>⟨h.1,h.2.1,iN.push hv h.2.2⟩
 | [],_ :: _,h=>h.elim
 | _ :: _,[],h=>h.elim
theorem iN.erase : ∀ {l:List (KV × FC)} {m:List (KV × Value)} {i:Nat},iN Fz w l m → iN Fz w (l.eraseIdx i) (m.eraseIdx i)
 | [],[],_,_=>trivial
 | p :: l,r :: m,0,h=>h.2.2
 | p :: l,r :: m,i + 1,h=>⟨h.1,h.2.1,iN.erase h.2.2⟩
 | [],_ :: _,_,h=>h.elim
 | _ :: _,[],_,h=>h.elim
theorem iN.upd {l:List (KV × FC)} {m:List (KV × Value)} (h:iN Fz w l m) {k:KV} {x:FC} {v:Value} (hv:lW Fz w x v):iN Fz w (xB l k x) (Mq.upd m k v):=by
 unfold xB Mq.upd
 rw [h.idx k]
 cases Mq.idx m k with
 | none=>exact h.push hv
 | some i=>exact h.setAt hv
theorem iN.del {l:List (KV × FC)} {m:List (KV × Value)} (h:iN Fz w l m) {k:KV}:iN Fz w (BP l k) (Mq.del m k):=by
 unfold BP Mq.del
 rw [h.idx k]
 cases Mq.idx m k with
 | none=>exact h
 | some i=>exact h.erase
theorem LX {m:List (KV × Value)} {k:KV} {v:Value} {sh:KS} (hm:∀ p ∈ m,p.1.ks = sh) (hk:k.ks = sh):∀ p ∈ Mq.upd m k v,p.1.ks = sh:=by
 unfold Mq.upd
 split
 ·intro p hp
  rcases List.mem_or_eq_of_mem_set hp with h | h
  ·exact hm p h
  ·subst h;exact hk
 ·intro p hp
  rcases ajE.mp hp with h | h
  ·exact hm p h
  ·simp at h;subst h;exact hk
theorem LY {m:List (KV × Value)} {k:KV} {sh:KS} (hm:∀ p ∈ m,p.1.ks = sh):∀ p ∈ Mq.del m k,p.1.ks = sh:=by
 unfold Mq.del
 split
 ·exact fun p hp=>hm p (List.mem_of_mem_eraseIdx hp)
 ·exact hm
theorem lW.toC {x:FC} {v:Value} (h:lW Fz w x v):fV Fz κ w (xC x) v:=by
 cases x with
 | one x=>exact h
 | agg xs =>
  obtain ⟨cs,rfl,h⟩:=h
  exact ⟨cs,rfl,h.Yk⟩
theorem Aq {x:PL} {y:FV} {v:Value} (h:Ca x = some y) (hx:eB Fz κ w x v):eY Fz w y v:=by
 cases x <;> simp only [Ca] at h <;> cases h
 ·exact hx
 ·simp only [eY];exact ⟨none,0,hx,ajd _,by simp,.inl trivial⟩
theorem rX : ∀ {xs:List PL} {ys:List FV} {vs:List Value},qA xs = some ys → aT Fz κ w xs vs → cB Fz w ys vs
 | [],ys,vs,h,hx=>by cases h;cases vs with | nil=>trivial | cons _ _=>exact hx.elim
 | x :: xs,ys,vs,h,hx=>by
  unfold qA at h
  obtain ⟨y,h1,h2⟩:=zbm h
  obtain ⟨l,h3,rfl⟩:=zmm h2
  cases vs with
  | nil=>exact hx.elim
  | cons v vs=>exact ⟨Aq h1 hx.1,rX h3 hx.2⟩
theorem Qk {e:TypeId} {z:FC} (h:Vk P e = some z):∃ v,(zeroValue e).run P w = .ok v w ∧ lW Fz w z v:=by
 obtain ⟨i,h1,h2⟩:=zbm h
 obtain ⟨v,h3,h4⟩:=zbm h2
 refine ⟨v,by simp [zeroValue,typeInfo,h1,h3],?_⟩
 split at h4
 ·rename_i cs
  obtain ⟨l,h5,rfl⟩:=zmm h4
  obtain ⟨xs,h6,h7⟩:=zbm h5
  exact ⟨cs,rfl,rX (κ:=fun _=>undef) h7 (mJ h6)⟩
 ·obtain ⟨l,h5,rfl⟩:=zmm h4
  obtain ⟨x,h6,h7⟩:=zbm h5
  exact Aq (κ:=fun _=>undef) h7 (uQ h6)
theorem sZ {t k e:TypeId} (h:zQ P t = some (k,e)):P.underlying t = some (.map k e):=by
 unfold zQ at h
 split at h
 ·rename_i hu;cases h;exact hu
 ·cases h
theorem Vt (h:Rel bn w0 bg N Fz κ σ a w) {t kt et:TypeId} {sh:KS} {z:FC} {ok:Bool} {x k:Operand} {x' k':dM} (hm:zQ P t = some (kt,et)) (hk:lK P kt) (hs:xL P kt = some sh) (hz:Vk P et = some z) (hx:fC x = some x') (hkk:fC k = some k') (hE:bZ Γ q σ d (.look sh z ok x' k') = some (pv,σ')) :
  Does P bn w0 bg N q d Fz κ σ a w (do let v ← Instr.lookup t (a.eval x) (a.eval k) ok;Pure.pure (.value v)) σ' pv:=by
 obtain ⟨v,h1,h2⟩:=zbm hE
 obtain ⟨u,h3,h4⟩:=zbm h2
 obtain ⟨b,h5,h6⟩:=zbm h4
 split at h6
 ·cases h6
 ·rename_i hsh
  have hb:b.ks = sh:=ajQ.mp hsh
  have hv:=h.eval hx h1
  have hu:=xM h5 (h.eval hkk h3)
  obtain ⟨zv,z1,z2⟩:=Qk (Fz:=Fz) (w:=w) hz
  obtain ⟨r,h7,h8⟩:=zmm h6
  cases h8
  have fin:∀ (rv:Option Value),(∀ x,r = some x → ∃ v,rv = some v ∧ lW Fz w x v) → (r = none → rv = none) → (Instr.lookup t (a.eval x) (a.eval k) ok).run P w = .ok (if ok then .tuple #[rv.getD zv,.bool rv.isSome] else rv.getD zv) w →
    Does P bn w0 bg N q d Fz κ σ a w (do let v ← Instr.lookup t (a.eval x) (a.eval k) ok;Pure.pure (.value v)) σ (if ok then .uM [xC (r.getD z),.one (.f (.bool r.isSome))] else .c (xC (r.getD z))):=by
   intro rv g1 g2 g3
   refine Does.pure h g3 ?_
   have hrep:lW Fz w (r.getD z) (rv.getD zv) ∧ r.isSome = rv.isSome:=by
    cases r with
    | none=>rw [g2 rfl];exact ⟨z2,rfl⟩
    | some x=>obtain ⟨v,e1,e2⟩:=g1 x rfl;rw [e1];exact ⟨e2,rfl⟩
   cases ok with
   | false=>exact hrep.1.toC
   | true=>exact ⟨_,rfl,hrep.1.toC,by rw [hrep.2];rfl,trivial⟩
  split at h7
  ·cases h7
   refine fin none (fun x hx=>by cases hx) (fun _=>rfl) ?_
   rw [show a.eval x = .map none from hv,hu]
   have:=Mq.look_nil (hk.key sh hs) t et (sZ hm) zv z1 b hb ok (w:=w)
   rw [this];cases ok <;> rfl
  ·rename_i key
   split at h7
   ·rename_i sh' ents fZ
    split at h7
    ·rename_i hs'
     subst hs'
     cases h7
     obtain ⟨bl,e1,l,e2,e3,e4⟩:=h.obj fZ
     have hl:=Mq.look (hk.key _ hs) e2 e4 t et (sZ hm) zv z1 b hb ok
     obtain ⟨f1,f2⟩:=e3.sP b
     refine fin (Mq.sP l b) f1 f2 ?_
     rw [hv.1,e1,hu]
     exact hl
    ·cases h7
   ·cases h7
  ·cases h7
theorem LZ (h:Rel bn w0 bg N Fz κ σ a w) {t kt et:TypeId} {sh:KS} {x k y:Operand} {x' k' y':dM} (hm:zQ P t = some (kt,et)) (hk:lK P kt) (hs:xL P kt = some sh) (hx:fC x = some x') (hkk:fC k = some k') (hy:fC y = some y') (hE:bZ Γ q σ d (.xu sh x' k' y') = some (pv,σ')) :
  Does P bn w0 bg N q d Fz κ σ a w (do Instr.mapUpdate t (a.eval x) (a.eval k) (a.eval y);Pure.pure .skip) σ' pv:=by
 obtain ⟨v,h1,h2⟩:=zbm hE
 obtain ⟨u,h3,h4⟩:=zbm h2
 obtain ⟨b,h5,h6⟩:=zbm h4
 split at h6
 ·cases h6
 ·rename_i hsh
  have hb:b.ks = sh:=ajQ.mp hsh
  obtain ⟨yv,h7,h8⟩:=zbm h6
  have hv:=h.eval hx h1
  have hu:=xM h5 (h.eval hkk h3)
  have hyv:=h.eval hy h7
  split at h8
  ·cases h8
  ·rename_i hq
   obtain ⟨p,h9,h10⟩:=zbm h8
   have fr:∃ bD,Rel bn w0 bg N bD κ p.2 a w ∧ (∀ b,Fz b → bD b) ∧ lW bD w p.1 (a.eval y) ∧ (q = true → (∀ b,bD b → Fz b) ∧ p.2 = σ) ∧ ∀ r ∈ p.2.ob,∃ p' ∈ σ.ob,p'.1 = r.1:=by
    cases yv with
    | one l =>
     obtain ⟨r,e1,e2⟩:=zmm h9
     subst e2
     obtain ⟨bD,g1,g2,g3,g4,g5⟩:=h.Qg (xs:=[l]) (ys:=[r.1]) (vs:=[a.eval y]) (σ':=r.2) ⟨hyv,trivial⟩ hq (by simp [Ev.kJ,e1])
     exact ⟨bD,g1,g2,g3.1,g4,g5⟩
    | agg xs =>
     obtain ⟨r,e1,e2⟩:=zmm h9
     subst e2
     obtain ⟨cs,hcs,hyv⟩:=hyv
     obtain ⟨bD,g1,g2,g3,g4,g5⟩:=h.Qg hyv hq e1
     exact ⟨bD,g1,g2,⟨cs,hcs,g3⟩,g4,g5⟩
   obtain ⟨bD,g1,g2,g3,g4,g5⟩:=fr
   split at h10
   ·rename_i key
    split at h10
    ·rename_i sh' ents fZ
     split at h10
     ·rename_i hs'
      subst hs'
      cases h10
      refine Does.after g2 g4 g5 ?_
      obtain ⟨bl,e1,l,e2,e3,e4⟩:=g1.obj fZ
      obtain ⟨w',r1,r2,r3⟩:=Mq.update (hk.key _ hs) e2 e4 t et (sZ hm) b hb (a.eval y)
      have hpos:=(g1.pos _ (get_mem fZ) bl (by show blk (κ key) = _;rw [e1];rfl)).1
      have hmv:∀ i,bD i → w'.heap[i]? = w.heap[i]?:=fun i hi=>r3.block i (g1.fz i hi).1 (fun e=>by cases e;exact hpos hi)
      refine ⟨.skip,w',κ,bD,undef,by rw [hv.1,e1,hu,Sem.run_bind,r1];rfl,.inr ⟨rfl,rfl⟩,Good.set g1 fZ r3.size (fun i hi hne=>r3.block i hi (fun e=>hne (by rw [e1,← e];rfl))) ⟨r3.os,r3.output⟩ ?_ rfl⟩
      exact ⟨bl,e1,_,r2,iN.mono (fun _ h=>h) hmv _ _ (e3.upd g3),LX e4 hb⟩
     ·cases h10
    ·cases h10
   ·cases h10
theorem Eb {t kt et ty:TypeId} (hm:P.underlying t = some (.map kt et)) {k:Value} (hk:∀ e,(Instr.checkKey e 10000 kt k).run P w = .ok () w):(Builtin.delete_ #[t,kt] ty #[.map none,k]).run P w = .ok (.tuple #[]) w:=by
 unfold Builtin.delete_
 simp [Sem.run_bind,run_underlying hm,Result.andThen,hk]
theorem Zz (h:Rel bn w0 bg N Fz κ σ a w) {t kt et ty:TypeId} {sh:KS} {x k:Operand} {x' k':dM} (hm:zQ P t = some (kt,et)) (hk:lK P kt) (hs:xL P kt = some sh) (hx:fC x = some x') (hkk:fC k = some k') (hE:bZ Γ q σ d (.del sh x' k') = some (pv,σ')) :
  Does P bn w0 bg N q d Fz κ σ a w (do let v ← Builtin.delete_ #[t,kt] ty #[a.eval x,a.eval k];Pure.pure (.value v)) σ' pv:=by
 obtain ⟨v,h1,h2⟩:=zbm hE
 obtain ⟨u,h3,h4⟩:=zbm h2
 obtain ⟨b,h5,h6⟩:=zbm h4
 split at h6
 ·cases h6
 ·rename_i hsh
  have hb:b.ks = sh:=ajQ.mp hsh
  have hv:=h.eval hx h1
  have hu:=xM h5 (h.eval hkk h3)
  split at h6
  ·cases h6
   refine Does.pure h (v:=.tuple #[]) ?_ ⟨#[],rfl,trivial⟩
   rw [show a.eval x = .map none from hv,hu]
   exact Eb (sZ hm) (fun e=>(hk.key sh hs).check e b w hb)
  ·rename_i key
   split at h6
   ·rename_i sh' ents fZ
    split at h6
    ·rename_i hs'
     subst hs'
     cases h6
     obtain ⟨bl,e1,l,e2,e3,e4⟩:=h.obj fZ
     obtain ⟨w',r1,r2,r3⟩:=Mq.delete (hk.key _ hs) e2 e4 t et ty (sZ hm) b hb
     have hpos:=(h.pos _ (get_mem fZ) bl (by show blk (κ key) = _;rw [e1];rfl)).1
     have hmv:∀ i,Fz i → w'.heap[i]? = w.heap[i]?:=fun i hi=>r3.block i (h.fz i hi).1 (fun e=>by cases e;exact hpos hi)
     refine ⟨_,w',κ,Fz,_,by rw [hv.1,e1,hu,Sem.run_bind,r1];rfl,.inl rfl,Good.set h fZ r3.size (fun i hi hne=>r3.block i hi (fun e=>hne (by rw [e1,← e];rfl))) ⟨r3.os,r3.output⟩ ?_ ⟨#[],rfl,trivial⟩⟩
     exact ⟨bl,e1,_,r2,iN.mono (fun _ h=>h) hmv _ _ e3.del,LY e4⟩
    ·cases h6
   ·cases h6
  ·cases h6
end
end
section
open Go
section
variable {P : Program} {Γ:Env} {bn Fz bD:Nat → Prop} {w0 w w':World} {bg:List Nat} {N:Fr} {d:Nat} {q:Bool} {κ eZ:Nat → Value} {σ σ1 σ':St} {a:Act} {pv:PV} {o:Oper}
theorem eB.gone {key:Nat} {v':Value} (hs:∃ A n c,κ key = .slice A n c) (hw:∀ b,Fz b → w'.heap[b]? = w.heap[b]?) {x:PL} {v:Value} (h:eB Fz κ w x v):eB Fz (pJ κ key v') w' (oH key .any x) v:=by
 obtain ⟨A0,n0,c0,hs⟩:=hs
 have hm:∀ {y:PL},(∀ k,d9 k y = true → k ≠ key) → eB Fz κ w y v → eB Fz (pJ κ key v') w' y v:=fun hk hy=>eB.mono (fun _ h=>h) hw (fun k hk'=>eF (hk k hk') v') hy
 cases x with
 | own k n =>
  simp only [oH]
  split
  ·trivial
  ·rename_i hk;exact hm (fun k' hk'=>by simp [d9] at hk';subst hk';exact hk) h
 | rp k z i o =>
  simp only [oH]
  split
  ·trivial
  ·rename_i hk;exact hm (fun k' hk'=>by simp [d9] at hk';subst hk';exact hk) h
 | ptr k o =>
  refine hm (fun k' hk' e=>?_) h
  simp [d9,oH] at hk'
  obtain ⟨b,h1,_⟩:=h
  rw [hk',e,hs] at h1
  cases h1
 | mp k =>
  refine hm (fun k' hk' e=>?_) h
  simp [d9,oH] at hk'
  obtain ⟨h0,b,h1⟩:=h
  rw [h1,hk',e,hs] at h0
  cases h0
 | f x=>exact hm (fun k hk=>by simp [d9,oH] at hk) h
 | bY=>exact h
 | fp cs=>exact hm (fun k hk=>by simp [d9,oH] at hk) h
 | iU=>exact h
 | fA=>exact h
 | und=>exact h
 | any=>trivial
 | fn f cs=>exact hm (fun k hk=>by simp [d9,oH] at hk) h
 | vw k z n l =>
  simp only [oH]
  split
  ·trivial
  ·rename_i hk;exact hm (fun k' hk'=>by simp [d9] at hk';subst hk';exact hk) h
theorem aT.gone {key:Nat} {v':Value} (hs:∃ A n c,κ key = .slice A n c) (hw:∀ b,Fz b → w'.heap[b]? = w.heap[b]?):∀ {xs:List PL} {vs:List Value},aT Fz κ w xs vs → aT Fz (pJ κ key v') w' (xs.map (oH key .any)) vs
 | [],[],_=>trivial
 | x :: xs,v :: vs,h=>⟨eB.gone hs hw h.1,aT.gone hs hw h.2⟩
 | [],_ :: _,h=>h.elim
 | _ :: _,[],h=>h.elim
theorem fV.gone {key:Nat} {v':Value} (hs:∃ A n c,κ key = .slice A n c) (hw:∀ b,Fz b → w'.heap[b]? = w.heap[b]?) {x:CV} {v:Value} (h:fV Fz κ w x v):fV Fz (pJ κ key v') w' (Gd key .any x) v:=by
 cases x with
 | one x=>exact eB.gone hs hw h
 | agg xs=>obtain ⟨cs,rfl,h⟩:=h;exact ⟨cs,rfl,aT.gone hs hw h⟩
theorem dO.gone {key:Nat} {v':Value} (hs:∃ A n c,κ key = .slice A n c) (hw:∀ b,Fz b → w'.heap[b]? = w.heap[b]?):∀ {xs:List CV} {vs:List Value},dO Fz κ w xs vs → dO Fz (pJ κ key v') w' (xs.map (Gd key .any)) vs
 | [],[],_=>trivial
 | x :: xs,v :: vs,h=>⟨fV.gone hs hw h.1,dO.gone hs hw h.2⟩
 | [],_ :: _,h=>h.elim
 | _ :: _,[],h=>h.elim
theorem iK.gone {key:Nat} {v':Value} (hs:∃ A n c,κ key = .slice A n c) (hw:∀ b,Fz b → w'.heap[b]? = w.heap[b]?) {x:PV} {v:Value} (h:iK Fz κ w x v):iK Fz (pJ κ key v') w' (PY key .any x) v:=by
 cases x with
 | c x=>exact fV.gone hs hw h
 | uM xs=>obtain ⟨cs,rfl,h⟩:=h;exact ⟨cs,rfl,dO.gone hs hw h⟩
theorem iO.gone {B key k:Nat} {v':Value} (hk:k ≠ key) (hs:∃ A n c,κ key = .slice A n c) (hw:∀ b,Fz b → w'.heap[b]? = w.heap[b]?) (hb:∀ b,blk (κ k) = some b → w'.heap[b]? = w.heap[b]?) {x:Ob} (h:iO B Fz κ w k x):iO B Fz (pJ κ key v') w' k (JR key .any x):=by
 cases x with
 | eT xs =>
  obtain ⟨b,cs,e,h1,h2,h3⟩:=h
  exact ⟨b,cs,e,(eF hk v').trans h1,(hb b (by rw [h1];rfl)).trans h2,aT.gone hs hw h3⟩
 | row sz rows=>exact iO.mono (o:=.row sz rows) (fun _ h=>h) hw (fun k' hk'=>eF (by rcases hk' with h | h <;> first | (subst h;exact hk) | cases h) v') hb h
 | map sh ents=>exact iO.mono (o:=.map sh ents) (fun _ h=>h) hw (fun k' hk'=>eF (by rcases hk' with h | h <;> first | (subst h;exact hk) | cases h) v') hb h
theorem Rel.moved (h:Rel bn w0 bg N Fz κ σ a w) {key:Nat} {o o':Ob} {v':Value} (hk:get σ.ob key = some o) (hsl:∃ A n c,κ key = .slice A n c) (hs:w.heap.size ≤ w'.heap.size) (hb:∀ b,b < w.heap.size → blk (κ key) ≠ some b → w'.heap[b]? = w.heap[b]?)
  (hv:∀ b,blk v' = some b → b < w'.heap.size ∧ (blk (κ key) = some b ∨ w.heap.size ≤ b)) (hkp:Kp w w') (ho:iO 0 Fz (pJ κ key v') w' key o'):Rel bn w0 bg N Fz (pJ κ key v') (jA (Ev.sub σ key .any) key o') a w':=by
 have hkm:=get_mem hk
 have hfz:∀ b,Fz b → w'.heap[b]? = w.heap[b]?:=fun b hf=>hb b (h.fz b hf).1 (fun e=>(h.pos _ hkm b e).1 hf)
 have mo:∀ p ∈ (jA (Ev.sub σ key .any) key o').ob,p = (key,o') ∨ (p.1 ≠ key ∧ ∃ r ∈ σ.ob,r.1 = p.1 ∧ p.2 = JR key .any r.2):=by
  intro p hp
  rcases iH hp with rfl | ⟨hp,hne⟩
  ·exact .inl rfl
  ·obtain ⟨r,hr,rfl⟩:=ajx.mp hp
   exact .inr ⟨hne,r,hr,rfl,rfl⟩
 have far:∀ b,blk v' = some b → ∀ p ∈ σ.ob,p.1 ≠ key → blk (κ p.1) ≠ some b:=by
  intro b hb1 p hp hne e
  rcases (hv b hb1).2 with h1 | h1
  ·exact h.uO p hp _ hkm b hne e h1
  ·have:=(h.pos p hp b e).2.1
   omega
 refine ⟨fun p hp=>?_,h.sz,h.mh,h.fs,fun p hp=>?_,fun p hp r hr b hne hb1 hb2=>?_,fun p hp b hb1=>?_,fun b hf=>⟨ajK (h.fz b hf).1 hs,(h.fz b hf).2⟩,h.zJ,aju h.big hs,fun b h1 h2=>?_,h.kp.trans hkp⟩
 ·obtain ⟨r,hr,rfl⟩:=ajx.mp hp
  exact iK.gone hsl hfz (h.tm r hr)
 ·rcases mo p hp with rfl | ⟨hne,r,hr,e1,e2⟩
  ·exact ho
  ·rw [e2,← e1]
   have hne':r.1 ≠ key:=fun e=>hne (e1 ▸ e)
   exact iO.gone hne' hsl hfz (fun b hb1=>hb b (h.pos r hr b hb1).2.1 (fun e=>h.uO r hr _ hkm b hne' hb1 e)) (h.ob r hr)
 ·rcases mo p hp with rfl | ⟨hp1,p',hp',e1,_⟩ <;> rcases mo r hr with rfl | ⟨hr1,r',hr',e2,_⟩
  ·exact hne rfl
  ·rw [bO] at hb1
   rw [eF hr1,← e2] at hb2
   exact far b hb1 r' hr' (fun e=>hr1 (e2 ▸ e)) hb2
  ·rw [bO] at hb2
   rw [eF hp1,← e1] at hb1
   exact far b hb2 p' hp' (fun e=>hp1 (e1 ▸ e)) hb1
  ·rw [eF hp1,← e1] at hb1
   rw [eF hr1,← e2] at hb2
   rw [← e1,← e2] at hne
   exact h.uO p' hp' r' hr' b hne hb1 hb2
 ·rcases mo p hp with rfl | ⟨hp1,p',hp',e1,_⟩
  ·rw [bO] at hb1
   obtain ⟨h1,h2⟩:=hv b hb1
   rcases h2 with h2 | h2
   ·have:=h.pos _ hkm b h2
    exact ⟨this.1,h1,this.2.2⟩
   ·refine ⟨fun hf=>?_,h1,.inr (aju h.big h2)⟩
    have:=(h.fz b hf).1
    omega
  ·rw [eF hp1,← e1] at hb1
   have:=h.pos p' hp' b hb1
   exact ⟨this.1,ajK this.2.1 hs,this.2.2⟩
 ·rw [hb b (ajK h1 h.big) (fun e=>?_)]
  ·exact h.ext b h1 h2
  ·rcases (h.pos _ hkm b e).2.2 with h3 | h3
   ·exact h2 h3
   ·omega
theorem dn.cells {sz b:Nat}:∀ {rows:List (List FV)} {o:Nat},dn Fz w sz b o rows → ∃ vs,eD Fz w sz rows vs ∧ ∀ j v,vs[j]? = some v → w.cell? ⟨b,o + j,none⟩ = some v
 | [],o,_=>⟨[],rfl,fun j v hj=>by simp at hj⟩
 | r :: rows,o,h=>by
  simp only [dn] at h
  obtain ⟨us,h1,h2⟩:=h.2.1.cells
  obtain ⟨vs,h3,h4⟩:=dn.cells h.2.2
  have hl:=h1.len
  refine ⟨us ++ vs,⟨h.1,?_,?_⟩,fun j v hj=>?_⟩
  ·rw [akU (by omega),akL (by omega)];exact h1
  ·rw [List.drop_append_of_le_length (by omega),List.drop_of_length_le (by omega)];exact h3
  ·rw [akS] at hj
   split at hj
   ·exact h2 j v hj
   ·have:=h4 _ v hj
    rw [show o + sz + (j - us.length) = o + j from by omega] at this
    exact this
theorem cB.one : ∀ {xs:List FV} {vs:List Value},cB Fz w xs vs → ∀ u ∈ vs,u.oneCell' = true
 | [],[],_,u,hu=>by simp at hu
 | x :: xs,v :: vs,h,u,hu=>by
  rcases ajr.mp hu with rfl | hu
  ·have:=eY.leaf h.1
   cases u <;> first | rfl | exact this.elim
  ·exact cB.one h.2 u hu
 | [],_ :: _,h,_,_=>h.elim
 | _ :: _,[],h,_,_=>h.elim
theorem eD.one {sz:Nat}:∀ {rows:List (List FV)} {vs:List Value},eD Fz w sz rows vs → ∀ u ∈ vs,u.oneCell' = true
 | [],vs,h,u,hu=>by cases h;simp at hu
 | r :: rs,vs,h,u,hu=>by
  rw [← akV sz vs] at hu
  rcases ajE.mp hu with hu | hu
  ·exact h.2.1.one u hu
  ·exact eD.one h.2.2 u hu
theorem eD.app {sz:Nat}:∀ {rows new:List (List FV)} {vs us:List Value},eD Fz w sz rows vs → eD Fz w sz new us → eD Fz w sz (rows ++ new) (vs ++ us)
 | [],new,vs,us,h,h'=>by cases h;exact h'
 | r :: rs,new,vs,us,h,h'=>by
  have hl:=h.2.1.len
  rw [ajq,h.1] at hl
  refine ⟨h.1,?_,?_⟩
  ·rw [akU (by omega)];exact h.2.1
  ·rw [List.drop_append_of_le_length (by omega)];exact eD.app h.2.2 h'
theorem Gi (h:Rel bn w0 bg N Fz κ σ a w) {u:CV} {uv:Value} {new:List (List FV)} {sz:Nat} (hu:fV Fz κ w u uv) (hr:qx σ u = some new) (hall:new.all (fun r=>r.length == sz) = true) :
  ∃ A c vs,uv = .slice A new.length c ∧ eD Fz w sz new vs ∧ ((A = none ∧ new = []) ∨ ∃ ad:Addr,A = some ad ∧ ∀ j v,vs[j]? = some v → w.cell? (ad.add j) = some v):=by
 unfold qx at hr
 split at hr
 ·cases hr;exact ⟨none,0,[],hu,rfl,.inl ⟨rfl,rfl⟩⟩
 ·rename_i rows
  cases hr
  obtain ⟨A,c,e1,e2,e2',e3⟩:=(show ∃ A c,uv = .slice A new.length c ∧ new.length ≤ c ∧ new.length ≤ 9223372036854775807 ∧ (new = [] ∨ ∃ b o sz,A = some ⟨b,o,none⟩ ∧ Fz b ∧ dn Fz w sz b o new) by simpa only [fV,eB,eY] using hu)
  rcases e3 with e3 | ⟨b,o,sz',rfl,e4,e5⟩
  ·subst e3
   cases A with
   | none=>exact ⟨none,c,[],e1,rfl,.inl ⟨rfl,rfl⟩⟩
   | some ad=>exact ⟨some ad,c,[],e1,rfl,.inr ⟨ad,rfl,fun j v hj=>by simp at hj⟩⟩
  ·obtain ⟨vs,e6,e7⟩:=e5.cells
   cases new with
   | nil=>exact ⟨_,c,vs,e1,e6,.inr ⟨⟨b,o,none⟩,rfl,fun j v hj=>by rw [mK];exact e7 j v hj⟩⟩
   | cons r rs =>
    have:sz' = sz:=by
     rw [List.all_cons,ajg] at hall
     have h1:=e6.1
     have h2:=hall.1
     simp at h2
     omega
    subst this
    exact ⟨_,c,vs,e1,e6,.inr ⟨⟨b,o,none⟩,rfl,fun j v hj=>by rw [mK];exact e7 j v hj⟩⟩
 ·rename_i key n
  split at hr
  ·rename_i sz' rows fZ
   cases hr
   obtain ⟨o0,e,inner,A,c,o1,⟨o2,o3⟩,o4⟩:=h.obj fZ
   have hin:eD Fz w sz new inner:=by
    cases new with
    | nil=>exact o4
    | cons r rs =>
     have:sz' = sz:=by
      rw [List.all_cons,ajg] at hall
      have h1:=o4.1
      have h2:=hall.1
      simp at h2
      omega
     subst this
     exact o4
   rcases o3 with ⟨o3,o5⟩ | ⟨g,cap,cur,o3,o5,o6,o7,o8,o9,o10⟩
   ·exact ⟨none,0,inner,by rw [hu.1,o3,o5],hin,.inl ⟨rfl,akD o5⟩⟩
   ·refine ⟨_,cap,inner,by rw [hu.1,o3],hin,.inr ⟨⟨g,0,none⟩,rfl,fun j v hj=>?_⟩⟩
    rw [← o10,ajU] at hj
    split at hj
    ·rw [mK,ajD]
     simp only [World.cell?,o6]
     simpa using hj
    ·cases hj
  ·cases hr
 ·cases hr
theorem Ck {base:Nat} {t ty e e1:TypeId} {i:TypeInfo} {size c:Nat} (ht:P.underlying t = some (.slice e)) (hi:P.info? e = some i) {v:Value} {n:Nat} {xs:List Value} (hown:w.ownsRow base e1 size v n xs) :
  (Builtin.append_ #[t,t] ty #[v,.slice none 0 c]).run P w = .ok v w:=by
 rcases hown.2 with ⟨rfl,rfl⟩ | ⟨g,cap,cur,rfl,_,_,hnc,_⟩
 ·simp [Builtin.append_,run_underlying ht,sizeOf,typeInfo,hi,Builtin.lenOf,Builtin.firstCells]
 ·simp [Builtin.append_,run_underlying ht,sizeOf,typeInfo,hi,Builtin.lenOf,Builtin.firstCells,hnc,storeCells]
theorem Cm (t ty e e1:TypeId) (i:TypeInfo) (ht:P.underlying t = some (.slice e)) (hi:P.info? e = some i)
  (g sLen sCap:Nat) (cur:Array Value) (hg:w.heap[g]? = some (.cells cur e1 (0,0)))
  (a:Addr) (m c:Nat) (news:List Value) (hl:news.length = m * i.size) (hnews:∀ j u,news[j]? = some u → w.cell? (a.add j) = some u) (h1:∀ u ∈ news,u.oneCell' = true)
  (hroom:sLen + m ≤ sCap) (hfit:sLen * i.size + news.length ≤ cur.size) :
  (Builtin.append_ #[t,t] ty #[.slice (some ⟨g,0,none⟩) sLen sCap,.slice (some a) m c]).run P w =
   .ok (.slice (some ⟨g,0,none⟩) (sLen + m) sCap) (w.setRow g (cur.toList.take (sLen * i.size) ++ news ++ cur.toList.drop (sLen * i.size + news.length)).toArray):=by
 have hf:=run_firstCells_some (P:=P) w i.size m a m c news hl hnews
 have hst:=run_storeCells_at P g (sLen * i.size) e1 news 0 cur w hg (by simpa using hfit) h1
 simp only [Nat.add_zero] at hst
 simp [Builtin.append_,run_underlying ht,sizeOf,typeInfo,hi,Builtin.lenOf,hroom,hf,Addr.add_lit,hst]
theorem Ip (h:Rel bn w0 bg N Fz κ σ a w) {t ty e:TypeId} {sz bytes:Nat} {z:List PL} (ht:P.underlying t = some (.slice e)) (hn:lJ P e = some sz) (hby:Qb P e = some bytes) (hz:Ai P e = some z) (hzl:z.length = sz) (h0:0 < sz) (hb0:0 < bytes)
  {u:CV} {uv:Value} {new:List (List FV)} (hu:fV Fz κ w u uv) (hr:qx σ u = some new) (hall:new.all (fun r=>r.length == sz) = true) {e1:TypeId} {v:Value} {rows:List (List FV)} {inner:List Value} (hown:w.ownsRow 0 e1 sz v rows.length inner) (hin:eD Fz w sz rows inner)
  (hle:(rows.length + new.length) * bytes ≤ 140737488355328) (hfz:∀ b,v.ownBlock = some b → ¬ Fz b) :
  ∃ v' w' uT e2,(Builtin.append_ #[t,t] ty #[v,uv]).run P w = .ok v' w' ∧ w'.ownsRow 0 e2 sz v' (rows ++ new).length uT ∧ eD Fz w' sz (rows ++ new) uT ∧ w.grownBy w' v.ownBlock ∧ (v'.ownBlock = v.ownBlock ∨ v'.ownBlock = some w.heap.size):=by
 obtain ⟨A,c,vs,rfl,e2,e3⟩:=Gi h hu hr hall
 obtain ⟨i,zv,z1,z2,z3⟩:=uS (Fz:=Fz) (κ:=κ) (w:=w) hz
 have hsz:i.size = sz:=by unfold lJ at hn;rw [z1] at hn;simpa using hn
 have hbt:i.bytes = bytes:=by unfold Qb at hby;rw [z1] at hby;simpa using hby
 have hlz:=z3.length
 rw [Array.length_toList,hzl] at hlz
 rcases e3 with ⟨rfl,rfl⟩ | ⟨ad,rfl,e4⟩
 ·refine ⟨v,w,inner,e1,Ck ht z1 hown,by rw [akb];exact hown,by rw [akb];exact hin,⟨rfl,rfl,rfl,ajd _,fun _ _ _=>rfl⟩,.inl rfl⟩
 ·have hle2:rows.length + new.length ≤ 140737488355328:=aju (Nat.le_mul_of_pos_right _ hb0) hle
  have key:∃ v' w' e2,(Builtin.append_ #[t,t] ty #[v,.slice (some ad) new.length c]).run P w = .ok v' w' ∧ w'.ownsRow 0 e2 sz v' (rows.length + new.length) (inner ++ vs) ∧ w.grownBy w' v.ownBlock ∧ (v'.ownBlock = v.ownBlock ∨ v'.ownBlock = some w.heap.size):=by
   rcases hown.2 with ⟨e5,e6⟩ | ⟨g,cap,cur,e5,e6,e7,e8,e9,e10,e11⟩
   ·have hx:inner = []:=akD (by have:=hown.1;rw [e6] at this;simpa using this)
    subst hx
    obtain ⟨v',w',r1,r2,r3,r4,r5⟩:=run_append_own_at (P:=P) w 0 t ty e i zv sz bytes ht z1 z2 hsz hbt (by omega) h0 v rows.length [] ⟨hown.1,.inl ⟨e5,e6⟩⟩ ad new.length c vs e2.len e4 e2.one (by simp only [maxLen];omega) hle (ajO _)
    exact ⟨v',w',e,r1,r2,r3,r5⟩
   ·have hlen:(inner ++ vs).length = (rows.length + new.length) * sz:=by rw [ajh,hown.1,e2.len,akE]
    by_cases hroom:rows.length + new.length ≤ cap
    ·have hfit:rows.length * i.size + vs.length ≤ cur.size:=by rw [e2.len,e10,hsz,← akE];exact akF _ hroom
     have hr:=Cm (P:=P) (w:=w) t ty e e1 i ht z1 g rows.length cap cur e7 ad new.length c vs (by rw [hsz];exact e2.len) e4 e2.one hroom hfit
     rw [e5]
     refine ⟨_,_,e1,hr,⟨hlen,.inr ⟨g,cap,_,rfl,e6,setRow_heap w g cur _ e1 _ e7,hroom,e9,?_,?_⟩⟩,⟨rfl,rfl,rfl,by simp,fun k _ hk=>setRow_other w g k _ (fun e=>hk (by simp [Value.ownBlock,e]))⟩,Or.inl rfl⟩
     ·simp only [List.size_toArray,ajh,ajq,ajA,Array.length_toList]
      omega
     ·rw [hsz,e11,← hlen]
      exact List.take_left
    ·have holds:∀ j u,inner[j]? = some u → w.cell? ((⟨g,0,none⟩:Addr).add j) = some u:=hown.cells (g:=g) (by rw [e5];rfl)
     have hr:=run_append_grow (P:=P) w t ty e i zv ht z1 z2 ⟨g,0,none⟩ rows.length cap inner (by rw [hsz];exact hown.1) holds ad new.length c vs (by rw [hsz];exact e2.len) e4 (by omega) (by omega) (growslice_fits (by omega) (by rw [hbt];exact hle))
     have hge:=grownCap_ge w (rows.length + new.length) cap e
     have hcm:grownCap w (rows.length + new.length) cap e ≤ maxLen:=grownCap_le_maxLen w (rows.length + new.length) cap e (by simp only [maxLen];omega)
     rw [e5]
     refine ⟨_,_,e,hr,⟨hlen,.inr ⟨w.heap.size,_,_,rfl,ajO _,heap_alloc_new w.drew _,hge,hcm,?_,?_⟩⟩,⟨rfl,rfl,rfl,by simp,fun k hk _=>heap_alloc_old w.drew _ hk⟩,Or.inr rfl⟩
     ·simp only [Array.size_append,List.size_toArray,size_zeroCells,show zv.cells.size = sz by omega,hown.1,e2.len,← akE]
      congr 1
      omega
     ·simp only [Array.toList_append,ajW]
      rw [← ajW,← hlen]
      exact List.take_left
  obtain ⟨v',w',e2',r1,r2,r3,r5⟩:=key
  refine ⟨v',w',inner ++ vs,e2',r1,by rw [ajh];exact r2,?_,r3,r5⟩
  refine eD.mono (fun _ h=>h) (fun b hb=>r3.block b (h.fz b hb).1 (fun e=>hfz b e.symm hb)) sz _ _ (hin.app e2)
theorem ZA (h:Rel bn w0 bg N Fz κ σ a w) {t ty e:TypeId} {sz bytes:Nat} {z:List PL} {x y:Operand} {x' y':dM} (ht:P.underlying t = some (.slice e)) (hn:lJ P e = some sz) (hby:Qb P e = some bytes) (hz:Ai P e = some z) (hzl:z.length = sz) (h0:0 < sz) (hb0:0 < bytes)
  (hx:fC x = some x') (hy:fC y = some y') (hE:bZ Γ q σ d (.app e sz bytes x' y') = some (pv,σ')) :
  Does P bn w0 bg N q d Fz κ σ a w (do let v ← Builtin.append_ #[t,t] ty #[a.eval x,a.eval y];Pure.pure (.value v)) σ' pv:=by
 obtain ⟨v,h1,h2⟩:=zbm hE
 obtain ⟨u,h3,h4⟩:=zbm h2
 obtain ⟨new,h5,h6⟩:=zbm h4
 have hv:=h.eval hx h1
 have hu:=h.eval hy h3
 split at h6
 ·split at h6
  ·rename_i hc
   obtain ⟨s,h7,h8⟩:=zmm h6
   cases h8
   have hown:w.ownsRow 0 e sz (.slice none 0 0) ([]:List (List FV)).length []:=World.ownsRow_nil w _ e sz
   obtain ⟨v',w',uT,e2,r1,r2,r3,r4,r5⟩:=Ip (P:=P) (ty:=ty) (rows:=[]) h ht hn hby hz hzl h0 hb0 hu h5 hc.2.2 hown rfl (by simpa using hc.2.1) (fun b hb=>by cases hb)
   rw [List.nil_append] at r2 r3
   have hb:∀ b,blk v' = some b → w.heap.size ≤ b ∧ b < w'.heap.size:=by
    intro b hb
    have fZ:v'.ownBlock = some b:=by
     rcases r2.2 with ⟨e1,_⟩ | ⟨g,cap,cur,e1,_⟩ <;> rw [e1] at hb ⊢ <;> exact hb
    rcases r5 with r5 | r5
    ·rw [fZ] at r5;cases r5
    ·rw [fZ] at r5;cases r5;exact ⟨ajd _,(r2.lt _ fZ).2⟩
   have hval:∃ A c,v' = .slice A new.length c:=by
    rcases r2.2 with ⟨e1,e3⟩ | ⟨g,cap,cur,e1,_⟩
    ·exact ⟨none,0,by rw [e1,e3]⟩
    ·exact ⟨_,_,e1⟩
   obtain ⟨A,c,hA⟩:=hval
   refine ⟨_,w',_,_,v',by rw [show a.eval x = .slice none 0 0 from hv,Sem.run_bind,r1];rfl,.inl rfl,Good.new (pl:=.own (dA d) new.length) h h7 r4.size (fun b hb=>r4.block b hb (by simp [Value.ownBlock])) hb ⟨r4.os,r4.output⟩ ?_ ⟨by rw [bO],A,c,hA⟩⟩
   exact ⟨h0,e2,uT,A,c,by rw [bO];exact hA,by rw [bO];exact r2,r3⟩
  ·cases h6
 ·rename_i key n
  split at h6
  ·rename_i sz' rows fZ
   split at h6
   ·rename_i hc
    cases h6
    obtain ⟨hq,c1,c2,c3,c4,c6,c5⟩:=hc
    subst c2
    subst c3
    obtain ⟨o0,e1,inner,A,c,o1,o2,o3⟩:=h.obj fZ
    have tq:∀ b,(κ key).ownBlock = some b → blk (κ key) = some b:=fun b hb=>BU hb
    obtain ⟨v',w',uT,e2,r1,r2,r3,r4,r5⟩:=Ip (P:=P) (ty:=ty) h ht hn hby hz hzl h0 hb0 hu h5 c5 o2 o3 c1 (fun b hb hf=>(h.pos _ (get_mem fZ) b (tq b hb)).1 hf)
    have hval:∃ A c,v' = .slice A (rows ++ new).length c:=by
     rcases r2.2 with ⟨e1,e3⟩ | ⟨g,cap,cur,e1,_⟩
     ·exact ⟨none,0,by rw [e1,e3]⟩
     ·exact ⟨_,_,e1⟩
    obtain ⟨A',c',hA⟩:=hval
    have hbo:∀ b,blk (κ key) = some b → (κ key).ownBlock = some b:=fun b hb=>by rw [o1] at hb ⊢;cases A <;> exact hb
    have hb:∀ b,blk v' = some b → b < w'.heap.size ∧ (blk (κ key) = some b ∨ w.heap.size ≤ b):=by
     intro b hb
     have Vu:v'.ownBlock = some b:=by rw [hA] at hb ⊢;cases A' <;> exact hb
     refine ⟨(r2.lt _ Vu).2,?_⟩
     rcases r5 with r5 | r5
     ·rw [Vu] at r5;exact .inl (tq b r5.symm)
     ·rw [Vu] at r5;cases r5;exact .inr (ajd _)
    have hmv:∀ b,b < w.heap.size → blk (κ key) ≠ some b → w'.heap[b]? = w.heap[b]?:=fun b hb hne=>r4.block b hb (fun e=>hne (tq b e.symm))
    have hrel:=h.moved (o':=.row sz' (rows ++ new)) (v':=v') fZ ⟨A,_,c,o1⟩ r4.size hmv hb ⟨r4.os,r4.output⟩ ⟨h0,e2,uT,A',c',by rw [bO];exact hA,by rw [bO];exact r2,r3⟩
    subst hq
    refine ⟨_,w',_,Fz,v',by rw [hv.1,Sem.run_bind,r1];rfl,.inl rfl,hrel,⟨by rw [bO],A',c',by rw [hA,ajh]⟩,fun _ h=>h,fun k hk=>eF (fun e=>by subst e;omega) v'⟩
   ·cases h6
  ·cases h6
 ·cases h6
end
end
section
open Go
section
variable {P : Program} {Γ:Env} {bn Fz bD:Nat → Prop} {w0 w w':World} {bg:List Nat} {N:Fr} {d:Nat} {q:Bool} {κ eZ:Nat → Value} {σ σ1 σ':St} {a:Act} {pv:PV} {o:Oper}
theorem L6 (h:Rel bn w0 bg N Fz κ σ a w) {op:BinOp} {t e:TypeId} {neg:Bool} {x y:Operand} {x' y':dM} (hu:P.underlying t = some (.slice e)) (hop:(op = .eql ∧ neg = false) ∨ (op = .neq ∧ neg = true)) (hx:fC x = some x') (hy:fC y = some y') (hn:LM y' = true) (hE:bZ Γ q σ d (.zL neg x') = some (pv,σ')) :
  Does P bn w0 bg N q d Fz κ σ a w (do let v ← (do eqGuard op t x y (a.eval x) (a.eval y);binOp op t (a.eval x) (a.eval y):Sem Value);Pure.pure (.value v)) σ' pv:=by
 have hyv:a.eval y = .slice none 0 0:=by
  unfold LM at hn
  split at hn
  ·exact h.eval (v:=.one .bY) hy rfl
  ·cases hn
 obtain ⟨v,h1,h2⟩:=zbm hE
 have hv:=h.eval hx h1
 have hg:∀ p n c,(eqGuard op t x y (.slice p n c) (.slice none 0 0)).run P w = .ok () w:=by
  intro p n c
  unfold eqGuard
  rcases hop with ⟨rfl,_⟩ | ⟨rfl,_⟩ <;> rfl
 have run:∀ p n c,a.eval x = .slice p n c → pv = .c (.one (.f (.bool (if neg then !p.isNone else p.isNone)))) → σ' = σ → Does P bn w0 bg N q d Fz κ σ a w (do let v ← (do eqGuard op t x y (a.eval x) (a.eval y);binOp op t (a.eval x) (a.eval y):Sem Value);Pure.pure (.value v)) σ' pv:=by
  intro p n c hp hpv hs
  subst hpv
  subst hs
  refine Does.pure h (v:=.bool (if neg then !p.isNone else p.isNone)) ?_ rfl
  rw [hp,hyv]
  simp only [Sem.run_bind,hg,Result.andThen_ok]
  rcases hop with ⟨rfl,rfl⟩ | ⟨rfl,rfl⟩
  ·have:=run_equal_slice_nil w t e p n c hu
   simp only [binOp,Sem.run_bind,this,Result.andThen_ok,Sem.run_pure]
   simp
  ·exact run_neq_slice_nil w t e p n c hu
 split at h2
 ·cases h2;exact run none 0 0 hv (by cases neg <;> rfl) rfl
 ·cases h2
  simp only [fV,eB,eY] at hv
  obtain ⟨A,c,e1,_,_,e2⟩:=hv
  rcases e2 with e2 | ⟨b,o,sz,rfl,_⟩
  ·cases e2
  ·exact run _ _ _ e1 (by cases neg <;> rfl) rfl
 ·cases h2
theorem rD {op:BinOp} {t:TypeId} {x y:Operand} {k k':IntKind} {m n:Int}:(eqGuard op t x y (.int k m) (.int k' n)).run P w = .ok () w:=by
 unfold eqGuard
 cases op <;> rfl
theorem ZB (h:Rel bn w0 bg N Fz κ σ a w) {op:BinOp} {t:TypeId} {x y:Operand} {x' y':dM} (ho:op = .or ∨ op = .and ∨ op = .xor) (hx:fC x = some x') (hy:fC y = some y') (hE:bZ Γ q σ d (.bit op x' y') = some (pv,σ')) :
  Does P bn w0 bg N q d Fz κ σ a w (do let v ← (do eqGuard op t x y (a.eval x) (a.eval y);binOp op t (a.eval x) (a.eval y):Sem Value);Pure.pure (.value v)) σ' pv:=by
 obtain ⟨u,h1,h2⟩:=zbm hE
 obtain ⟨v,h3,h4⟩:=zbm h2
 obtain ⟨m,h5,h6⟩:=zbm h4
 obtain ⟨n,h7,h8⟩:=zbm h6
 split at h8
 ·rename_i hk
  cases h8
  have e1:=iD h5 (h.eval hx h1)
  have e2:=iD h7 (h.eval hy h3)
  obtain ⟨k,m⟩:=m
  obtain ⟨k',n⟩:=n
  simp only at hk e1 e2
  subst hk
  refine Does.pure h (v:=.int k (Go.bits op k m n)) ?_ rfl
  rw [e1,e2]
  refine j4 rD ?_
  rcases ho with rfl | rfl | rfl
  ·rw [binOp_or,intBits_or];rfl
  ·rw [binOp_and,intBits_and];rfl
  ·rw [binOp_xor,intBits_xor];rfl
 ·cases h8
theorem TJ (h:Rel bn w0 bg N Fz κ σ a w) {op:BinOp} {t:TypeId} {l:Bool} {x y:Operand} {x' y':dM} (ho:(op = .shl ∧ l = true) ∨ (op = .shr ∧ l = false)) (hx:fC x = some x') (hy:fC y = some y') (hE:bZ Γ q σ d (.Vd l x' y') = some (pv,σ')) :
  Does P bn w0 bg N q d Fz κ σ a w (do let v ← (do eqGuard op t x y (a.eval x) (a.eval y);binOp op t (a.eval x) (a.eval y):Sem Value);Pure.pure (.value v)) σ' pv:=by
 obtain ⟨u,h1,h2⟩:=zbm hE
 obtain ⟨v,h3,h4⟩:=zbm h2
 obtain ⟨m,h5,h6⟩:=zbm h4
 obtain ⟨n,h7,h8⟩:=zbm h6
 split at h8
 ·rename_i hk
  cases h8
  have e1:=iD h5 (h.eval hx h1)
  have e2:=iD h7 (h.eval hy h3)
  obtain ⟨k,m⟩:=m
  obtain ⟨k',n⟩:=n
  simp only at hk e1 e2
  refine Does.pure h (v:=.int k (if l then k.wrap (m * 2 ^ (min n.toNat k.bits)) else m.fdiv (2 ^ (min n.toNat k.bits)))) ?_ rfl
  rw [e1,e2]
  refine j4 rD ?_
  have hn:¬ n < 0:=by omega
  rcases ho with ⟨rfl,rfl⟩ | ⟨rfl,rfl⟩
  ·simp only [binOp,Op.shift,ai9 hn];rfl
  ·simp only [binOp,Op.shift,ai9 hn];rfl
 ·cases h8
theorem xS : ∀ (ns:List Int) (s:ByteArray),ns.foldl (fun r n=>r.push (UInt8.ofNat n.toNat)) s = ⟨s.data ++ (ns.map fun n=>UInt8.ofNat n.toNat).toArray⟩
 | [],s=>by simp
 | n :: ns,s=>by
  rw [List.foldl_cons,xS ns]
  simp [ByteArray.push]
theorem rY : ∀ {rows:List (List FV)} {s:ByteArray},bytesOf rows = some s → ∃ ns:List Int,rows = ns.map (fun n=>[FV.int .u8 n]) ∧ s = ⟨(ns.map fun n=>UInt8.ofNat n.toNat).toArray⟩
 | [],s,h=>by cases h;exact ⟨[],rfl,rfl⟩
 | r :: rows,s,h=>by
  unfold bytesOf at h
  split at h
  ·rename_i heq;cases heq
  ·rename_i n l heq
   injection heq with e1 e2
   subst e1
   subst e2
   obtain ⟨s',h1,rfl⟩:=zmm h
   obtain ⟨ns,rfl,rfl⟩:=rY h1
   exact ⟨n :: ns,rfl,by simp⟩
  ·cases h
theorem rE {b:Nat}:∀ (ns:List Int) (sz o:Nat),dn Fz w sz b o (ns.map (fun n=>[FV.int .u8 n])) → ns ≠ [] → ∀ j v,(ns.map (Value.int .u8))[j]? = some v → w.cell? ⟨b,o + j,none⟩ = some v
 | [],_,_,_,h,_,_,_=>absurd rfl h
 | n :: ns,sz,o,h,_,j,v,hj=>by
  simp only [ajk,dn] at h
  obtain ⟨h1,h2,h3⟩:=h
  have hsz:sz = 1:=by simpa using h1.symm
  subst hsz
  simp only [eu,eY] at h2
  cases j with
  | zero =>
   obtain ⟨⟨u,e1,e2⟩,_⟩:=h2
   simp at hj
   rw [Nat.add_zero,e1,e2,hj]
  | succ j =>
   simp at hj
   have hne:ns ≠ []:=by rintro rfl;simp at hj
   have:=rE ns 1 (o + 1) h3 hne j v (by simpa using hj)
   rwa [show o + 1 + j = o + (j + 1) from by omega] at this
theorem qC {src dst e:TypeId} (hs:P.underlying src = some (.slice e)) (he:P.underlying e = some (.int .u8)) (hd:P.underlying dst = some .string) {A:Option Addr} {c:Nat} {ns:List Int} (hA:A = none ∨ ∃ ad:Addr,A = some ad ∧ ∀ j v,(ns.map (Value.int .u8))[j]? = some v → w.cell? (ad.add j) = some v) (hn:A = none → ns = []) :
  (convert src dst (.slice A ns.length c)).run P w = .ok (.string ⟨(ns.map fun n=>UInt8.ofNat n.toNat).toArray⟩) w:=by
 rw [run_convert_bytes_string w src dst e A _ c hs he hd]
 rcases hA with rfl | ⟨ad,rfl,hc⟩
 ·rw [hn rfl];rfl
 ·rw [run_bytesToString w ad ns.length c ns (by
   have:=run_loadCells_list (P:=P) w ad (ns.map (Value.int .u8)) hc
   simpa using this),xS]
  simp [ByteArray.empty,ByteArray.emptyWithCapacity]
  rfl
theorem ZC (h:Rel bn w0 bg N Fz κ σ a w) {src dst e:TypeId} {x:Operand} {x':dM} (hs:P.underlying src = some (.slice e)) (he:P.underlying e = some (.int .u8)) (hd:P.underlying dst = some .string) (hx:fC x = some x') (hE:bZ Γ q σ d (.Ye x') = some (pv,σ')) :
  Does P bn w0 bg N q d Fz κ σ a w (do let v ← convert src dst (a.eval x);Pure.pure (.value v)) σ' pv:=by
 obtain ⟨v,h1,h2⟩:=zbm hE
 have hv:=h.eval hx h1
 split at h2
 ·rename_i rows
  obtain ⟨s,h3,h4⟩:=zbm h2
  cases h4
  obtain ⟨ns,rfl,rfl⟩:=rY h3
  simp only [fV,eB,eY] at hv
  obtain ⟨A,c,e1,_,_,e2⟩:=hv
  rw [ajb] at e1
  by_cases hn:ns = []
  ·subst hn
   refine Does.pure h (v:=.string ⟨#[]⟩) ?_ rfl
   rw [e1]
   cases A with
   | none=>exact qC (A:=none) (ns:=[]) hs he hd (.inl rfl) (fun _=>rfl)
   | some ad=>exact qC (A:=some ad) (ns:=[]) hs he hd (.inr ⟨ad,rfl,fun j v hj=>by simp at hj⟩) (fun _=>rfl)
  ·rcases e2 with e2 | ⟨b,o,sz,rfl,_,e3⟩
   ·exact absurd (by simpa using e2) hn
   ·refine Does.pure h (v:=.string _) ?_ rfl
    rw [e1]
    refine qC hs he hd (.inr ⟨_,rfl,fun j v hj=>?_⟩) (fun h=>by cases h)
    rw [mK]
    exact rE ns sz o e3 hn j v hj
 ·cases h2
  refine Does.pure h (v:=.string ⟨#[]⟩) ?_ rfl
  rw [show a.eval x = .slice none 0 0 from hv]
  exact qC (A:=none) (ns:=[]) hs he hd (.inl rfl) (fun _=>rfl)
 ·rename_i key n
  split at h2
  ·rename_i sz rows fZ
   split at h2
   ·rename_i hz
    subst hz
    obtain ⟨s,h3,h4⟩:=zbm h2
    cases h4
    obtain ⟨ns,rfl,rfl⟩:=rY h3
    obtain ⟨_,e1,inner,A,c,o1,o2,o3⟩:=h.obj fZ
    have hin:∀ (ns:List Int) (inner:List Value),eD Fz w 1 (ns.map fun n=>[FV.int .u8 n]) inner → inner = ns.map (Value.int .u8):=by
     intro ns
     induction ns with
     | nil=>intro inner h;exact h
     | cons n ns ih =>
      intro inner h
      simp only [ajk,eD] at h
      obtain ⟨_,h2,h3⟩:=h
      cases inner with
      | nil=>exact h2.elim
      | cons u inner =>
       simp only [List.take_succ_cons,List.take_zero,cB,eY,List.drop_succ_cons,aj9] at h2 h3
       rw [ih _ h3,h2.1];rfl
    have hi:=hin ns inner o3
    refine Does.pure h (v:=.string _) ?_ rfl
    rw [show a.eval x = .slice A ns.length c by rw [hv.1,o1,ajb]]
    rw [ajb] at o2
    rcases o2.2 with ⟨e5,e6⟩ | ⟨g,cap,cur,e5,e6,e7,_⟩
    ·rw [o1] at e5
     injection e5 with e5 _ _
     subst e5
     have hns:ns = []:=akD e6
     subst hns
     exact qC (A:=none) (ns:=[]) hs he hd (.inl rfl) (fun _=>rfl)
    ·rw [o1] at e5
     injection e5 with e8 _ _
     subst e8
     refine qC hs he hd (.inr ⟨_,rfl,fun j v hj=>?_⟩) (fun h=>by cases h)
     exact o2.cells (g:=g) (by rw [o1];rfl) j v (by rw [hi];exact hj)
   ·cases h2
  ·cases h2
 ·cases h2
theorem eD.head {sz:Nat}:∀ {rows:List (List FV)} {inner:List Value} (k:Nat),eD Fz w sz rows inner → inner.length = rows.length * sz → eD Fz w sz (rows.take k) (inner.take (k * sz))
 | rows,inner,0,h,_=>by rw [List.take_zero,akg,List.take_zero];rfl
 | [],inner,k + 1,h,hl=>by
  have:inner = []:=h
  subst this
  rw [List.take_nil,List.take_nil];rfl
 | r :: rows,inner,k + 1,h,hl=>by
  obtain ⟨h1,h2,h3⟩:=h
  rw [List.take_succ_cons]
  rw [List.length_cons,ajV] at hl
  refine ⟨h1,?_,?_⟩
  ·rw [List.take_take,akT (by rw [ajV];omega)];exact h2
  ·have:=eD.head k h3 (by rw [ajA];omega)
   rw [List.drop_take,ajV,Nat.add_sub_cancel]
   exact this
theorem Vv (h:Rel bn w0 bg N Fz κ σ a w) {t e:TypeId} {sz:Nat} {x y:Operand} {x' y':dM} (hu:P.underlying t = some (.slice e)) (hn:lJ P e = some sz) (hx:fC x = some x') (hy:fC y = some y') (hE:bZ Γ q σ d (.DZ sz x' y') = some (pv,σ')) :
  Does P bn w0 bg N q d Fz κ σ a w (do let v ← Instr.sliceAt t (a.eval x) none (some (a.eval y)) none;Pure.pure (.value v)) σ' pv:=by
 simp only [bZ] at hE
 split at hE
 ·cases hE
 rename_i hq
 obtain ⟨v,h1,h2⟩:=zbm hE
 obtain ⟨j,h3,h4⟩:=zbm h2
 obtain ⟨p,h5,h6⟩:=zbm h4
 have hv:=h.eval hx h1
 have hj:=iD h5 (h.eval hy h3)
 split at h6
 ·rename_i key n
  split at h6
  ·rename_i sz' rows fZ
   split at h6
   ·rename_i hc
    cases h6
    obtain ⟨rfl,c1,c2,c3⟩:=hc
    obtain ⟨o0,e1,inner,A,c,o1,o2,o3⟩:=h.obj fZ
    have hk:p.2.toNat ≤ rows.length:=by omega
    have hlen:((rows.take p.2.toNat)).length = p.2.toNat:=by rw [ajq];omega
    have hle:rows.length ≤ c:=by
     rcases o2.2 with ⟨e5,e6⟩ | ⟨g,cap,cur,e5,e6,e7,e8,_⟩
     ·rw [e6];exact ajO _
     ·rw [o1] at e5;injection e5 with _ _ e9;subst e9;exact e8
    have hb:(Instr.sliceBounds true rows.length c none (some (.int p.1 p.2)) none).run P w = .ok (0,p.2.toNat,c) w:=by
     have hc':0 ≤ p.2 ∧ p.2 ≤ (c:Int):=⟨c2,by omega⟩
     unfold Instr.sliceBounds Instr.sliceBound
     simp only [Sem.run_bind,Sem.run_pure,Result.andThen_ok,iX,ai8 hc']
    have hrun:=pR (P:=P) (w:=w) hu hn (A:=A) hb
    rw [akg,Nat.sub_zero,Nat.sub_zero] at hrun
    have hA:(if c = 0 then A else A.map (·.add 0)) = A:=by
     split
     ·rfl
     ·cases A with
      | none=>rfl
      | some ad=>simp [Option.map_some,Addr.add]
    rw [hA] at hrun
    have hown:w.ownsRow 0 e1 sz' (.slice A p.2.toNat c) (rows.take p.2.toNat).length (inner.take (p.2.toNat * sz')):=by
     rw [hlen]
     refine ⟨by rw [ajq,o2.1];exact akT (akF _ hk),?_⟩
     rcases o2.2 with ⟨e5,e6⟩ | ⟨g,cap,cur,e5,e6,e7,e8,e9,e10,e11⟩
     ·left
      rw [o1] at e5
      injection e5 with e5 e5' L8
      subst e5
      subst L8
      have:p.2.toNat = 0:=by omega
      rw [this]
      exact ⟨rfl,rfl⟩
     ·right
      rw [o1] at e5
      injection e5 with e5 _ L8
      subst e5
      subst L8
      refine ⟨g,c,cur,rfl,e6,e7,by omega,e9,e10,?_⟩
      rw [← e11,List.take_take,akT (akF _ hk)]
    have hbk:∀ b,blk (.slice A p.2.toNat c) = some b → b < w.heap.size ∧ (blk (κ key) = some b ∨ w.heap.size ≤ b):=by
     intro b hb1
     have hb2:blk (κ key) = some b:=by rw [o1];cases A <;> exact hb1
     exact ⟨(h.pos _ (get_mem fZ) b hb2).2.1,.inl hb2⟩
    have hrel:=h.moved (w':=w) (o':=.row sz' (rows.take p.2.toNat)) (v':=.slice A p.2.toNat c) fZ ⟨A,_,c,o1⟩ (ajd _) (fun _ _ _=>rfl) hbk ⟨rfl,rfl⟩ ⟨o0,e1,_,A,c,by rw [bO,hlen],by rw [bO];exact hown,o3.head _ o2.1⟩
    refine ⟨_,w,_,Fz,.slice A p.2.toNat c,?_,.inl rfl,hrel,⟨by rw [bO],A,c,rfl⟩,fun _ h=>h,fun k hk=>eF (fun e=>by subst e;omega) _⟩
    rw [hv.1,o1,hj,Sem.run_bind,hrun]
    rfl
   ·cases h6
  ·cases h6
 ·cases h6
theorem Vw (h:Rel bn w0 bg N Fz κ σ a w) {t e:TypeId} {sz:Nat} {x y:Operand} {x' y':dM} (hu:P.underlying t = some (.slice e)) (hn:lJ P e = some sz) (hx:fC x = some x') (hy:fC y = some y') (hE:bZ Γ q σ d (.cutV sz x' y') = some (pv,σ')) :
  Does P bn w0 bg N q d Fz κ σ a w (do let v ← Instr.sliceAt t (a.eval x) (some (a.eval y)) none none;Pure.pure (.value v)) σ' pv:=by
 simp only [bZ] at hE
 obtain ⟨v,h1,h2⟩:=zbm hE
 obtain ⟨j,h3,h4⟩:=zbm h2
 obtain ⟨p,h5,h6⟩:=zbm h4
 have hv:=h.eval hx h1
 have hj:=iD h5 (h.eval hy h3)
 split at h6
 ·rename_i key n
  split at h6
  ·rename_i sz' rows fZ
   split at h6
   ·rename_i hc
    cases h6
    obtain ⟨rfl,c2,c3⟩:=hc
    obtain ⟨o0,e1,inner,A,c,o1,o2,o3⟩:=h.obj fZ
    have hb:(Instr.sliceBounds true rows.length c (some (.int p.1 p.2)) none none).run P w = .ok (p.2.toNat,rows.length,c) w:=by
     have hc':0 ≤ p.2 ∧ p.2 ≤ (rows.length:Int):=⟨c2,c3⟩
     unfold Instr.sliceBounds Instr.sliceBound
     simp only [Sem.run_bind,Sem.run_pure,Result.andThen_ok,iX,ai8 hc',Option.isSome_none,ajB,ajv]
    have hrun:=pR (P:=P) (w:=w) hu hn (A:=A) hb
    refine Does.pure h (v:=.slice (if c = p.2.toNat then A else A.map (·.add (p.2.toNat * sz'))) (rows.length - p.2.toNat) (c - p.2.toNat)) ?_ ⟨A,c,o1,rfl⟩
    rw [hv.1,o1,hj]
    exact hrun
   ·cases h6
  ·cases h6
 ·cases h6
end
end
section
open Go
section
variable {P : Program} {Γ:Env} {bn Fz bD:Nat → Prop} {w0 w w':World} {bg:List Nat} {N:Fr} {d:Nat} {q:Bool} {κ eZ:Nat → Value} {σ σ1 σ':St} {a:Act} {pv:PV} {o:Oper}
theorem eD.zeros {sz:Nat} {z:List FV} {zs:List Value} (hz:cB Fz w z zs) (hl:z.length = sz):∀ n,eD Fz w sz (List.replicate n z) (List.replicate n zs).flatten
 | 0=>rfl
 | n + 1=>by
  have hlen:=hz.length
  rw [List.replicate_succ,List.replicate_succ,List.flatten_cons]
  refine ⟨hl,?_,?_⟩
  ·rw [List.take_left' (by omega)];exact hz
  ·rw [List.drop_left' (by omega)];exact eD.zeros hz hl n
theorem Ec {α:Type} (zs:List α):∀ n,((List.replicate n zs).flatten).length = n * zs.length
 | 0=>by simp
 | n + 1=>by rw [List.replicate_succ,List.flatten_cons,ajh,Ec zs n,ajV];omega
theorem Ed {cells:Array Value} (h:0 < cells.size) (n:Nat):(Builtin.zeroCells cells n).toList = (List.replicate n cells.toList).flatten:=by
 unfold Builtin.zeroCells
 rw [akn,Array.toList_range]
 exact lS cells h n
theorem zR {t e ty:TypeId} {i:TypeInfo} {zv:Value} (hu:P.underlying t = some (.slice e)) (hie:P.info? e = some i) (hz:i.zero = some zv) {g off m c:Nat} {cur:Array Value} {e1:TypeId} (hg:w.heap[g]? = some (.cells cur e1 (0,0))) (hm:0 < m) {zs:List Value} (hzs:(Builtin.zeroCells zv.cells m).toList = zs) (hfit:off + zs.length ≤ cur.size) (h1:∀ u ∈ zs,u.oneCell' = true) :
  (Builtin.clear_ #[t] ty #[.slice (some ⟨g,off,none⟩) m c]).run P w = .ok (.tuple #[]) (w.setRow g (cur.toList.take off ++ zs ++ cur.toList.drop (off + zs.length)).toArray):=by
 obtain ⟨m,rfl⟩:∃ k,m = k + 1:=⟨m - 1,by omega⟩
 have hst:=run_storeCells_at P g off e1 zs 0 cur w hg (by simpa using hfit) h1
 simp only [Nat.add_zero] at hst
 unfold Builtin.clear_
 simp [run_underlying hu,zeroValue,typeInfo,hie,hz,hzs,hst]
theorem xU {t e ty:TypeId} (hu:P.underlying t = some (.slice e)) {A:Option Addr} {c:Nat}:(Builtin.clear_ #[t] ty #[.slice A 0 c]).run P w = .ok (.tuple #[]) w:=by
 unfold Builtin.clear_
 cases A <;> simp [run_underlying hu]
theorem ZE (h:Rel bn w0 bg N Fz κ σ a w) {t ty e:TypeId} {sz:Nat} {zp:List PL} {z:List FV} {x:Operand} {x':dM} (hu:P.underlying t = some (.slice e)) (hzp:Ai P e = some zp) (hz:qA zp = some z) (hx:fC x = some x') (hE:bZ Γ q σ d (.TB sz z x') = some (pv,σ')) :
  Does P bn w0 bg N q d Fz κ σ a w (do let v ← Builtin.clear_ #[t] ty #[a.eval x];Pure.pure (.value v)) σ' pv:=by
 obtain ⟨v,h1,h2⟩:=zbm hE
 have hv:=h.eval hx h1
 split at h2
 ·rename_i key z' n lo
  split at h2
  ·rename_i sz' rows fZ
   split at h2
   ·rename_i hc
    cases h2
    obtain ⟨rfl,rfl,c1,rfl,c2⟩:=hc
    obtain ⟨A,c,hA,Yl⟩:=hv
    obtain ⟨o0,e1,inner,A',c',o1,o2,o3⟩:=h.obj fZ
    rw [o1] at hA
    injection hA with hA1 _ hA3
    subst hA1
    subst hA3
    obtain ⟨i,zv,g1,g2,g3⟩:=uS (Fz:=Fz) (κ:=κ) (w:=w) hzp
    have hfs:=rX hz g3
    have hzl:=hfs.length
    rw [Array.length_toList] at hzl
    by_cases hlt:lo < rows.length
    ·rcases o2.2 with ⟨e5,e6⟩ | ⟨g,cap,cur,e5,e6,e7,e8,e9,e10,e11⟩
     ·omega
     ·rw [o1] at e5
      injection e5 with e5 _ L8
      subst e5
      subst L8
      have e:zv.cells.toList.length = z':=by rw [Array.length_toList];omega
      have hzr:=eD.zeros hfs c1 (rows.length - lo)
      have hlz:=Ec zv.cells.toList (rows.length - lo)
      have hzc:=Ed (cells:=zv.cells) (by omega) (rows.length - lo)
      rw [e] at hlz
      generalize (List.replicate (rows.length - lo) zv.cells.toList).flatten = Z at hlz hzr hzc
      have hfit:lo * z' + (rows.length - lo) * z' ≤ cur.size:=by
       rw [← akE,e10];exact akF _ (by omega)
      have hrun:=zR (P:=P) (ty:=ty) (off:=lo * z') (c:=c' - lo) hu g1 g2 e7 (m:=rows.length - lo) (by omega) hzc (by omega) hzr.one
      refine ⟨_,w.setRow g (cur.toList.take (lo * z') ++ Z ++ cur.toList.drop (lo * z' + Z.length)).toArray,κ,Fz,.tuple #[],?_,.inl rfl,Good.set h fZ (by simp) (fun k _ hk=>setRow_other w g k _ (fun e=>hk (by rw [o1,e];rfl))) (Kp.setRow _ _ _) ?_ ⟨_,rfl,trivial⟩⟩
      ·rw [Yl,ai9 (by omega),Option.map_some,mK,ajD,Sem.run_bind,hrun];rfl
      ·have hl:(rows.take lo ++ List.replicate (rows.length - lo) z).length = rows.length:=by
        rw [ajh,ajq,List.length_replicate];omega
       have hmv:∀ k,Fz k → (w.setRow g (cur.toList.take (lo * z') ++ Z ++ cur.toList.drop (lo * z' + Z.length)).toArray).heap[k]? = w.heap[k]?:=fun k hk=>setRow_other w g k _ (fun e=>(h.pos _ (get_mem fZ) g (by rw [o1];rfl)).1 (e ▸ hk))
       have hle:lo * z' ≤ rows.length * z':=akF _ c2
       have hti:cur.toList.take (lo * z') = inner.take (lo * z'):=by
        rw [← e11,List.take_take,akT hle]
       have hsum:lo * z' + (rows.length - lo) * z' = rows.length * z':=by rw [← akE];congr 1;omega
       refine ⟨o0,e1,inner.take (lo * z') ++ Z,some ⟨g,0,none⟩,c',by rw [hl];exact o1,?_,eD.mono (fun _ h=>h) hmv _ _ _ ((o3.head lo o2.1).app hzr)⟩
       rw [hl,o1]
       refine ⟨?_,.inr ⟨g,c',_,rfl,e6,setRow_heap w g cur _ e1 _ e7,e8,e9,?_,?_⟩⟩
       ·rw [ajh,ajq,o2.1,akT hle];omega
       ·simp only [List.size_toArray,ajh,ajq,ajA,Array.length_toList]
        omega
       ·have hl2:(cur.toList.take (lo * z') ++ Z).length = rows.length * z':=by
         simp only [ajh,ajq,Array.length_toList]
         omega
        rw [← hti,← hl2]
        exact List.take_left
    ·have hlo:lo = rows.length:=by omega
     subst hlo
     have hr:rows.take rows.length ++ List.replicate (rows.length - rows.length) z = rows:=by simp
     rw [hr]
     refine ⟨_,w,κ,Fz,.tuple #[],?_,.inl rfl,Good.set h fZ (ajd _) (fun _ _ _=>rfl) ⟨rfl,rfl⟩ (h.obj fZ) ⟨_,rfl,trivial⟩⟩
     rw [Yl,Nat.sub_self,Sem.run_bind,xU hu]
     rfl
   ·cases h2
  ·cases h2
 ·cases h2
theorem eu.of {b:Nat}:∀ {r:List FV} {vs:List Value} {o:Nat},cB Fz w r vs → (∀ j v,vs[j]? = some v → w.cell? ⟨b,o + j,none⟩ = some v) → eu Fz w b o r
 | [],_,_,_,_=>trivial
 | x :: r,[],_,h,_=>h.elim
 | x :: r,v :: vs,o,h,hc=>by
  simp only [eu]
  refine ⟨⟨v,by have:=hc 0 v rfl;rwa [Nat.add_zero] at this,h.1⟩,eu.of h.2 (fun j u hj=>?_)⟩
  have:=hc (j + 1) u (by simpa using hj)
  rwa [show o + (j + 1) = o + 1 + j from by omega] at this
section
variable {g : PL → PL} (hg:∀ x v,eB Fz κ w x v → eB bD κ w (g x) v)
include hg
theorem aT.map : ∀ {xs:List PL} {vs:List Value},aT Fz κ w xs vs → aT bD κ w (xs.map g) vs
 | [],[],_=>trivial
 | x :: xs,v :: vs,h=>⟨hg _ _ h.1,aT.map h.2⟩
 | [],_ :: _,h=>h.elim
 | _ :: _,[],h=>h.elim
theorem fV.map {x:CV} {v:Value} (h:fV Fz κ w x v):fV bD κ w (LC g x) v:=by
 cases x with
 | one x=>exact hg _ _ h
 | agg xs=>obtain ⟨cs,rfl,h⟩:=h;exact ⟨cs,rfl,aT.map hg h⟩
theorem dO.map : ∀ {xs:List CV} {vs:List Value},dO Fz κ w xs vs → dO bD κ w (xs.map (LC g)) vs
 | [],[],_=>trivial
 | x :: xs,v :: vs,h=>⟨fV.map hg h.1,dO.map h.2⟩
 | [],_ :: _,h=>h.elim
 | _ :: _,[],h=>h.elim
theorem iK.map {x:PV} {v:Value} (h:iK Fz κ w x v):iK bD κ w (Vh g x) v:=by
 cases x with
 | c x=>exact fV.map hg h
 | uM xs=>obtain ⟨cs,rfl,h⟩:=h;exact ⟨cs,rfl,dO.map hg h⟩
theorem iO.map {B k:Nat} (hf:∀ b,Fz b → bD b) {x:Ob} (h:iO B Fz κ w k x):iO B bD κ w k (Vi g x):=by
 cases x with
 | eT xs=>obtain ⟨b,cs,e,h1,h2,h3⟩:=h;exact ⟨b,cs,e,h1,h2,aT.map hg h3⟩
 | row sz rows=>exact iO.mono (o:=.row sz rows) hf (fun _ _=>rfl) (fun _ _=>rfl) (fun _ _=>rfl) h
 | map sh ents=>exact iO.mono (o:=.map sh ents) hf (fun _ _=>rfl) (fun _ _=>rfl) (fun _ _=>rfl) h
end
theorem Vx (h:Rel bn w0 bg N Fz κ σ a w) {key:Nat} {cs:List FV} {v:Value} (hv:eB Fz κ w (.ptr key 0) v) (hs:Yh σ key = some (cs,σ')) :
  ∃ bD,Rel bn w0 bg N bD κ σ' a w ∧ (∀ b,Fz b → bD b) ∧ ∃ b o,v = .pointer (some ⟨b,o,none⟩) ∧ bD b ∧ eu bD w b o cs:=by
 unfold Yh at hs
 split at hs
 ·rename_i xs fZ
  obtain ⟨p,h1,h2⟩:=zbm hs
  split at h2
  ·rename_i ob1 aeS
   cases h2
   obtain ⟨b,vals,e,o1,o2,o3⟩:=h.obj fZ
   obtain ⟨F1,r1,r2,r3⟩:=h.kJ o3 h1
   have hkm:=get_mem aeS
   have hbk:blk (κ key) = some b:=by rw [o1];rfl
   have hf:∀ x,F1 x → F1 x ∨ x = b:=fun x h=>.inl h
   have hrow:eu (fun x=>F1 x ∨ x = b) w b 0 p.1:=by
    have h0:eu F1 w b 0 p.1:=eu.of r3 (fun j u hj=>by
     rw [ajD]
     simp only [World.cell?,o2]
     simpa using hj)
    revert h0
    generalize p.1 = r
    generalize (0:Nat) = o
    induction r generalizing o with
    | nil=>intro _;trivial
    | cons x r ih =>
     intro h0
     simp only [eu] at h0 ⊢
     obtain ⟨⟨u,e1,e2⟩,e3⟩:=h0
     exact ⟨⟨u,e1,eY.mono hf (fun _ _=>rfl) x u e2⟩,ih _ e3⟩
   have hL:∀ x u,eB F1 κ w x u → eB (fun x=>F1 x ∨ x = b) κ w (LB key p.1 x) u:=by
    intro x u hx
    have hm:eB (fun x=>F1 x ∨ x = b) κ w x u:=eB.mono hf (fun _ _=>rfl) (fun _ _=>rfl) hx
    cases x with
    | ptr k o =>
     simp only [LB]
     split
     ·rename_i hk
      subst hk
      obtain ⟨b',g1,g2⟩:=hx
      rw [o1] at g1
      cases g1
      refine ⟨b,o,g2,.inr rfl,?_⟩
      have:=hrow.drop o
      rwa [ajD] at this
     ·exact hm
    | _=>exact hm
   refine ⟨fun x=>F1 x ∨ x = b,⟨fun r hr=>?_,h.sz,h.mh,h.fs,fun r hr=>?_,fun r hr s hs b' hne hb1 hb2=>?_,fun r hr b' hb1=>?_,fun b' hb=>?_,fun b' hb=>.inl (r1.zJ b' hb),h.big,h.ext,h.kp⟩,fun x hx=>.inl (r2 x hx),b,0,?_,.inr rfl,hrow⟩
   ·obtain ⟨s,hs,rfl⟩:=ajx.mp hr
    exact iK.map hL (r1.tm s hs)
   ·obtain ⟨s,hs,rfl⟩:=ajx.mp hr
    exact iO.map hL hf (r1.ob s (eU.mp hs).1)
   ·obtain ⟨r',hr',rfl⟩:=ajx.mp hr
    obtain ⟨s',hs',rfl⟩:=ajx.mp hs
    exact r1.uO r' (eU.mp hr').1 s' (eU.mp hs').1 b' hne hb1 hb2
   ·obtain ⟨r',hr',rfl⟩:=ajx.mp hr
    obtain ⟨m1,m2⟩:=eU.mp hr'
    have:=r1.pos r' m1 b' hb1
    refine ⟨fun hor=>?_,this.2⟩
    rcases hor with h3 | rfl
    ·exact this.1 h3
    ·exact r1.uO r' m1 _ hkm b' m2 hb1 hbk
   ·rcases hb with hb | rfl
    ·exact r1.fz b' hb
    ·have:=r1.pos _ hkm b' hbk
     exact ⟨this.2.1,.inr this.2.2⟩
   ·obtain ⟨b',g1,g2⟩:=hv
    rw [o1] at g1
    cases g1
    exact g2
  ·cases h2
 ·cases hs
theorem Cn : ∀ {l:List CV} {vs:List Value} {caps:List (List FV)} {Fz:Nat → Prop} {σ σ':St},Rel bn w0 bg N Fz κ σ a w → dO Fz κ w l vs → lZ q σ l = some (caps,σ') → ∃ bD,Rel bn w0 bg N bD κ σ' a w ∧ (∀ b,Fz b → bD b) ∧ nR bD w caps vs
 | [],[],caps,Fz,σ,σ',h,_,hs=>by simp only [lZ] at hs;cases hs;exact ⟨Fz,h,fun _ h=>h,trivial⟩
 | [],_ :: _,_,_,_,_,_,hx,_=>hx.elim
 | _ :: _,[],_,_,_,_,_,hx,_=>hx.elim
 | x :: l,v :: vs,caps,Fz,σ,σ',h,hx,hs=>by
  unfold lZ at hs
  split at hs
  ·rename_i heq;cases heq
  ·rename_i cs l' heq
   cases heq
   obtain ⟨r,h1,h2⟩:=zmm hs
   cases h2
   obtain ⟨F1,e1,e2,e3⟩:=Cn h hx.2 h1
   obtain ⟨b,o,g1,g2,g3⟩:=hx.1
   exact ⟨F1,e1,e2,⟨b,o,g1,e2 b g2,eu.mono e2 (fun _ _=>rfl) _ _ _ g2 g3⟩,e3⟩
  ·rename_i key l' heq
   cases heq
   split at hs
   ·cases hs
   ·obtain ⟨p,h1,h2⟩:=zbm hs
    obtain ⟨r,h3,h4⟩:=zmm h2
    cases h4
    obtain ⟨F1,e1,e2,e3⟩:=Vx h hx.1 h1
    obtain ⟨F2,g1,g2,g3⟩:=Cn e1 (dO.mono e2 (fun _ _=>rfl) _ (fun _ _=>rfl) _ hx.2) h3
    obtain ⟨b,o,k1,k2,k3⟩:=e3
    exact ⟨F2,g1,fun b hb=>g2 b (e2 b hb),⟨b,o,k1,g2 b k2,eu.mono g2 (fun _ _=>rfl) _ _ _ k2 k3⟩,g3⟩
  ·cases hs
theorem Au (h:Rel bn w0 bg N Fz κ σ a w):∀ {xs:List Operand} {ys:List dM} {l:List CV},BZ xs = some ys → jw σ ys = some l → dO Fz κ w l (xs.map a.eval)
 | [],ys,l,hx,hv=>by cases hx;cases hv;trivial
 | x :: xs,ys,l,hx,hv=>by
  obtain ⟨y,h1,h2⟩:=zbm hx
  obtain ⟨m,h3,rfl⟩:=zmm h2
  obtain ⟨v,h4,h5⟩:=zbm hv
  obtain ⟨n,h6,rfl⟩:=zmm h5
  exact ⟨h.eval h1 h4,Au h h3 h6⟩
theorem ZF (h:Rel bn w0 bg N Fz κ σ a w) {f:FuncId} {first caps:Array Operand} {l:List dM} (h0:first.size = 0) (hc:BZ caps.toList = some l) (hE:bZ Γ q σ d (.PX f l) = some (pv,σ')) :
  Does P bn w0 bg N q d Fz κ σ a w (do let v ← Instr.makeFunc (.func f) (first.map a.eval) (caps.map a.eval);Pure.pure (.value v)) σ' pv:=by
 obtain ⟨m,h1,h2⟩:=zbm hE
 obtain ⟨p,h3,h4⟩:=zmm h2
 cases h4
 obtain ⟨F1,e1,e2,e3⟩:=Cn h (Au h hc h1) h3
 have hf:first = #[]:=Array.eq_empty_of_size_eq_zero h0
 subst hf
 refine ⟨.value (.func (.func f) #[] (caps.map a.eval)),w,κ,F1,.func (.func f) #[] (caps.map a.eval),by simp [Instr.makeFunc],.inl rfl,e1,⟨_,?_,e3⟩,e2,fun _ _=>rfl⟩
 rw [← akn,Array.toArray_toList]
end
end
section
open Go
section
variable {P : Program} {Γ:Env} {bn Fz bD:Nat → Prop} {w0 w w':World} {bg:List Nat} {N:Fr} {d:Nat} {q:Bool} {κ eZ:Nat → Value} {σ σ1 σ':St} {a:Act} {pv:PV} {o:Oper}
theorem L9 {ks:List SK} {k:KV} (h:k.ks = .agg ks):∃ cs,nZ k = .agg cs:=by
 cases k with
 | one x=>cases h
 | agg xs=>exact ⟨_,rfl⟩
theorem Ma (h:Rel bn w0 bg N Fz κ σ a w) {op:BinOp} {t e:TypeId} {neg:Bool} {x y:Operand} {x' y':dM} (hu:P.underlying t = some (.pointer e)) (hop:(op = .eql ∧ neg = false) ∨ (op = .neq ∧ neg = true)) (hx:fC x = some x') (hy:fC y = some y') (hn:LK y' = true) (hE:bZ Γ q σ d (.xq neg x') = some (pv,σ')) :
  Does P bn w0 bg N q d Fz κ σ a w (do let v ← (do eqGuard op t x y (a.eval x) (a.eval y);binOp op t (a.eval x) (a.eval y):Sem Value);Pure.pure (.value v)) σ' pv:=by
 have hyv:a.eval y = .pointer none:=by
  unfold LK at hn
  split at hn
  ·exact h.eval (v:=.one .iU) hy rfl
  ·cases hn
 have hpt:P.underlying t = some (.pointer (P.pointee t)):=by unfold Program.pointee;rw [hu]
 obtain ⟨v,h1,h2⟩:=zbm hE
 have hv:=h.eval hx h1
 have hg:∀ p:Option Addr,(eqGuard op t x y (.pointer p) (.pointer none)).run P w = .ok () w:=by
  intro p
  unfold eqGuard
  rcases hop with ⟨rfl,_⟩ | ⟨rfl,_⟩ <;> rfl
 have run:∀ p:Option Addr,a.eval x = .pointer p → pv = .c (.one (.f (.bool (if neg then !p.isNone else p.isNone)))) → σ' = σ → Does P bn w0 bg N q d Fz κ σ a w (do let v ← (do eqGuard op t x y (a.eval x) (a.eval y);binOp op t (a.eval x) (a.eval y):Sem Value);Pure.pure (.value v)) σ' pv:=by
  intro p hp hpv hs
  subst hpv
  subst hs
  refine Does.pure h (v:=.bool (if neg then !p.isNone else p.isNone)) ?_ rfl
  rw [hp,hyv]
  simp only [Sem.run_bind,hg,Result.andThen_ok]
  rcases hop with ⟨rfl,rfl⟩ | ⟨rfl,rfl⟩
  ·exact run_eql_pointer_nil w t p hpt
  ·exact run_neq_pointer_nil w t p hpt
 split at h2
 ·cases h2;exact run none hv (by cases neg <;> rfl) rfl
 ·cases h2;obtain ⟨b,_,hb⟩:=hv;exact run _ hb (by cases neg <;> rfl) rfl
 ·cases h2;obtain ⟨b,o,hb,_⟩:=hv;exact run _ hb (by cases neg <;> rfl) rfl
 ·cases h2;obtain ⟨b,_,_,_,hb⟩:=hv;exact run _ hb (by cases neg <;> rfl) rfl
 ·cases h2
theorem Mc {X:Hx} (heq:∀ t ∈ X.eqs,lK P t) (h:Rel bn w0 bg N Fz κ σ a w) {i:I} (hc:jM P X o = some i) (hi:LP i = false) (hE:bZ Γ q σ d i = some (pv,σ')):Does P bn w0 bg N q d Fz κ σ a w (execOp a.eval o) σ' pv:=by
 have mem:∀ {t:TypeId},X.eqs.contains t = true → lK P t:=fun ht=>heq _ (by simpa using ht)
 unfold jM at hc
 split at hc
 ·
  rename_i x ho
  obtain ⟨x',h1,rfl⟩:=zmm hc
  unfold execOp;simp only [ho]
  exact Zk h h1 hE
 ·rename_i x ho
  obtain ⟨x',h1,rfl⟩:=zmm hc
  unfold execOp;simp only [ho]
  exact Zk h h1 hE
 ·rename_i c x y ho
  obtain ⟨c',h1,hc⟩:=zbm hc
  obtain ⟨x',h2,hc⟩:=zbm hc
  obtain ⟨y',h3,rfl⟩:=zmm hc
  unfold execOp;simp only [ho]
  exact Vm h h1 h2 h3 hE
 ·rename_i e ho
  obtain ⟨z,h1,rfl⟩:=zmm hc
  unfold execOp;simp only [ho]
  exact Qe h h1 hE
 ·rename_i e x ho
  obtain ⟨x',h1,rfl⟩:=zmm hc
  unfold execOp;simp only [ho]
  exact Zv h h1 hE
 ·rename_i t ps ho
  split at hc
  ·rename_i fs hu
   split at hc
   ·rename_i hall
    obtain ⟨z,h1,hc⟩:=zbm hc
    obtain ⟨l,h2,rfl⟩:=zmm hc
    unfold execOp;simp only [ho]
    exact Qf h hu hall h1 h2 hE
   ·cases hc
  ·rename_i n e hu
   obtain ⟨sz,h0,hc⟩:=zbm hc
   obtain ⟨z,h1,hc⟩:=zbm hc
   obtain ⟨l,h2,rfl⟩:=zmm hc
   unfold execOp;simp only [ho]
   exact LV h hu h0 h1 h2 hE
  ·cases hc
 ·rename_i t len ps ho
  obtain ⟨e,h1,hc⟩:=zbm hc
  obtain ⟨sz,h2,hc⟩:=zbm hc
  split at hc
  ·cases hc
  ·rename_i hs
   obtain ⟨z,h3,hc⟩:=zbm hc
   split at hc
   ·rename_i hz
    obtain ⟨l,h4,e4⟩:=zmm hc
    unfold execOp;simp only [ho]
    split at e4
    ·subst e4;exact Zw h (uR h1) h2 hs h3 hz h4 hE
    ·subst e4;exact TI h (uR h1) h2 hs h3 hz h4 hE
   ·cases hc
 ·rename_i t x ho
  obtain ⟨g,h1,hc⟩:=zbm hc
  obtain ⟨n,h2,hc⟩:=zbm hc
  obtain ⟨x',h3,rfl⟩:=zmm hc
  unfold execOp;simp only [ho]
  exact Vn h h1 h2 h3 hE
 ·rename_i t x y ho
  obtain ⟨n,h1,hc⟩:=zbm hc
  obtain ⟨x',h2,hc⟩:=zbm hc
  obtain ⟨y',h3,rfl⟩:=zmm hc
  unfold execOp;simp only [ho]
  exact Qi h h1 h2 h3 hE
 ·rename_i x ho
  obtain ⟨x',h1,rfl⟩:=zmm hc
  exact Vo h h1 hE ho
 ·rename_i op t x y u ho
  obtain ⟨x',h1,hc⟩:=zbm hc
  obtain ⟨y',h2,hc⟩:=zbm hc
  unfold execOp;simp only [ho]
  split at hc
  ·split at hc
   ·rename_i hop;cases hc;subst hop;exact Zn h h1 h2 hE
   ·split at hc
    ·rename_i hop;cases hc;subst hop;exact vP h Am.1 h1 h2 hE
    ·split at hc
     ·rename_i hop;cases hc;subst hop;exact vP h Am.2 h1 h2 hE
     ·cases hc
  ·split at hc
   ·rename_i hop;cases hc;exact aeN h hop h1 h2 hE
   ·split at hc
    ·rename_i hop;cases hc;exact ZB h hop h1 h2 hE
    ·split at hc
     ·rename_i hop;cases hc;exact TJ h (.inl ⟨hop,rfl⟩) h1 h2 hE
     ·split at hc
      ·rename_i hop;cases hc;exact TJ h (.inr ⟨hop,rfl⟩) h1 h2 hE
      ·obtain ⟨c,h3,rfl⟩:=zmm hc
       exact Zm h h3 h1 h2 hE
  ·rename_i hu
   split at hc
   ·rename_i hop;cases hc;subst hop;exact vP h (xP hu).1 h1 h2 hE
   ·split at hc
    ·rename_i hop;cases hc;subst hop;exact vP h (xP hu).2 h1 h2 hE
    ·cases hc
  ·rename_i e hu
   split at hc
   ·rename_i hn
    split at hc
    ·rename_i hop;cases hc;exact Ma h hu (.inl ⟨hop,rfl⟩) h1 h2 hn hE
    ·split at hc
     ·rename_i hop;cases hc;exact Ma h hu (.inr ⟨hop,rfl⟩) h1 h2 hn hE
     ·cases hc
   ·cases hc
  ·rename_i e hu
   split at hc
   ·rename_i hn
    split at hc
    ·rename_i hop;cases hc;exact L6 h hu (.inl ⟨hop,rfl⟩) h1 h2 hn hE
    ·split at hc
     ·rename_i hop;cases hc;exact L6 h hu (.inr ⟨hop,rfl⟩) h1 h2 hn hE
     ·cases hc
   ·cases hc
  ·rename_i fs hu
   split at hc
   ·rename_i he
    obtain ⟨sh,h3,hc⟩:=zbm hc
    have hsh:∃ ks,sh = .agg ks:=by
     unfold xL at h3
     rw [hu] at h3
     obtain ⟨ks,_,rfl⟩:=zmm h3
     exact ⟨ks,rfl⟩
    obtain ⟨ks,rfl⟩:=hsh
    have hr:=D8 (x:=x) (y:=y) (mem he) h3 (fun _ hk=>L9 hk)
    split at hc
    ·rename_i hop;cases hc;subst hop;exact vP h hr.1 h1 h2 hE
    ·split at hc
     ·rename_i hop;cases hc;subst hop;exact vP h hr.2 h1 h2 hE
     ·cases hc
   ·cases hc
  ·rename_i n e hu
   split at hc
   ·rename_i he
    obtain ⟨sh,h3,hc⟩:=zbm hc
    have hsh:∃ ks,sh = .agg ks:=by
     unfold xL at h3
     rw [hu] at h3
     obtain ⟨ks,_,rfl⟩:=zmm h3
     exact ⟨_,rfl⟩
    obtain ⟨ks,rfl⟩:=hsh
    have hr:=D8 (x:=x) (y:=y) (mem he) h3 (fun _ hk=>L9 hk)
    split at hc
    ·rename_i hop;cases hc;subst hop;exact vP h hr.1 h1 h2 hE
    ·split at hc
     ·rename_i hop;cases hc;subst hop;exact vP h hr.2 h1 h2 hE
     ·cases hc
   ·cases hc
  ·cases hc
 ·rename_i t x ho
  obtain ⟨x',h1,rfl⟩:=zmm hc
  unfold execOp;simp only [ho]
  exact aeL h h1 hE
 ·rename_i src dst x ho
  unfold execOp;simp only [ho]
  split at hc
  ·rename_i hs hd
   obtain ⟨x',h1,rfl⟩:=zmm hc
   exact aeM h hs hd h1 hE
  ·rename_i hs hd
   obtain ⟨x',h1,rfl⟩:=zmm hc
   exact Zl h hs hd h1 hE
  ·rename_i e hs hd
   split at hc
   ·rename_i he hz
    obtain ⟨x',h1,rfl⟩:=zmm hc
    exact ZC h hs he hd h1 hE
   ·cases hc
  ·cases hc
 ·rename_i t ho
  obtain ⟨m,h1,hc⟩:=zbm hc
  obtain ⟨sh,h2,rfl⟩:=zmm hc
  unfold execOp;simp only [ho,Option.map_none]
  exact Qj h hE
 ·rename_i t x lo hi0 ho
  unfold execOp;simp only [ho,Option.map_none]
  split at hc
  ·rename_i hu
   obtain ⟨x',h1,hc⟩:=zbm hc
   obtain ⟨lo',h2,hc⟩:=zbm hc
   obtain ⟨hi',h3,rfl⟩:=zmm hc
   exact Vs h hu h1 h2 h3 hE
  ·rename_i e hu
   obtain ⟨sz,h0,hc⟩:=zbm hc
   obtain ⟨x',h1,hc⟩:=zbm hc
   obtain ⟨lo',h2,hc⟩:=zbm hc
   obtain ⟨hi',h3,hc⟩:=zbm hc
   split at hc
   ·split at hc
    ·rename_i hi1
     cases hc
     cases lo with
     | some l=>obtain ⟨_,_,h⟩:=zmm h2;cases h
     | none =>
      cases hi0 with
      | none=>cases h3
      | some hv =>
       obtain ⟨y',h4,h5⟩:=zmm h3
       cases h5
       simp only [Option.map_none,Option.map_some]
       exact Vv h hu h0 h1 h4 hE
    ·cases hc
   ·split at hc
    ·split at hc
     ·rename_i lo1
      cases hc
      cases hi0 with
      | some l=>obtain ⟨_,_,h⟩:=zmm h3;cases h
      | none =>
       cases lo with
       | none=>cases h2
       | some hv =>
        obtain ⟨y',h4,h5⟩:=zmm h2
        cases h5
        simp only [Option.map_none,Option.map_some]
        exact Vw h hu h0 h1 h4 hE
     ·cases hc
    ·cases hc
     exact Zx h hu h0 h1 h2 h3 hE
  ·cases hc
 ·rename_i t x f ho
  obtain ⟨fd,h1,hc⟩:=zbm hc
  obtain ⟨n,h2,hc⟩:=zbm hc
  split at hc
  ·cases hc
  ·rename_i h0
   obtain ⟨x',h3,rfl⟩:=zmm hc
   unfold execOp;simp only [ho]
   exact aeQ h h1 h2 h0 h3 hE
 ·rename_i t x f ho
  obtain ⟨fd,h1,hc⟩:=zbm hc
  obtain ⟨n,h2,hc⟩:=zbm hc
  obtain ⟨g,h3,hc⟩:=zbm hc
  obtain ⟨x',h4,rfl⟩:=zmm hc
  unfold execOp;simp only [ho]
  exact Zr h h1 h2 h3 h4 hE
 ·rename_i t x y ho
  split at hc
  ·rename_i off ha
   obtain ⟨x',h1,rfl⟩:=zmm hc
   unfold execOp;simp only [ho]
   exact Zq h ha h1 hE
  obtain ⟨e,h1,hc⟩:=zbm hc
  obtain ⟨sz,h2,hc⟩:=zbm hc
  obtain ⟨x',h3,hc⟩:=zbm hc
  obtain ⟨y',h4,rfl⟩:=zmm hc
  unfold execOp;simp only [ho]
  exact aeR h h1 h2 h3 h4 hE
 ·rename_i t x y ho
  unfold execOp;simp only [ho]
  split at hc
  ·rename_i hu
   obtain ⟨x',h1,hc⟩:=zbm hc
   obtain ⟨y',h2,rfl⟩:=zmm hc
   exact Zp h hu h1 h2 hE
  ·rename_i n e hu
   obtain ⟨sz,h1,hc⟩:=zbm hc
   obtain ⟨g,h2,hc⟩:=zbm hc
   split at hc
   ·cases hc
   ·rename_i hg
    obtain ⟨x',h3,hc⟩:=zbm hc
    obtain ⟨y',h4,rfl⟩:=zmm hc
    exact Zt h hu h1 h2 (fun e=>by rw [not_and] at hg;exact ajQ.mp (hg e)) h3 h4 hE
  ·cases hc
 ·rename_i t x k ok ho
  obtain ⟨m,h1,hc⟩:=zbm hc
  split at hc
  ·rename_i he
   obtain ⟨sh,h2,hc⟩:=zbm hc
   obtain ⟨z,h3,hc⟩:=zbm hc
   obtain ⟨x',h4,hc⟩:=zbm hc
   obtain ⟨k',h5,rfl⟩:=zmm hc
   unfold execOp;simp only [ho]
   exact Vt h h1 (mem he) h2 h3 h4 h5 hE
  ·cases hc
 ·rename_i t m k x ho
  obtain ⟨mm,h1,hc⟩:=zbm hc
  split at hc
  ·rename_i he
   obtain ⟨sh,h2,hc⟩:=zbm hc
   obtain ⟨m',h3,hc⟩:=zbm hc
   obtain ⟨k',h4,hc⟩:=zbm hc
   obtain ⟨x',h5,rfl⟩:=zmm hc
   unfold execOp;simp only [ho]
   exact LZ h h1 (mem he) h2 h3 h4 h5 hE
  ·cases hc
 ·rename_i t m k x ho
  obtain ⟨mm,h1,hc⟩:=zbm hc
  split at hc
  ·rename_i he
   obtain ⟨sh,h2,hc⟩:=zbm hc
   obtain ⟨m',h3,hc⟩:=zbm hc
   obtain ⟨k',h4,hc⟩:=zbm hc
   obtain ⟨x',h5,rfl⟩:=zmm hc
   unfold execOp;simp only [ho]
   exact LZ h h1 (mem he) h2 h3 h4 h5 hE
  ·cases hc
 ·rename_i x i ho
  obtain ⟨x',h1,rfl⟩:=zmm hc
  unfold execOp;simp only [ho]
  exact Zo h h1 hE
 ·rename_i f first caps ho
  split at hc
  ·rename_i h0
   obtain ⟨l,h1,rfl⟩:=zmm hc
   unfold execOp;simp only [ho]
   exact ZF h h0 h1 hE
  ·cases hc
 ·
  rename_i c ho
  have hargs:∀ {xs:Array Operand} {l:List Operand},xs.toList = l → xs.map a.eval = (l.map a.eval).toArray:=fun h=>by rw [← h,← akn,Array.toArray_toList]
  split at hc
  ·split at hc
   ·obtain ⟨l,h1,rfl⟩:=zmm hc;cases hi
   ·cases hc
  ·rename_i oL
   split at hc
   ·rename_i x t h1 h2
    have e1:c.args.map a.eval = #[a.eval x]:=by rw [hargs h1];rfl
    have e2:c.argTypes[0]? = some t:=by rw [← akm,h2];rfl
    unfold execOp resolve;simp only [ho,oL,Sem.run_bind,Sem.run_pure,Result.andThen_ok,e1]
    split at hc
    ·rename_i hu
     obtain ⟨x',h3,rfl⟩:=zmm hc
     exact Vp (u:=o.type) h e2 hu h3 hE
    ·rename_i e hu
     obtain ⟨x',h3,rfl⟩:=zmm hc
     exact Vq (u:=o.type) h e2 hu h3 hE
    ·rename_i k e hu
     obtain ⟨x',h3,rfl⟩:=zmm hc
     exact Vr (u:=o.type) h e2 hu h3 hE
    ·cases hc
   ·cases hc
  ·rename_i oL
   split at hc
   ·rename_i x y t u h1 h2
    have e1:c.args.map a.eval = #[a.eval x,a.eval y]:=by rw [hargs h1];rfl
    split at hc
    ·rename_i htu
     subst htu
     have e2:c.argTypes = #[t,t]:=by rw [← Array.toArray_toList (xs:=c.argTypes),h2]
     obtain ⟨e,h3,hc⟩:=zbm hc
     obtain ⟨sz,h4,hc⟩:=zbm hc
     obtain ⟨Gc,h5,hc⟩:=zbm hc
     obtain ⟨z,h6,hc⟩:=zbm hc
     split at hc
     ·rename_i hz
      obtain ⟨x',h7,hc⟩:=zbm hc
      obtain ⟨y',h8,rfl⟩:=zmm hc
      unfold execOp resolve;simp only [ho,oL,Sem.run_bind,Sem.run_pure,Result.andThen_ok,e1,e2]
      exact ZA (ty:=o.type) h (uR h3) h4 h5 h6 hz.1 hz.2.1 hz.2.2 h7 h8 hE
     ·cases hc
    ·cases hc
   ·cases hc
  ·rename_i oL
   split at hc
   ·rename_i x y h1
    have e1:c.args.map a.eval = #[a.eval x,a.eval y]:=by rw [hargs h1];rfl
    obtain ⟨x',h7,hc⟩:=zbm hc
    obtain ⟨y',h8,rfl⟩:=zmm hc
    unfold execOp resolve;simp only [ho,oL,Sem.run_bind,Sem.run_pure,Result.andThen_ok,e1]
    exact aeO (u:=o.type) h h7 h8 hE
   ·cases hc
  ·rename_i oL
   split at hc
   ·rename_i x y h1
    have e1:c.args.map a.eval = #[a.eval x,a.eval y]:=by rw [hargs h1];rfl
    obtain ⟨x',h7,hc⟩:=zbm hc
    obtain ⟨y',h8,rfl⟩:=zmm hc
    unfold execOp resolve;simp only [ho,oL,Sem.run_bind,Sem.run_pure,Result.andThen_ok,e1]
    exact aeP (u:=o.type) h h7 h8 hE
   ·cases hc
  ·rename_i oL
   split at hc
   ·rename_i x y t k h1 h2
    have e1:c.args.map a.eval = #[a.eval x,a.eval y]:=by rw [hargs h1];rfl
    have e2:c.argTypes = #[t,k]:=by rw [← Array.toArray_toList (xs:=c.argTypes),h2]
    obtain ⟨m,h3,hc⟩:=zbm hc
    split at hc
    ·rename_i he
     obtain ⟨sh,h4,hc⟩:=zbm hc
     obtain ⟨x',h7,hc⟩:=zbm hc
     obtain ⟨y',h8,rfl⟩:=zmm hc
     unfold execOp resolve;simp only [ho,oL,Sem.run_bind,Sem.run_pure,Result.andThen_ok,e1,e2,he.2]
     exact Zz (ty:=o.type) h h3 (mem he.1) h4 h7 h8 hE
    ·cases hc
   ·cases hc
  ·rename_i oL
   split at hc
   ·rename_i x t h1 h2
    have e1:c.args.map a.eval = #[a.eval x]:=by rw [hargs h1];rfl
    have e2:c.argTypes = #[t]:=by rw [← Array.toArray_toList (xs:=c.argTypes),h2]
    obtain ⟨e,h3,hc⟩:=zbm hc
    obtain ⟨sz,h4,hc⟩:=zbm hc
    obtain ⟨zp,h5,hc⟩:=zbm hc
    obtain ⟨z,h6,hc⟩:=zbm hc
    split at hc
    ·obtain ⟨x',h7,rfl⟩:=zmm hc
     unfold execOp resolve;simp only [ho,oL,Sem.run_bind,Sem.run_pure,Result.andThen_ok,e1,e2]
     exact ZE (ty:=o.type) h (uR h3) h5 h6 h7 hE
    ·cases hc
   ·cases hc
  ·cases hc
 ·cases hc
end
end
section
open Go
def pF (v:Value):List Nat:=match blk v with
 | some b=>[b]
 | none=>[]
def jv (Fz:Nat → Prop) (w:World) (sz:Nat) (rows:List (List FV)) (v:Value) (bs:List Nat):Prop :=
 0 < sz ∧ ∃ e inner A c,v = .slice A rows.length c ∧ w.ownsRow 0 e sz v rows.length inner ∧ eD Fz w sz rows inner ∧ bs = pF v
def Ee (Fz:Nat → Prop) (w:World):CL → Value → List Nat → Prop
 | .f x,v,bs=>eY Fz w x v ∧ bs = []
 | .iU,v,bs=>v = .pointer none ∧ bs = []
 | .fA,v,bs=>v = .map none ∧ bs = []
 | .mp sh ents,v,bs=>∃ b,v = .map (some b) ∧ zP Fz w sh ents b ∧ bs = [b]
 | .own sz rows,v,bs=>jv Fz w sz rows v bs
def pU (Fz:Nat → Prop) (w:World):List CL → List Value → List Nat → Prop
 | [],[],bs=>bs = []
 | x :: xs,v :: vs,bs=>∃ b1 b2,Ee Fz w x v b1 ∧ pU Fz w xs vs b2 ∧ bs = b1 ++ b2
 | _,_,_=>False
def nD (Fz:Nat → Prop) (w:World):TV → Value → List Nat → Prop
 | .f x,v,bs=>eY Fz w x v ∧ bs = []
 | .iU,v,bs=>v = .pointer none ∧ bs = []
 | .fA,v,bs=>v = .map none ∧ bs = []
 | .ptr cs,v,bs=>∃ b vals e ms,v = .pointer (some ⟨b,0,none⟩) ∧ w.heap[b]? = some (.cells vals e (0,0)) ∧ pU Fz w cs vals.toList ms ∧ bs = b :: ms
 | .mp sh ents,v,bs=>∃ b,v = .map (some b) ∧ zP Fz w sh ents b ∧ bs = [b]
 | .own sz rows,v,bs=>jv Fz w sz rows v bs
 | .fp cs,v,bs=>eB Fz (fun _=>undef) w (.fp cs) v ∧ bs = []
 | .fn f cs,v,bs=>eB Fz (fun _=>undef) w (.fn f cs) v ∧ bs = []
 | .any,_,bs=>bs = []
def kS (Fz:Nat → Prop) (w:World):List TV → List Value → List Nat → Prop
 | [],[],bs=>bs = []
 | x :: xs,v :: vs,bs=>∃ b1 b2,nD Fz w x v b1 ∧ kS Fz w xs vs b2 ∧ bs = b1 ++ b2
 | _,_,_=>False
def oM (Fz:Nat → Prop) (w:World):AV → Value → List Nat → Prop
 | .one x,v,bs=>nD Fz w x v bs
 | .agg xs,v,bs=>∃ cs,v = .agg cs ∧ kS Fz w xs cs.toList bs
def fD (Fz:Nat → Prop) (w:World):List AV → List Value → List Nat → Prop
 | [],[],bs=>bs = []
 | x :: xs,v :: vs,bs=>∃ b1 b2,oM Fz w x v b1 ∧ fD Fz w xs vs b2 ∧ bs = b1 ++ b2
 | _,_,_=>False
section
variable {Fz bD:Nat → Prop} {w w':World}
theorem zP.mono {sh:KS} {ents:List (KV × FC)} {b:Nat} (hf:∀ b,Fz b → bD b) (hw:∀ b,Fz b → w'.heap[b]? = w.heap[b]?) (hb:w'.heap[b]? = w.heap[b]?) (h:zP Fz w sh ents b):zP bD w' sh ents b:=by
 obtain ⟨l,h1,h2,h3⟩:=h
 exact ⟨l,h1.move hb,iN.mono hf hw _ _ h2,h3⟩
theorem jv.mono (hf:∀ b,Fz b → bD b) (hw:∀ b,Fz b → w'.heap[b]? = w.heap[b]?) {sz:Nat} {rows:List (List FV)} {v:Value} {bs:List Nat} (hb:∀ b ∈ bs,w'.heap[b]? = w.heap[b]?) (h:jv Fz w sz rows v bs):jv bD w' sz rows v bs:=by
 obtain ⟨h0,e,inner,A,c,h1,h2,h3,h4⟩:=h
 refine ⟨h0,e,inner,A,c,h1,Ah h2 (fun k hk=>hb k ?_),eD.mono hf hw _ _ _ h3,h4⟩
 rw [h4,pF,BU hk]
 simp
theorem Ee.mono (hf:∀ b,Fz b → bD b) (hw:∀ b,Fz b → w'.heap[b]? = w.heap[b]?) {x:CL} {v:Value} {bs:List Nat} (hb:∀ b ∈ bs,w'.heap[b]? = w.heap[b]?) (h:Ee Fz w x v bs):Ee bD w' x v bs:=by
 cases x with
 | f x=>exact ⟨eY.mono hf hw x v h.1,h.2⟩
 | iU=>exact h
 | fA=>exact h
 | mp sh ents=>obtain ⟨b,h1,h2,rfl⟩:=h;exact ⟨b,h1,h2.mono hf hw (hb b (by simp)),rfl⟩
 | own sz rows=>exact jv.mono hf hw hb h
theorem pU.mono (hf:∀ b,Fz b → bD b) (hw:∀ b,Fz b → w'.heap[b]? = w.heap[b]?):∀ {xs:List CL} {vs:List Value} {bs:List Nat},(∀ b ∈ bs,w'.heap[b]? = w.heap[b]?) → pU Fz w xs vs bs → pU bD w' xs vs bs
 | [],[],_,_,h=>h
 | x :: xs,v :: vs,_,hb,⟨b1,b2,h1,h2,e⟩=>⟨b1,b2,h1.mono hf hw (fun b h=>hb b (by rw [e];simp [h])),pU.mono hf hw (fun b h=>hb b (by rw [e];simp [h])) h2,e⟩
 | [],_ :: _,_,_,h=>h.elim
 | _ :: _,[],_,_,h=>h.elim
theorem nD.mono (hf:∀ b,Fz b → bD b) (hw:∀ b,Fz b → w'.heap[b]? = w.heap[b]?) {x:TV} {v:Value} {bs:List Nat} (hb:∀ b ∈ bs,w'.heap[b]? = w.heap[b]?) (h:nD Fz w x v bs):nD bD w' x v bs:=by
 cases x with
 | f x=>exact ⟨eY.mono hf hw x v h.1,h.2⟩
 | iU=>exact h
 | fA=>exact h
 | ptr cs =>
  obtain ⟨b,vals,e,ms,h1,h2,h3,rfl⟩:=h
  exact ⟨b,vals,e,ms,h1,(hb b (by simp)).trans h2,h3.mono hf hw (fun b h=>hb b (by simp [h])),rfl⟩
 | mp sh ents=>obtain ⟨b,h1,h2,rfl⟩:=h;exact ⟨b,h1,h2.mono hf hw (hb b (by simp)),rfl⟩
 | own sz rows=>exact jv.mono hf hw hb h
 | fp cs=>exact ⟨eB.mono hf hw (fun _ _=>rfl) h.1,h.2⟩
 | fn f cs=>exact ⟨eB.mono hf hw (fun _ _=>rfl) h.1,h.2⟩
 | any=>exact h
theorem kS.mono (hf:∀ b,Fz b → bD b) (hw:∀ b,Fz b → w'.heap[b]? = w.heap[b]?):∀ {xs:List TV} {vs:List Value} {bs:List Nat},(∀ b ∈ bs,w'.heap[b]? = w.heap[b]?) → kS Fz w xs vs bs → kS bD w' xs vs bs
 | [],[],_,_,h=>h
 | x :: xs,v :: vs,_,hb,⟨b1,b2,h1,h2,e⟩=>⟨b1,b2,h1.mono hf hw (fun b h=>hb b (by rw [e];simp [h])),kS.mono hf hw (fun b h=>hb b (by rw [e];simp [h])) h2,e⟩
 | [],_ :: _,_,_,h=>h.elim
 | _ :: _,[],_,_,h=>h.elim
theorem oM.mono (hf:∀ b,Fz b → bD b) (hw:∀ b,Fz b → w'.heap[b]? = w.heap[b]?) {x:AV} {v:Value} {bs:List Nat} (hb:∀ b ∈ bs,w'.heap[b]? = w.heap[b]?) (h:oM Fz w x v bs):oM bD w' x v bs:=by
 cases x with
 | one x=>exact nD.mono hf hw hb h
 | agg xs=>obtain ⟨cs,rfl,h⟩:=h;exact ⟨cs,rfl,h.mono hf hw hb⟩
theorem fD.mono (hf:∀ b,Fz b → bD b) (hw:∀ b,Fz b → w'.heap[b]? = w.heap[b]?):∀ {xs:List AV} {vs:List Value} {bs:List Nat},(∀ b ∈ bs,w'.heap[b]? = w.heap[b]?) → fD Fz w xs vs bs → fD bD w' xs vs bs
 | [],[],_,_,h=>h
 | x :: xs,v :: vs,_,hb,⟨b1,b2,h1,h2,e⟩=>⟨b1,b2,h1.mono hf hw (fun b h=>hb b (by rw [e];simp [h])),fD.mono hf hw (fun b h=>hb b (by rw [e];simp [h])) h2,e⟩
 | [],_ :: _,_,_,h=>h.elim
 | _ :: _,[],_,_,h=>h.elim
end
structure bT (bn:Nat → Prop) (w0:World) (bg:List Nat) (N:Fr) (bs:List Nat) (Fz:Nat → Prop) (κ:Nat → Value) (σ:St) (a:Act) (w:World):Prop where
 rel:Rel bn w0 bg N Fz κ σ a w
 mh:bs.Nodup
 ap:∀ b ∈ bs,¬ Fz b ∧ b < w.heap.size ∧ (b ∈ bg ∨ w0.heap.size ≤ b) ∧ ∀ p ∈ σ.ob,blk (κ p.1) ≠ some b
section
variable {P : Program} {Γ:Env} {bn Fz bD:Nat → Prop} {w0 w w':World} {bg bs ZG:List Nat} {N:Fr} {d:Nat} {q:Bool} {κ eZ:Nat → Value} {σ σ1 σ':St} {a:Act} {pv:PV} {o:Oper}
theorem Rel.x (h:Rel bn w0 bg N Fz κ σ a w):bT bn w0 bg N [] Fz κ σ a w:=⟨h,akM,fun b hb=>by simp at hb⟩
theorem bT.take (h:bT bn w0 bg N bs Fz κ σ a w) {key b:Nat} {ob:Ob} (hk:get σ.ob key = some ob) (hb:blk (κ key) = some b):bT bn w0 bg N (b :: bs) Fz κ ⟨σ.tm,rem σ.ob key⟩ a w:=by
 have hkm:=get_mem hk
 have hp:=h.rel.pos _ hkm b hb
 refine ⟨h.rel.less (fun _ h=>h) (fun p hp=>(eU.mp hp).1),List.nodup_cons.mpr ⟨fun hb'=>(h.ap b hb').2.2.2 _ hkm hb,h.mh⟩,fun b' hb'=>?_⟩
 rcases ajr.mp hb' with rfl | hb'
 ·refine ⟨hp.1,hp.2.1,hp.2.2,fun p hp' e=>?_⟩
  obtain ⟨h1,h2⟩:=eU.mp hp'
  exact h.rel.uO p h1 _ hkm b' h2 e hb
 ·have:=h.ap b' hb'
  exact ⟨this.1,this.2.1,this.2.2.1,fun p hp'=>this.2.2.2 p (eU.mp hp').1⟩
theorem bT.Iq (h:bT bn w0 bg N bs Fz κ σ a w) {key sz:Nat} {rows:List (List FV)} (hk:get σ.ob key = some (.row sz rows)):bT bn w0 bg N (pF (κ key) ++ bs) Fz κ ⟨σ.tm,rem σ.ob key⟩ a w ∧ jv Fz w sz rows (κ key) (pF (κ key)):=by
 obtain ⟨o0,e,inner,A,c,o1,o2,o3⟩:=h.rel.obj hk
 refine ⟨?_,o0,e,inner,A,c,o1,o2,o3,rfl⟩
 cases hb:blk (κ key) with
 | some b=>simp only [pF,hb];exact h.take hk hb
 | none =>
  simp only [pF,hb,List.nil_append]
  exact ⟨h.rel.less (fun _ h=>h) (fun p hp=>(eU.mp hp).1),h.mh,fun b' hb'=>by
   have:=h.ap b' hb'
   exact ⟨this.1,this.2.1,this.2.2.1,fun p hp'=>this.2.2.2 p (eU.mp hp').1⟩⟩
theorem bT.perm (h:bT bn w0 bg N bs Fz κ σ a w) (hp:bs.Perm ZG):bT bn w0 bg N ZG Fz κ σ a w:=⟨h.rel,hp.nodup_iff.mp h.mh,fun b hb=>h.ap b (hp.mem_iff.mpr hb)⟩
theorem bT.zI (h:bT bn w0 bg N bs Fz κ σ a w) {key sz:Nat} {rows:List (List FV)} (hk:get σ.ob key = some (.row sz rows)) (hs:Ev.zI σ key = some σ'):∃ bD,bT bn w0 bg N bs bD κ σ' a w ∧ (∀ b,Fz b → bD b) ∧ (∀ b,blk (κ key) = some b → bD b) ∧ eY bD w (.sl rows) (κ key):=by
 have hs':=hs
 unfold Ev.zI at hs
 rw [hk] at hs
 cases hs
 have hkm:=get_mem hk
 obtain ⟨bD,g1,g2,g3,g4⟩:=h.rel.Zu hk
 refine ⟨bD,⟨g1,h.mh,fun b hb=>?_⟩,g2,fun b hb=>(g4 b).mpr (.inr hb),g3⟩
 have:=h.ap b hb
 refine ⟨fun hf=>?_,this.2.1,this.2.2.1,fun p hp=>?_⟩
 ·rcases (g4 b).mp hf with h1 | h1
  ·exact this.1 h1
  ·exact this.2.2.2 _ hkm h1
 ·obtain ⟨r,hr,rfl⟩:=ajx.mp hp
  exact this.2.2.2 r (eU.mp hr).1
theorem bT.vN (h:bT bn w0 bg N bs Fz κ σ a w) {x:PL} {y:FV} {v:Value} (hx:eB Fz κ w x v) (hs:Ev.vN σ x = some (y,σ')):∃ bD,bT bn w0 bg N bs bD κ σ' a w ∧ (∀ b,Fz b → bD b) ∧ eY bD w y v:=by
 cases x with
 | f x=>cases hs;exact ⟨Fz,h,fun _ h=>h,hx⟩
 | bY=>cases hs;exact ⟨Fz,h,fun _ h=>h,by simp only [eY];exact ⟨none,0,hx,ajd _,by simp,.inl trivial⟩⟩
 | own key n =>
  simp only [Ev.vN] at hs
  split at hs
  ·rename_i sz rows hk
   obtain ⟨s,h1,h2⟩:=zmm hs
   cases h2
   obtain ⟨bD,e1,e2,_,e3⟩:=h.zI hk h1
   exact ⟨bD,e1,e2,by rw [hx.1];exact e3⟩
  ·cases hs
 | _=>cases hs
theorem Vy (h:bT bn w0 bg N bs Fz κ σ a w) {x:PL} {y:CL} {v:Value} (hx:eB Fz κ w x v) (hs:JU σ x = some (y,σ')):∃ bD bx,bT bn w0 bg N (bx ++ bs) bD κ σ' a w ∧ (∀ b,Fz b → bD b) ∧ Ee bD w y v bx:=by
 cases x with
 | f x=>cases hs;exact ⟨Fz,[],h,fun _ h=>h,hx,rfl⟩
 | bY=>cases hs;exact ⟨Fz,[],h,fun _ h=>h,by simp only [eY];exact ⟨none,0,hx,ajd _,by simp,.inl trivial⟩,rfl⟩
 | iU=>cases hs;exact ⟨Fz,[],h,fun _ h=>h,hx,rfl⟩
 | fA=>cases hs;exact ⟨Fz,[],h,fun _ h=>h,hx,rfl⟩
 | own key n =>
  simp only [JU] at hs
  split at hs
  ·rename_i sz rows fZ
   cases hs
   obtain ⟨g1,g2⟩:=h.Iq fZ
   exact ⟨Fz,_,g1,fun _ h=>h,by rw [hx.1];exact g2⟩
  ·cases hs
 | mp key =>
  simp only [JU] at hs
  split at hs
  ·rename_i sh ents fZ
   cases hs
   obtain ⟨b,h1,h2⟩:=h.rel.obj fZ
   exact ⟨Fz,[b],h.take fZ (by rw [h1];rfl),fun _ h=>h,b,by rw [hx.1,h1],h2,rfl⟩
  ·cases hs
 | _=>cases hs
theorem Co : ∀ {xs:List PL} {ys:List CL} {vs:List Value} {bs:List Nat} {Fz:Nat → Prop} {σ σ':St},bT bn w0 bg N bs Fz κ σ a w → aT Fz κ w xs vs → zM σ xs = some (ys,σ') → ∃ bD bx,bT bn w0 bg N (bx ++ bs) bD κ σ' a w ∧ (∀ b,Fz b → bD b) ∧ pU bD w ys vs bx
 | [],ys,[],bs,Fz,σ,σ',h,_,hs=>by cases hs;exact ⟨Fz,[],h,fun _ h=>h,rfl⟩
 | x :: xs,ys,v :: vs,bs,Fz,σ,σ',h,hx,hs=>by
  obtain ⟨p,h1,h2⟩:=zbm hs
  obtain ⟨r,h3,h4⟩:=zmm h2
  cases h4
  obtain ⟨F1,b1,e1,e2,e3⟩:=Vy h hx.1 h1
  obtain ⟨F2,b2,e4,e5,e6⟩:=Co e1 (aT.mono e2 (fun _ _=>rfl) xs (fun _ _=>rfl) vs hx.2) h3
  refine ⟨F2,b1 ++ b2,e4.perm ?_,fun b hb=>e5 b (e2 b hb),b1,b2,e3.mono e5 (fun _ _=>rfl) (fun _ _=>rfl),e6,rfl⟩
  rw [← ajW]
  exact List.perm_append_comm.append_right bs
 | [],_,_ :: _,_,_,_,_,_,h,_=>h.elim
 | _ :: _,_,[],_,_,_,_,_,h,_=>h.elim
def tu (gv:Bool) (κ:Nat → Value) (xs:List PL) (b:Nat):Prop:=gv = false ∧ ∃ key n,PL.own key n ∈ xs ∧ blk (κ key) = some b
theorem Gj {gv:Bool} (h:bT bn w0 bg N bs Fz κ σ a w) {x:PL} {y:TV} {v:Value} (hx:eB Fz κ w x v) (hs:rT gv σ x = some (y,σ')):∃ bD bx,bT bn w0 bg N (bx ++ bs) bD κ σ' a w ∧ (∀ b,Fz b → bD b) ∧ nD (fun b=>bD b ∨ tu gv κ [x] b) w y v bx:=by
 have hor:∀ {F:Nat → Prop} b,F b → F b ∨ tu gv κ [x] b:=fun b h=>.inl h
 cases x with
 | f x=>cases hs;exact ⟨Fz,[],h,fun _ h=>h,eY.mono hor (fun _ _=>rfl) x v hx,rfl⟩
 | bY=>cases hs;exact ⟨Fz,[],h,fun _ h=>h,by simp only [eY];exact ⟨none,0,hx,ajd _,by simp,.inl trivial⟩,rfl⟩
 | iU=>cases hs;exact ⟨Fz,[],h,fun _ h=>h,hx,rfl⟩
 | fA=>cases hs;exact ⟨Fz,[],h,fun _ h=>h,hx,rfl⟩
 | own key n =>
  simp only [rT] at hs
  split at hs
  ·rename_i sz rows fZ
   split at hs
   ·cases hs
    obtain ⟨g1,g2⟩:=h.Iq fZ
    exact ⟨Fz,_,g1,fun _ h=>h,by rw [hx.1];exact g2.mono hor (fun _ _=>rfl) (fun _ _=>rfl)⟩
   ·rename_i hg
    cases hs
    refine ⟨Fz,[],h,fun _ h=>h,?_,rfl⟩
    rw [hx.1]
    exact rV hor (fun b hb=>.inr ⟨by simpa using hg,key,n,by simp,hb⟩) (h.rel.obj fZ)
  ·cases hs
 | fp cs=>cases hs;exact ⟨Fz,[],h,fun _ h=>h,eB.mono (κ:=κ) (eZ:=fun _=>undef) hor (fun _ _=>rfl) (fun k hk=>by cases hk) hx,rfl⟩
 | fn f cs=>cases hs;exact ⟨Fz,[],h,fun _ h=>h,eB.mono (κ:=κ) (eZ:=fun _=>undef) hor (fun _ _=>rfl) (fun k hk=>by cases hk) hx,rfl⟩
 | mp key =>
  simp only [rT] at hs
  split at hs
  ·rename_i sh ents fZ
   cases hs
   obtain ⟨b,h1,h2⟩:=h.rel.obj fZ
   exact ⟨Fz,[b],h.take fZ (by rw [h1];rfl),fun _ h=>h,b,by rw [hx.1,h1],h2.mono hor (fun _ _=>rfl) rfl,rfl⟩
  ·cases hs
 | ptr key off =>
  cases off with
  | succ n=>cases hs
  | zero =>
   simp only [rT] at hs
   split at hs
   ·rename_i xs fZ
    obtain ⟨p,h1,h2⟩:=zmm hs
    cases h2
    obtain ⟨b,cs,e,g1,g2,g3⟩:=h.rel.obj fZ
    obtain ⟨b',g4,g5⟩:=hx
    rw [g1] at g4
    cases g4
    obtain ⟨F1,bx,e1,e2,e3⟩:=Co (h.take fZ (by rw [g1];rfl)) g3 h1
    refine ⟨F1,b :: bx,e1.perm ?_,e2,b,cs,e,bx,g5,g2,e3.mono hor (fun _ _=>rfl) (fun _ _=>rfl),rfl⟩
    exact List.perm_middle
   ·cases hs
 | _=>cases hs
theorem Ir {gv:Bool}:∀ {xs:List PL} {ys:List TV} {vs:List Value} {bs:List Nat} {Fz:Nat → Prop} {σ σ':St},bT bn w0 bg N bs Fz κ σ a w → aT Fz κ w xs vs → rU gv σ xs = some (ys,σ') → ∃ bD bx,bT bn w0 bg N (bx ++ bs) bD κ σ' a w ∧ (∀ b,Fz b → bD b) ∧ kS (fun b=>bD b ∨ tu gv κ xs b) w ys vs bx
 | [],ys,[],bs,Fz,σ,σ',h,_,hs=>by cases hs;exact ⟨Fz,[],h,fun _ h=>h,rfl⟩
 | x :: xs,ys,v :: vs,bs,Fz,σ,σ',h,hx,hs=>by
  obtain ⟨p,h1,h2⟩:=zbm hs
  obtain ⟨r,h3,h4⟩:=zmm h2
  cases h4
  obtain ⟨F1,b1,e1,e2,e3⟩:=Gj h hx.1 h1
  obtain ⟨F2,b2,e4,e5,e6⟩:=Ir e1 (aT.mono e2 (fun _ _=>rfl) xs (fun _ _=>rfl) vs hx.2) h3
  refine ⟨F2,b1 ++ b2,e4.perm ?_,fun b hb=>e5 b (e2 b hb),b1,b2,e3.mono (fun b hb=>?_) (fun _ _=>rfl) (fun _ _=>rfl),e6.mono (fun b hb=>?_) (fun _ _=>rfl) (fun _ _=>rfl),rfl⟩
  ·rw [← ajW]
   exact List.perm_append_comm.append_right bs
  ·rcases hb with hb | ⟨hg,k,n,hm,hb⟩
   ·exact .inl (e5 b hb)
   ·exact .inr ⟨hg,k,n,by simp at hm;simp [hm],hb⟩
  ·rcases hb with hb | ⟨hg,k,n,hm,hb⟩
   ·exact .inl hb
   ·exact .inr ⟨hg,k,n,by simp [hm],hb⟩
 | [],_,_ :: _,_,_,_,_,_,h,_=>h.elim
 | _ :: _,_,[],_,_,_,_,_,h,_=>h.elim
theorem Md {gv:Bool} (h:bT bn w0 bg N bs Fz κ σ a w) {x:CV} {y:AV} {v:Value} (hx:fV Fz κ w x v) (hs:Lg gv σ x = some (y,σ')):∃ bD bx,bT bn w0 bg N (bx ++ bs) bD κ σ' a w ∧ (∀ b,Fz b → bD b) ∧ oM (fun b=>bD b ∨ tu gv κ (Ev.cells x) b) w y v bx:=by
 cases x with
 | one x =>
  obtain ⟨p,h1,h2⟩:=zmm hs
  cases h2
  exact Gj h hx h1
 | agg xs =>
  obtain ⟨p,h1,h2⟩:=zmm hs
  cases h2
  obtain ⟨cs,rfl,hx⟩:=hx
  obtain ⟨F1,b1,e1,e2,e3⟩:=Ir h hx h1
  exact ⟨F1,b1,e1,e2,cs,rfl,e3⟩
theorem Cq {gv:Bool}:∀ {xs:List CV} {ys:List AV} {vs:List Value} {bs:List Nat} {Fz:Nat → Prop} {σ σ':St},bT bn w0 bg N bs Fz κ σ a w → dO Fz κ w xs vs → sI gv σ xs = some (ys,σ') → ∃ bD bx,bT bn w0 bg N (bx ++ bs) bD κ σ' a w ∧ (∀ b,Fz b → bD b) ∧ fD (fun b=>bD b ∨ tu gv κ (xs.flatMap Ev.cells) b) w ys vs bx
 | [],ys,[],bs,Fz,σ,σ',h,_,hs=>by cases hs;exact ⟨Fz,[],h,fun _ h=>h,rfl⟩
 | x :: xs,ys,v :: vs,bs,Fz,σ,σ',h,hx,hs=>by
  obtain ⟨p,h1,h2⟩:=zbm hs
  obtain ⟨r,h3,h4⟩:=zmm h2
  cases h4
  obtain ⟨F1,b1,e1,e2,e3⟩:=Md h hx.1 h1
  obtain ⟨F2,b2,e4,e5,e6⟩:=Cq e1 (dO.mono e2 (fun _ _=>rfl) xs (fun _ _=>rfl) vs hx.2) h3
  refine ⟨F2,b1 ++ b2,e4.perm ?_,fun b hb=>e5 b (e2 b hb),b1,b2,e3.mono (fun b hb=>?_) (fun _ _=>rfl) (fun _ _=>rfl),e6.mono (fun b hb=>?_) (fun _ _=>rfl) (fun _ _=>rfl),rfl⟩
  ·rw [← ajW]
   exact List.perm_append_comm.append_right bs
  ·rcases hb with hb | ⟨hg,k,n,hm,hb⟩
   ·exact .inl (e5 b hb)
   ·exact .inr ⟨hg,k,n,by simp [hm],hb⟩
  ·rcases hb with hb | ⟨hg,k,n,hm,hb⟩
   ·exact .inl hb
   ·exact .inr ⟨hg,k,n,by rw [akN];exact List.mem_append_right _ hm,hb⟩
 | [],_,_ :: _,_,_,_,_,_,h,_=>h.elim
 | _ :: _,_,[],_,_,_,_,_,h,_=>h.elim
theorem Cr : ∀ {xs:List PL} {Fz:Nat → Prop} {σ σ':St},bT bn w0 bg N bs Fz κ σ a w → xH σ xs = some σ' → ∃ bD,bT bn w0 bg N bs bD κ σ' a w ∧ (∀ b,Fz b → bD b) ∧ ∀ b,tu false κ xs b → bD b
 | [],Fz,σ,σ',h,hs=>by cases hs;exact ⟨Fz,h,fun _ h=>h,fun b ⟨_,k,n,hm,_⟩=>by simp at hm⟩
 | x :: xs,Fz,σ,σ',h,hs=>by
  have other:(∀ k n,x ≠ .own k n) → xH σ xs = some σ' → ∃ bD,bT bn w0 bg N bs bD κ σ' a w ∧ (∀ b,Fz b → bD b) ∧ ∀ b,tu false κ (x :: xs) b → bD b:=by
   intro hx hs
   obtain ⟨F1,e1,e2,e3⟩:=Cr h hs
   refine ⟨F1,e1,e2,fun b ⟨_,k,n,hm,hb⟩=>e3 b ⟨rfl,k,n,?_,hb⟩⟩
   rcases ajr.mp hm with h | h
   ·exact absurd h.symm (hx k n)
   ·exact h
  cases x with
  | own key n =>
   simp only [xH] at hs
   obtain ⟨s,h1,h2⟩:=zbm hs
   have hrow:∃ sz rows,get σ.ob key = some (.row sz rows):=by
    unfold Ev.zI at h1
    split at h1
    ·exact ⟨_,_,by assumption⟩
    ·cases h1
   obtain ⟨sz,rows,hk⟩:=hrow
   obtain ⟨F1,e1,e2,e3,_⟩:=h.zI hk h1
   obtain ⟨F2,e4,e5,e6⟩:=Cr e1 h2
   refine ⟨F2,e4,fun b hb=>e5 b (e2 b hb),fun b ⟨_,k,n,hm,hb⟩=>?_⟩
   rcases ajr.mp hm with h | h
   ·cases h;exact e5 b (e3 b hb)
   ·exact e6 b ⟨rfl,k,n,h,hb⟩
  | _=>exact other (fun _ _ h=>by cases h) hs
theorem Ef : ∀ {xs:List CV} {Fz:Nat → Prop} {σ σ':St},bT bn w0 bg N bs Fz κ σ a w → sJ σ xs = some σ' → ∃ bD,bT bn w0 bg N bs bD κ σ' a w ∧ (∀ b,Fz b → bD b) ∧ ∀ b,tu false κ (xs.flatMap Ev.cells) b → bD b
 | [],Fz,σ,σ',h,hs=>by cases hs;exact ⟨Fz,h,fun _ h=>h,fun b ⟨_,k,n,hm,_⟩=>by simp at hm⟩
 | x :: xs,Fz,σ,σ',h,hs=>by
  obtain ⟨s,h1,h2⟩:=zbm hs
  obtain ⟨F1,e1,e2,e3⟩:=Cr h h1
  obtain ⟨F2,e4,e5,e6⟩:=Ef e1 h2
  refine ⟨F2,e4,fun b hb=>e5 b (e2 b hb),fun b ⟨_,k,n,hm,hb⟩=>?_⟩
  rw [akN] at hm
  rcases ajE.mp hm with h | h
  ·exact e5 b (e3 b ⟨rfl,k,n,h,hb⟩)
  ·exact e6 b ⟨rfl,k,n,h,hb⟩
end
end
section
open Go
section
variable {P : Program} {Γ:Env} {bn Fz bD:Nat → Prop} {w0 w w':World} {bg bs ZG:List Nat} {N:Fr} {d:Nat} {q:Bool} {κ eZ:Nat → Value} {σ σ1 σ':St} {a:Act} {pv:PV} {o:Oper}
theorem bT.give {b:Nat} (h:bT bn w0 bg N (b :: bs) Fz κ σ a w) {key:Nat} {ob:Ob} {v:Value} (hn:new σ key ob = some σ') (hv:blk v = some b) (ho:iO 0 Fz (pJ κ key v) w key ob):bT bn w0 bg N bs Fz (pJ κ key v) σ' a w:=by
 have hb:=h.ap b (by simp)
 unfold Ev.new Yf at hn
 split at hn
 ·cases hn
 ·rename_i hm
  simp only [Option.map_some,ajl] at hn
  subst hn
  have hm':∀ p ∈ rem σ.ob key,mG key p.2 = false:=by
   intro p hp
   cases he:mG key p.2 with
   | false=>rfl
   | true=>exact absurd (aj8.mpr ⟨p,hp,he⟩) hm
  refine ⟨⟨fun p hp=>?_,h.rel.sz,h.rel.mh,h.rel.fs,fun p hp=>?_,fun p hp r hr b' hne hb1 hb2=>?_,fun p hp b' hb1=>?_,h.rel.fz,h.rel.zJ,h.rel.big,h.rel.ext,h.rel.kp⟩,(List.nodup_cons.mp h.mh).2,fun b' hb'=>?_⟩
  ·obtain ⟨h1,h2⟩:=akB.mp hp
   refine iK.mono (fun _ h=>h) (fun b hb'=>rfl) (fun k hk=>eF ?_ v) (h.rel.tm p h1)
   rintro rfl
   rw [hk] at h2;cases h2
  ·rcases ajr.mp hp with rfl | hp
   ·exact ho
   ·obtain ⟨h1,h2⟩:=eU.mp hp
    refine iO.mono (fun _ h=>h) (fun b hb'=>rfl) (fun k hk=>eF ?_ v) (fun b hb'=>rfl) (h.rel.ob p h1)
    rintro rfl
    rcases hk with hk | hk
    ·exact h2 hk.symm
    ·rw [hm' p hp] at hk;cases hk
  ·rcases ajr.mp hp with rfl | hp <;> rcases ajr.mp hr with rfl | hr
   ·exact hne rfl
   ·obtain ⟨h1,h2⟩:=eU.mp hr
    rw [bO,hv] at hb1
    cases hb1
    rw [eF h2] at hb2
    exact hb.2.2.2 r h1 hb2
   ·obtain ⟨h1,h2⟩:=eU.mp hp
    simp only [bO] at hb2
    rw [hv] at hb2
    cases hb2
    rw [eF h2] at hb1
    exact hb.2.2.2 p h1 hb1
   ·obtain ⟨h1,h2⟩:=eU.mp hp
    obtain ⟨h3,h4⟩:=eU.mp hr
    rw [eF h2] at hb1
    rw [eF h4] at hb2
    exact h.rel.uO p h1 r h3 b' hne hb1 hb2
  ·rcases ajr.mp hp with rfl | hp
   ·simp only [bO] at hb1
    rw [hv] at hb1
    cases hb1
    exact ⟨hb.1,hb.2.1,hb.2.2.1⟩
   ·obtain ⟨h1,h2⟩:=eU.mp hp
    rw [eF h2] at hb1
    exact h.rel.pos p h1 b' hb1
  ·have hx:=h.ap b' (ajY _ hb')
   refine ⟨hx.1,hx.2.1,hx.2.2.1,fun p hp=>?_⟩
   rcases ajr.mp hp with rfl | hp
   ·simp only [bO]
    rw [hv]
    intro e
    cases e
    exact (List.nodup_cons.mp h.mh).1 hb'
   ·obtain ⟨h1,h2⟩:=eU.mp hp
    rw [eF h2]
    exact hx.2.2.2 p h1
theorem bT.back {b:Nat} (h:bT bn w0 bg N (b :: bs) Fz κ σ a w) {key:Nat} {ob:Ob} (hv:blk (κ key) = some b) (ho:iO 0 Fz κ w key ob):bT bn w0 bg N bs Fz κ (jA σ key ob) a w:=by
 have hb:=h.ap b (by simp)
 refine ⟨⟨h.rel.tm,h.rel.sz,h.rel.mh,h.rel.fs,fun p hp=>?_,fun p hp r hr b' hne hb1 hb2=>?_,fun p hp b' hb1=>?_,h.rel.fz,h.rel.zJ,h.rel.big,h.rel.ext,h.rel.kp⟩,(List.nodup_cons.mp h.mh).2,fun b' hb'=>?_⟩
 ·rcases iH hp with rfl | ⟨hp,_⟩
  ·exact ho
  ·exact h.rel.ob p hp
 ·rcases iH hp with rfl | ⟨hp,_⟩ <;> rcases iH hr with rfl | ⟨hr,_⟩
  ·exact hne rfl
  ·rw [hv] at hb1;cases hb1
   exact hb.2.2.2 r hr hb2
  ·simp only [hv] at hb2;cases hb2
   exact hb.2.2.2 p hp hb1
  ·exact h.rel.uO p hp r hr b' hne hb1 hb2
 ·rcases iH hp with rfl | ⟨hp,_⟩
  ·simp only [hv] at hb1;cases hb1
   exact ⟨hb.1,hb.2.1,hb.2.2.1⟩
  ·exact h.rel.pos p hp b' hb1
 ·have hx:=h.ap b' (ajY _ hb')
  refine ⟨hx.1,hx.2.1,hx.2.2.1,fun p hp=>?_⟩
  rcases iH hp with rfl | ⟨hp,_⟩
  ·simp only [hv]
   intro e
   cases e
   exact (List.nodup_cons.mp h.mh).1 hb'
  ·exact hx.2.2.2 p hp
theorem Ct {key:Nat} {v:Value} {pend:List PL} {jK:List Value} (hp:aT Fz κ w pend jK) (hm:¬ pend.any (d9 key) = true):aT Fz (pJ κ key v) w pend jK :=
 aT.mono (fun _ h=>h) (fun _ _=>rfl) pend (fun k hk=>eF (fun e=>by subst e;exact hm hk) v) jK hp
theorem bT.Iu {b:Nat} (h:bT bn w0 bg N (b :: bs) Fz κ σ a w) {key:Nat} {ob:Ob} {v:Value} {pend:List PL} {jK:List Value} (hp:aT Fz κ w pend jK) (hn:newP pend σ key ob = some σ') (hv:blk v = some b) (ho:iO 0 Fz (pJ κ key v) w key ob) :
  bT bn w0 bg N bs Fz (pJ κ key v) σ' a w ∧ aT Fz (pJ κ key v) w pend jK:=by
 unfold newP at hn
 split at hn
 ·cases hn
 ·rename_i hm
  exact ⟨h.give hn hv ho,Ct hp hm⟩
theorem zP.ofMap {sh:KS} {ents:List (KV × FC)} {b key:Nat} {B:Nat} {v:Value} (hv:v = .map (some b)) (h:zP Fz w sh ents b):iO B Fz (pJ κ key v) w key (.map sh ents):=⟨b,by rw [bO,hv],h⟩
theorem jv.row {sz key:Nat} {rows:List (List FV)} {v:Value} {bx:List Nat} {B:Nat} (hB:B = 0) (h:jv Fz w sz rows v bx):iO B Fz (pJ κ key v) w key (.row sz rows):=by
 subst hB
 obtain ⟨h0,e,inner,A,c,h1,h2,h3,_⟩:=h
 exact ⟨h0,e,inner,A,c,by rw [bO];exact h1,by rw [bO];exact h2,h3⟩
theorem bT.Me {v:Value} {sz:Nat} {rows:List (List FV)} {bx:List Nat} (h:bT bn w0 bg N (bx ++ bs) Fz κ σ a w) {key:Nat} {pend:List PL} {jK:List Value} (hp:aT Fz κ w pend jK) (hn:newP pend σ key (.row sz rows) = some σ') (ho:jv Fz w sz rows v bx) :
  bT bn w0 bg N bs Fz (pJ κ key v) σ' a w ∧ aT Fz (pJ κ key v) w pend jK ∧ eB Fz (pJ κ key v) w (.own key rows.length) v:=by
 have hrow:=jv.row (κ:=κ) (key:=key) (B:=0) rfl ho
 have hbx:bx = pF v:=ho.2.choose_spec.choose_spec.choose_spec.choose_spec.2.2.2
 have hval:eB Fz (pJ κ key v) w (.own key rows.length) v:=by
  obtain ⟨h0,e,inner,A,c,h1,_⟩:=ho
  exact ⟨by rw [bO],A,c,h1⟩
 subst hbx
 cases hb:blk v with
 | some b =>
  simp only [pF,hb] at h
  obtain ⟨g1,g2⟩:=bT.Iu (b:=b) (v:=v) h hp hn hb hrow
  exact ⟨g1,g2,hval⟩
 | none =>
  simp only [pF,hb,List.nil_append] at h
  unfold newP at hn
  split at hn
  ·cases hn
  ·rename_i hm
   refine ⟨⟨h.rel.new hn (ajd _) (fun _ _=>rfl) (fun b hb'=>by rw [hb] at hb';cases hb') ⟨rfl,rfl⟩ hrow,h.mh,fun b' hb'=>?_⟩,Ct hp hm,hval⟩
   have hx:=h.ap b' hb'
   refine ⟨hx.1,hx.2.1,hx.2.2.1,fun p hp'=>?_⟩
   unfold Ev.new Yf at hn
   split at hn
   ·cases hn
   ·simp only [Option.map_some,ajl] at hn
    subst hn
    rcases ajr.mp hp' with rfl | hp'
    ·simp only [bO];rw [hb];intro e;cases e
    ·obtain ⟨h1,h2⟩:=eU.mp hp'
     rw [eF h2]
     exact hx.2.2.2 p h1
theorem bT.ZH {key:Nat} {ob:Ob} (h:bT bn w0 bg N (pF (κ key) ++ bs) Fz κ σ a w) (ho:iO 0 Fz κ w key ob):bT bn w0 bg N bs Fz κ (jA σ key ob) a w:=by
 cases hb:blk (κ key) with
 | some b=>simp only [pF,hb] at h;exact h.back hb ho
 | none =>
  simp only [pF,hb,List.nil_append] at h
  refine ⟨⟨h.rel.tm,h.rel.sz,h.rel.mh,h.rel.fs,fun p hp=>?_,fun p hp r hr b' hne hb1 hb2=>?_,fun p hp b' hb1=>?_,h.rel.fz,h.rel.zJ,h.rel.big,h.rel.ext,h.rel.kp⟩,h.mh,fun b' hb'=>?_⟩
  ·rcases iH hp with rfl | ⟨hp,_⟩
   ·exact ho
   ·exact h.rel.ob p hp
  ·rcases iH hp with rfl | ⟨hp,_⟩ <;> rcases iH hr with rfl | ⟨hr,_⟩
   ·exact hne rfl
   ·rw [hb] at hb1;cases hb1
   ·simp only [hb] at hb2;cases hb2
   ·exact h.rel.uO p hp r hr b' hne hb1 hb2
  ·rcases iH hp with rfl | ⟨hp,_⟩
   ·simp only [hb] at hb1;cases hb1
   ·exact h.rel.pos p hp b' hb1
  ·have:=h.ap b' hb'
   refine ⟨this.1,this.2.1,this.2.2.1,fun p hp=>?_⟩
   rcases iH hp with rfl | ⟨hp,_⟩
   ·simp only [hb];exact fun e=>by cases e
   ·exact this.2.2.2 p hp
theorem tC {Kp:Nat → Prop} {kf:Nat → Nat} (hk2:∀ k,Kp k → Kp (k + k % 2)) (Vz:∀ c,Kp (kf c)):∀ {xs:List CL} {vs:List Value} {bx bs:List Nat} {c:Nat} {pend l:List PL} {jK:List Value} {κ:Nat → Value} {σ σ':St},bT bn w0 bg N (bx ++ bs) Fz κ σ a w → pU Fz w xs vs bx → aT Fz κ w pend jK → qR kf c pend σ xs = some (l,σ') →
  ∃ eZ,bT bn w0 bg N bs Fz eZ σ' a w ∧ aT Fz eZ w l vs ∧ aT Fz eZ w pend jK ∧ ∀ k,¬ Kp k → eZ k = κ k
 | [],[],bx,bs,c,pend,l,jK,κ,σ,σ',h,hx,hp,hs=>by
  cases hs
  cases hx
  exact ⟨κ,h,trivial,hp,fun _ _=>rfl⟩
 | [],_ :: _,_,_,_,_,_,_,_,_,_,_,hx,_,_=>hx.elim
 | _ :: _,[],_,_,_,_,_,_,_,_,_,_,hx,_,_=>hx.elim
 | x :: xs,v :: vs,bx,bs,c,pend,l,jK,κ,σ,σ',h,hx,hp,hs=>by
  obtain ⟨b1,b2,h1,h2,rfl⟩:=hx
  have quiet:∀ (y:PL),eB Fz κ w y v → b1 = [] → ((qR kf (c + 1) (y :: pend) σ xs).map fun p=>(y :: p.1,p.2)) = some (l,σ') → ∃ eZ,bT bn w0 bg N bs Fz eZ σ' a w ∧ aT Fz eZ w l (v :: vs) ∧ aT Fz eZ w pend jK ∧ ∀ k,¬ Kp k → eZ k = κ k:=by
   intro y hy hb hs
   subst hb
   obtain ⟨p,h3,h4⟩:=zmm hs
   cases h4
   obtain ⟨eZ,e1,e2,e3,e4⟩:=tC hk2 Vz h h2 (show aT Fz κ w (y :: pend) (v :: jK) from ⟨hy,hp⟩) h3
   exact ⟨eZ,e1,⟨e3.1,e2⟩,e3.2,e4⟩
  cases x with
  | f x=>exact quiet (.f x) h1.1 h1.2 hs
  | iU=>exact quiet .iU h1.1 h1.2 hs
  | fA=>exact quiet .fA h1.1 h1.2 hs
  | mp sh ents =>
   obtain ⟨b,hv,hM,rfl⟩:=h1
   obtain ⟨s,h3,h4⟩:=zbm hs
   obtain ⟨p,h5,h6⟩:=zmm h4
   cases h6
   obtain ⟨g1,g2⟩:=bT.Iu (bs:=b2 ++ bs) (b:=b) (v:=v) (by simpa using h) hp h3 (by rw [hv];rfl) (zP.ofMap hv hM)
   obtain ⟨eZ,e1,e2,e3,e4⟩:=tC hk2 Vz g1 h2 (show aT Fz (pJ κ (kf c) v) w (.mp (kf c) :: pend) (v :: jK) from ⟨⟨by rw [bO],b,hv⟩,g2⟩) h5
   exact ⟨eZ,e1,⟨e3.1,e2⟩,e3.2,fun k hk=>(e4 k hk).trans (eF (fun (e:k = kf c)=>hk (by rw [e];exact Vz c)) v)⟩
  | own sz rows =>
   obtain ⟨s,h3,h4⟩:=zbm hs
   obtain ⟨p,h5,h6⟩:=zmm h4
   cases h6
   obtain ⟨g1,g2,g3⟩:=bT.Me (bs:=b2 ++ bs) (bx:=b1) (by rw [← ajW];exact h) hp h3 h1
   obtain ⟨eZ,e1,e2,e3,e4⟩:=tC hk2 Vz g1 h2 (show aT Fz (pJ κ (kf c + kf c % 2) v) w (.own (kf c + kf c % 2) rows.length :: pend) (v :: jK) from ⟨g3,g2⟩) h5
   exact ⟨eZ,e1,⟨e3.1,e2⟩,e3.2,fun k hk=>(e4 k hk).trans (eF (fun (e:k = kf c + kf c % 2)=>hk (by rw [e];exact hk2 _ (Vz c))) v)⟩
theorem Mf {Kp:Nat → Prop} {key:Nat} (hk2:∀ k,Kp k → Kp (k + k % 2)) (hk:Kp key) (Vz:∀ c,Kp (PZ key c)) {x:TV} {v:Value} {bx:List Nat} {pend:List PL} {l:PL} {jK:List Value} (h:bT bn w0 bg N (bx ++ bs) Fz κ σ a w) (hx:nD Fz w x v bx) (hp:aT Fz κ w pend jK) (hs:DR key pend σ x = some (l,σ')) :
  ∃ eZ,bT bn w0 bg N bs Fz eZ σ' a w ∧ eB Fz eZ w l v ∧ aT Fz eZ w pend jK ∧ ∀ k,¬ Kp k → eZ k = κ k:=by
 cases x with
 | f x=>cases hs;obtain ⟨h1,rfl⟩:=hx;exact ⟨κ,h,h1,hp,fun _ _=>rfl⟩
 | iU=>cases hs;obtain ⟨h1,rfl⟩:=hx;exact ⟨κ,h,h1,hp,fun _ _=>rfl⟩
 | fA=>cases hs;obtain ⟨h1,rfl⟩:=hx;exact ⟨κ,h,h1,hp,fun _ _=>rfl⟩
 | mp sh ents =>
  obtain ⟨s,h3,h4⟩:=zmm hs
  cases h4
  obtain ⟨b,hv,hM,rfl⟩:=hx
  obtain ⟨g1,g2⟩:=bT.Iu (bs:=bs) (b:=b) (v:=v) h hp h3 (by rw [hv];rfl) (zP.ofMap hv hM)
  exact ⟨_,g1,⟨by rw [bO],b,hv⟩,g2,fun k hk'=>eF (fun (e:k = key)=>hk' (by rw [e];exact hk)) v⟩
 | own sz rows =>
  obtain ⟨s,h3,h4⟩:=zmm hs
  cases h4
  obtain ⟨g1,g2,g3⟩:=bT.Me (bs:=bs) (bx:=bx) h hp h3 hx
  exact ⟨_,g1,g3,g2,fun k hk'=>eF (fun (e:k = ow key)=>hk' (by rw [e];unfold ow;split;exact hk2 _ hk;exact hk)) v⟩
 | fp cs=>cases hs;obtain ⟨h1,rfl⟩:=hx;exact ⟨κ,h,eB.mono (eZ:=κ) (fun _ h=>h) (fun _ _=>rfl) (fun k hk=>by cases hk) h1,hp,fun _ _=>rfl⟩
 | fn f cs=>cases hs;obtain ⟨h1,rfl⟩:=hx;exact ⟨κ,h,eB.mono (eZ:=κ) (fun _ h=>h) (fun _ _=>rfl) (fun k hk=>by cases hk) h1,hp,fun _ _=>rfl⟩
 | any=>cases hs;cases hx;exact ⟨κ,h,trivial,hp,fun _ _=>rfl⟩
 | ptr cs =>
  obtain ⟨p,h3,h4⟩:=zbm hs
  split at h4
  ·cases h4
  ·rename_i hm
   obtain ⟨s,h5,h6⟩:=zmm h4
   cases h6
   obtain ⟨b,vals,e,ms,hv,hh,hcs,rfl⟩:=hx
   obtain ⟨zS,e1,e2,e3,e4⟩:=tC hk2 Vz (bs:=b :: bs) (h.perm (by simpa using (List.perm_middle (l₁:=ms) (l₂:=bs) (a:=b)).symm)) hcs hp h3
   obtain ⟨g1,g2⟩:=bT.Iu (bs:=bs) (b:=b) (v:=v) e1 e3 h5 (by rw [hv];rfl) ⟨b,vals,e,by rw [bO,hv],hh,Ct e2 hm⟩
   exact ⟨_,g1,⟨b,by rw [bO,hv],hv⟩,g2,fun k hk'=>(eF (fun (e:k = key)=>hk' (by rw [e];exact hk)) v).trans (e4 k hk')⟩
theorem Iw {Kp:Nat → Prop} {base:Nat} (hk2:∀ k,Kp k → Kp (k + k % 2)) (hK:∀ k c,Kp k → Kp (k + 2 * c)) (hb:Kp base):∀ {xs:List TV} {vs:List Value} {bx bs:List Nat} {j:Nat} {pend l:List PL} {jK:List Value} {κ:Nat → Value} {σ σ':St},bT bn w0 bg N (bx ++ bs) Fz κ σ a w → kS Fz w xs vs bx → aT Fz κ w pend jK → xE base j pend σ xs = some (l,σ') →
  ∃ eZ,bT bn w0 bg N bs Fz eZ σ' a w ∧ aT Fz eZ w l vs ∧ aT Fz eZ w pend jK ∧ ∀ k,¬ Kp k → eZ k = κ k
 | [],[],bx,bs,j,pend,l,jK,κ,σ,σ',h,hx,hp,hs=>by
  cases hs
  cases hx
  exact ⟨κ,h,trivial,hp,fun _ _=>rfl⟩
 | [],_ :: _,_,_,_,_,_,_,_,_,_,_,hx,_,_=>hx.elim
 | _ :: _,[],_,_,_,_,_,_,_,_,_,_,hx,_,_=>hx.elim
 | x :: xs,v :: vs,bx,bs,j,pend,l,jK,κ,σ,σ',h,hx,hp,hs=>by
  obtain ⟨b1,b2,h1,h2,rfl⟩:=hx
  obtain ⟨p,h3,h4⟩:=zbm hs
  obtain ⟨r,h5,h6⟩:=zmm h4
  cases h6
  have hk:Kp (base + 200 * (j + 1)):=by have:=hK base (100 * (j + 1)) hb;rwa [show 2 * (100 * (j + 1)) = 200 * (j + 1) from by omega] at this
  obtain ⟨zS,e1,e2,e3,e4⟩:=Mf hk2 hk (fun c=>hK _ _ hk) (bs:=b2 ++ bs) (by rw [← ajW];exact h) h1 hp h3
  obtain ⟨Gn,g1,g2,g3,g4⟩:=Iw hk2 hK hb e1 h2 (show aT Fz zS w (p.1 :: pend) (v :: jK) from ⟨e2,e3⟩) h5
  exact ⟨Gn,g1,⟨g3.1,g2⟩,g3.2,fun k hk=>(g4 k hk).trans (e4 k hk)⟩
theorem Mg {Kp:Nat → Prop} {base:Nat} (hk2:∀ k,Kp k → Kp (k + k % 2)) (hK:∀ k c,Kp k → Kp (k + 2 * c)) (hb:Kp base) {x:AV} {v:Value} {bx:List Nat} {pend:List PL} {l:CV} {jK:List Value} (h:bT bn w0 bg N (bx ++ bs) Fz κ σ a w) (hx:oM Fz w x v bx) (hp:aT Fz κ w pend jK) (hs:Lh base pend σ x = some (l,σ')) :
  ∃ eZ,bT bn w0 bg N bs Fz eZ σ' a w ∧ fV Fz eZ w l v ∧ aT Fz eZ w pend jK ∧ ∀ k,¬ Kp k → eZ k = κ k:=by
 cases x with
 | one x =>
  obtain ⟨p,h1,h2⟩:=zmm hs
  cases h2
  have hk:Kp (base + 200):=hK base 100 hb
  exact Mf hk2 hk (fun c=>hK _ _ hk) h hx hp h1
 | agg xs =>
  obtain ⟨p,h1,h2⟩:=zmm hs
  cases h2
  obtain ⟨cs,rfl,hx⟩:=hx
  obtain ⟨zS,e1,e2,e3,e4⟩:=Iw hk2 hK hb h hx hp h1
  exact ⟨zS,e1,⟨cs,rfl,e2⟩,e3,e4⟩
def Eh : CV → Value → List Value
 | .one _,v=>[v]
 | .agg _,v=>v.cells.toList
theorem fV.Eh {x:CV} {v:Value} (h:fV Fz κ w x v):aT Fz κ w (Ev.cells x) (Ev.Eh x v):=by
 cases x with
 | one x=>exact ⟨h,trivial⟩
 | agg xs=>obtain ⟨cs,rfl,h⟩:=h;exact h
theorem fV.Mh {x:CV} {v:Value} (hs:∀ xs,x = .agg xs → ∃ cs,v = .agg cs) (h:aT Fz κ w (Ev.cells x) (Ev.Eh x v)):fV Fz κ w x v:=by
 cases x with
 | one x=>exact h.1
 | agg xs=>obtain ⟨cs,rfl⟩:=hs xs rfl;exact ⟨cs,rfl,h⟩
theorem aT.Cu : ∀ {xs ys:List PL} {us vs:List Value},us.length = xs.length → aT Fz κ w (xs ++ ys) (us ++ vs) → aT Fz κ w xs us ∧ aT Fz κ w ys vs
 | [],ys,[],vs,_,h=>⟨trivial,h⟩
 | x :: xs,ys,u :: us,vs,hl,h=>by
  obtain ⟨h1,h2⟩:=aT.Cu (xs:=xs) (us:=us) (by simpa using hl) h.2
  exact ⟨⟨h.1,h1⟩,h2⟩
theorem Cv {Kp:Nat → Prop} {base:Nat} (hk2:∀ k,Kp k → Kp (k + k % 2)) (hK:∀ k c,Kp k → Kp (k + 2 * c)) (hb:Kp base):∀ {xs:List AV} {vs:List Value} {bx bs:List Nat} {i:Nat} {pend:List PL} {l:List CV} {jK:List Value} {κ:Nat → Value} {σ σ':St},bT bn w0 bg N (bx ++ bs) Fz κ σ a w → fD Fz w xs vs bx → aT Fz κ w pend jK → xG base i pend σ xs = some (l,σ') →
  ∃ eZ,bT bn w0 bg N bs Fz eZ σ' a w ∧ dO Fz eZ w l vs ∧ aT Fz eZ w pend jK ∧ ∀ k,¬ Kp k → eZ k = κ k
 | [],[],bx,bs,i,pend,l,jK,κ,σ,σ',h,hx,hp,hs=>by
  cases hs
  cases hx
  exact ⟨κ,h,trivial,hp,fun _ _=>rfl⟩
 | [],_ :: _,_,_,_,_,_,_,_,_,_,_,hx,_,_=>hx.elim
 | _ :: _,[],_,_,_,_,_,_,_,_,_,_,hx,_,_=>hx.elim
 | x :: xs,v :: vs,bx,bs,i,pend,l,jK,κ,σ,σ',h,hx,hp,hs=>by
  obtain ⟨b1,b2,h1,h2,rfl⟩:=hx
  obtain ⟨p,h3,h4⟩:=zbm hs
  obtain ⟨r,h5,h6⟩:=zmm h4
  cases h6
  have hk:Kp (base + 2000 * i):=by have:=hK base (1000 * i) hb;rwa [show 2 * (1000 * i) = 2000 * i from by omega] at this
  obtain ⟨zS,e1,e2,e3,e4⟩:=Mg hk2 hK hk (bs:=b2 ++ bs) (by rw [← ajW];exact h) h1 hp h3
  obtain ⟨Gn,g1,g2,g3,g4⟩:=Cv hk2 hK hb e1 h2 (show aT Fz zS w (Ev.cells p.1 ++ pend) (Ev.Eh p.1 v ++ jK) from e2.Eh.app e3) h5
  obtain ⟨g5,g6⟩:=g3.Cu (by have:=e2.Eh.length;omega)
  exact ⟨Gn,g1,⟨fV.Mh (fun xs hx=>by rw [hx] at e2;obtain ⟨cs,h,_⟩:=e2;exact ⟨cs,h⟩) g5,g2⟩,g6,fun k hk=>(g4 k hk).trans (e4 k hk)⟩
end
end
section
open Go
section
variable {P : Program} {Γ:Env} {bn Fz bD:Nat → Prop} {w0 w w':World} {bg bs ZG:List Nat} {N:Fr} {d:Nat} {q:Bool} {κ eZ:Nat → Value} {σ σ1 σ':St} {a:Act} {pv:PV} {o:Oper}
theorem Mj {gv:Bool} (h:bT bn w0 bg N bs Fz κ σ a w) {x:PL} {y:TV} (hs:rT gv σ x = some (y,σ')):∀ b,tu gv κ [x] b → b < w.heap.size:=by
 rintro b ⟨hg,key,n,hm,hb⟩
 simp at hm
 subst hm
 simp only [rT] at hs
 split at hs
 ·rename_i sz rows fZ
  exact (h.rel.pos _ (get_mem fZ) b hb).2.1
 ·cases hs
theorem Iy {gv:Bool}:∀ {xs:List PL} {ys:List TV} {vs:List Value} {bs:List Nat} {Fz:Nat → Prop} {σ σ':St},bT bn w0 bg N bs Fz κ σ a w → aT Fz κ w xs vs → rU gv σ xs = some (ys,σ') → ∀ b,tu gv κ xs b → b < w.heap.size
 | [],ys,[],bs,Fz,σ,σ',h,_,hs,b,⟨_,k,n,hm,_⟩=>by simp at hm
 | x :: xs,ys,v :: vs,bs,Fz,σ,σ',h,hx,hs,b,⟨hg,k,n,hm,hb⟩=>by
  obtain ⟨p,h1,h2⟩:=zbm hs
  obtain ⟨r,h3,h4⟩:=zmm h2
  rcases ajr.mp hm with hm | hm
  ·exact Mj h h1 b ⟨hg,k,n,by simp [hm],hb⟩
  ·obtain ⟨F1,b1,e1,e2,e3⟩:=Gj h hx.1 h1
   exact Iy e1 (aT.mono e2 (fun _ _=>rfl) xs (fun _ _=>rfl) vs hx.2) h3 b ⟨hg,k,n,hm,hb⟩
 | [],_,_ :: _,_,_,_,_,_,h,_,_,_=>h.elim
 | _ :: _,_,[],_,_,_,_,_,h,_,_,_=>h.elim
theorem VA {gv:Bool} (h:bT bn w0 bg N bs Fz κ σ a w) {x:CV} {y:AV} {v:Value} (hx:fV Fz κ w x v) (hs:Lg gv σ x = some (y,σ')):∀ b,tu gv κ (Ev.cells x) b → b < w.heap.size:=by
 cases x with
 | one x =>
  obtain ⟨p,h1,h2⟩:=zmm hs
  exact Mj h h1
 | agg xs =>
  obtain ⟨p,h1,h2⟩:=zmm hs
  obtain ⟨cs,rfl,hx⟩:=hx
  exact Iy h hx h1
theorem Iz {gv:Bool}:∀ {xs:List CV} {ys:List AV} {vs:List Value} {bs:List Nat} {Fz:Nat → Prop} {σ σ':St},bT bn w0 bg N bs Fz κ σ a w → dO Fz κ w xs vs → sI gv σ xs = some (ys,σ') → ∀ b,tu gv κ (xs.flatMap Ev.cells) b → b < w.heap.size
 | [],ys,[],bs,Fz,σ,σ',h,_,hs,b,⟨_,k,n,hm,_⟩=>by simp at hm
 | x :: xs,ys,v :: vs,bs,Fz,σ,σ',h,hx,hs,b,⟨hg,k,n,hm,hb⟩=>by
  obtain ⟨p,h1,h2⟩:=zbm hs
  obtain ⟨r,h3,h4⟩:=zmm h2
  rw [akN] at hm
  rcases ajE.mp hm with hm | hm
  ·exact VA h hx.1 h1 b ⟨hg,k,n,hm,hb⟩
  ·obtain ⟨F1,b1,e1,e2,e3⟩:=Md h hx.1 h1
   exact Iz e1 (dO.mono e2 (fun _ _=>rfl) xs (fun _ _=>rfl) vs hx.2) h3 b ⟨hg,k,n,hm,hb⟩
 | [],_,_ :: _,_,_,_,_,_,h,_,_,_=>h.elim
 | _ :: _,_,[],_,_,_,_,_,h,_,_,_=>h.elim
theorem bT.sub {b1 b2:List Nat} (h:bT bn w0 bg N (b1 ++ b2) Fz κ σ a w):bT bn w0 bg N b2 Fz κ σ a w:=⟨h.rel,(akA.mp h.mh).2.1,fun b hb=>h.ap b (List.mem_append_right _ hb)⟩
theorem J2 {base:Nat} {xs:List PL} (hb:base % 2 = 0) (c:Nat):JV base xs c % 2 = 0:=by
 unfold JV
 split
 ·split
  ·assumption
  ·omega
 ·split
  ·assumption
  ·omega
 ·omega
theorem Mk {fI:St} {base:Nat} (hb:base % 2 = 0) {x:PL} {y:TV} {v:Value} {bx:List Nat} {pend:List PL} {jK:List Value} (h:bT bn w0 bg N (bx ++ bs) Fz κ σ a w) (hy:nD Fz w y v bx) (hp:aT Fz κ w pend jK) (hsub:∀ κ,aT Fz κ w pend jK → eB Fz κ w x v) (hs:DT fI pend base σ x y = some σ') :
  ∃ eZ,bT bn w0 bg N bs Fz eZ σ' a w ∧ aT Fz eZ w pend jK ∧ ∀ k,k % 2 = 1 → eZ k = κ k:=by
 have plain:bx = [] → some σ = some σ' → ∃ eZ,bT bn w0 bg N bs Fz eZ σ' a w ∧ aT Fz eZ w pend jK ∧ ∀ k,k % 2 = 1 → eZ k = κ k:=by
  intro hb hs
  cases hs
  subst hb
  exact ⟨κ,h,hp,fun _ _=>rfl⟩
 cases y with
 | ptr cs =>
  cases x with
  | ptr key off =>
   simp only [DT] at hs
   split at hs
   ·rename_i xs fZ
    obtain ⟨p,h1,h2⟩:=zmm hs
    cases h2
    obtain ⟨b,vals,e,ms,hv,hh,hcs,rfl⟩:=hy
    obtain ⟨zS,e1,e2,e3,e4⟩:=tC (Kp:=fun k=>k % 2 = 0) (fun k hk=>by omega) (J2 hb) (bs:=b :: bs) (h.perm (by simpa using (List.perm_middle (l₁:=ms) (l₂:=bs) (a:=b)).symm)) hcs hp h1
    obtain ⟨b',g1,g2⟩:=hsub zS e3
    rw [hv] at g2
    cases g2
    exact ⟨zS,e1.back (by rw [g1];rfl) ⟨b,vals,e,g1,hh,e2⟩,e3,fun k hk=>e4 k (by omega)⟩
   ·cases hs
  | _=>cases hs
 | mp sh ents =>
  cases x with
  | mp key =>
   cases hs
   obtain ⟨b,hv,hM,rfl⟩:=hy
   have hk:=(hsub κ hp).1
   rw [hv] at hk
   exact ⟨κ,h.back (b:=b) (by rw [← hk];rfl) ⟨b,hk.symm,hM⟩,hp,fun _ _=>rfl⟩
  | _=>cases hs
 | own sz rows =>
  have g:∃ eZ,bT bn w0 bg N bs Fz eZ σ a w ∧ aT Fz eZ w pend jK ∧ ∀ k,k % 2 = 1 → eZ k = κ k:=⟨κ,h.sub,hp,fun _ _=>rfl⟩
  cases x with
  | own key n =>
   cases hs
   have hk:=(hsub κ hp).1
   obtain ⟨o0,e,inner,A,c,o1,o2,o3,o4⟩:=hy
   rw [hk] at o1 o2 o4
   rw [o4] at h
   exact ⟨κ,h.ZH ⟨o0,e,inner,A,c,o1,o2,o3⟩,hp,fun _ _=>rfl⟩
  | _=>first | (cases hs;exact g) | cases hs
 | fp cs=>cases x <;> first | exact plain hy.2 hs | cases hs
 | fn f cs=>cases x <;> first | exact plain hy.2 hs | cases hs
 | any=>cases x <;> first | exact plain hy hs | cases hs
 | f y=>cases x <;> first | exact plain hy.2 hs | cases hs
 | iU=>cases x <;> first | exact plain hy.2 hs | cases hs
 | fA=>cases x <;> first | exact plain hy.2 hs | cases hs
theorem IB {fI:St} {pend:List PL} {jK:List Value}:∀ {xs:List PL} {ys:List TV} {vs:List Value} {bx bs:List Nat} {base:Nat} {κ:Nat → Value} {σ σ':St},base % 2 = 0 → bT bn w0 bg N (bx ++ bs) Fz κ σ a w → kS Fz w ys vs bx → aT Fz κ w pend jK → (∀ κ,aT Fz κ w pend jK → aT Fz κ w xs vs) → BQ fI pend base σ xs ys = some σ' →
  ∃ eZ,bT bn w0 bg N bs Fz eZ σ' a w ∧ aT Fz eZ w pend jK ∧ ∀ k,k % 2 = 1 → eZ k = κ k
 | [],[],[],bx,bs,base,κ,σ,σ',hb,h,hy,hp,hsub,hs=>by cases hs;cases hy;exact ⟨κ,h,hp,fun _ _=>rfl⟩
 | x :: xs,y :: ys,v :: vs,bx,bs,base,κ,σ,σ',hb,h,hy,hp,hsub,hs=>by
  obtain ⟨s,h1,h2⟩:=zbm hs
  obtain ⟨b1,b2,g1,g2,rfl⟩:=hy
  obtain ⟨zS,e1,e2,e3⟩:=Mk hb (bs:=b2 ++ bs) (by rw [← ajW];exact h) g1 hp (fun κ hk=>(hsub κ hk).1) h1
  obtain ⟨Gn,e4,e5,e6⟩:=IB (by omega) e1 g2 e2 (fun κ hk=>(hsub κ hk).2) h2
  exact ⟨Gn,e4,e5,fun k hk=>(e6 k hk).trans (e3 k hk)⟩
 | [],[],_ :: _,_,_,_,_,_,_,_,_,hy,_,_,_=>hy.elim
 | _ :: _,_ :: _,[],_,_,_,_,_,_,_,_,hy,_,_,_=>hy.elim
 | [],_ :: _,_,_,_,_,_,_,_,_,_,_,_,_,hs=>by cases hs
 | _ :: _,[],_,_,_,_,_,_,_,_,_,_,_,_,hs=>by cases hs
theorem VB {fI:St} {base:Nat} (hb:base % 2 = 0) {x:CV} {y:AV} {v:Value} {bx:List Nat} {pend:List PL} {jK:List Value} (h:bT bn w0 bg N (bx ++ bs) Fz κ σ a w) (hy:oM Fz w y v bx) (hp:aT Fz κ w pend jK) (hsub:∀ κ,aT Fz κ w pend jK → aT Fz κ w (Ev.cells x) (Eh x v)) (hs:Zi fI pend base σ x y = some σ') :
  ∃ eZ,bT bn w0 bg N bs Fz eZ σ' a w ∧ aT Fz eZ w pend jK ∧ ∀ k,k % 2 = 1 → eZ k = κ k:=by
 cases x with
 | one x =>
  cases y with
  | one y=>exact Mk hb h hy hp (fun κ hk=>(hsub κ hk).1) hs
  | agg ys=>cases hs
 | agg xs =>
  cases y with
  | one y=>cases hs
  | agg ys =>
   obtain ⟨cs,rfl,hy⟩:=hy
   exact IB hb h hy hp hsub hs
theorem IC {fI:St} {pend:List PL} {jK:List Value}:∀ {xs:List CV} {ys:List AV} {vs:List Value} {bx bs:List Nat} {base:Nat} {κ:Nat → Value} {σ σ':St},base % 2 = 0 → bT bn w0 bg N (bx ++ bs) Fz κ σ a w → fD Fz w ys vs bx → aT Fz κ w pend jK → (∀ κ,aT Fz κ w pend jK → dO Fz κ w xs vs) → zN fI pend base σ xs ys = some σ' →
  ∃ eZ,bT bn w0 bg N bs Fz eZ σ' a w ∧ aT Fz eZ w pend jK ∧ ∀ k,k % 2 = 1 → eZ k = κ k
 | [],[],[],bx,bs,base,κ,σ,σ',hb,h,hy,hp,hsub,hs=>by cases hs;cases hy;exact ⟨κ,h,hp,fun _ _=>rfl⟩
 | x :: xs,y :: ys,v :: vs,bx,bs,base,κ,σ,σ',hb,h,hy,hp,hsub,hs=>by
  obtain ⟨s,h1,h2⟩:=zbm hs
  obtain ⟨b1,b2,g1,g2,rfl⟩:=hy
  obtain ⟨zS,e1,e2,e3⟩:=VB hb (bs:=b2 ++ bs) (by rw [← ajW];exact h) g1 hp (fun κ hk=>(hsub κ hk).1.Eh) h1
  obtain ⟨Gn,e4,e5,e6⟩:=IC (by omega) e1 g2 e2 (fun κ hk=>(hsub κ hk).2) h2
  exact ⟨Gn,e4,e5,fun k hk=>(e6 k hk).trans (e3 k hk)⟩
 | [],[],_ :: _,_,_,_,_,_,_,_,_,hy,_,_,_=>hy.elim
 | _ :: _,_ :: _,[],_,_,_,_,_,_,_,_,hy,_,_,_=>hy.elim
 | [],_ :: _,_,_,_,_,_,_,_,_,_,_,_,_,hs=>by cases hs
 | _ :: _,[],_,_,_,_,_,_,_,_,_,_,_,_,hs=>by cases hs
def ret : List Value → Value
 | [x]=>x
 | xs=>.tuple xs.toArray
structure Post (Fz:Nat → Prop) (w:World) (vals:List Value) (bs:List Nat) (rs pV:List AV) (bD:Nat → Prop) (w':World) (tF:List Value) (b1 b2:List Nat):Prop where
 f1:∀ b,Fz b → bD b
 f2:∀ b,bD b → b < w'.heap.size ∧ (Fz b ∨ b ∈ bs ∨ w.heap.size ≤ b)
 big:w.heap.size ≤ w'.heap.size
 ext:∀ b,b < w.heap.size → b ∉ bs → w'.heap[b]? = w.heap[b]?
 kp:Kp w w'
 bk:fD bD w' pV vals b1
 rs:fD bD w' rs tF b2
 mh:(b1 ++ b2).Nodup
 ap:∀ b ∈ b1 ++ b2,¬ bD b ∧ b < w'.heap.size ∧ (b ∈ bs ∨ w.heap.size ≤ b)
def Sat (P:Program) (f:FuncId) (g:List AV → Option (List AV × List AV)):Prop :=
 ∀ dS rs pV,g dS = some (rs,pV) → ∀ (Fz:Nat → Prop) (w:World) (vals:List Value) (bs:List Nat),fD Fz w dS vals bs → bs.Nodup → (∀ b ∈ bs,¬ Fz b ∧ b < w.heap.size) → (∀ b,Fz b → b < w.heap.size) →
  Calls P f vals.toArray w fun e w'=>∃ bD tF b1 b2,e = .returned (ret tF) ∧ Post Fz w vals bs rs pV bD w' tF b1 b2
def iC (P:Program) (Γ:Env):Prop:=∀ f,Sat P f (Γ f)
theorem bT.called (h:bT bn w0 bg N bs Fz κ σ a w) {vals tF:List Value} {rs pV:List AV} {b1 b2:List Nat} (hp:Post Fz w vals bs rs pV bD w' tF b1 b2):bT bn w0 bg N (b1 ++ b2) bD κ σ a w':=by
 have hap:∀ b ∈ bs,_:=h.ap
 have hfz:∀ b,Fz b → w'.heap[b]? = w.heap[b]?:=fun b hb=>hp.ext b (h.rel.fz b hb).1 (fun hm=>(hap b hm).1 hb)
 have fZ:∀ p ∈ σ.ob,∀ b,blk (κ p.1) = some b → w'.heap[b]? = w.heap[b]?:=fun p hp' b hb=>hp.ext b (h.rel.pos p hp' b hb).2.1 (fun hm=>(hap b hm).2.2.2 p hp' hb)
 refine ⟨⟨fun p hp'=>iK.mono hp.f1 hfz (fun _ _=>rfl) (h.rel.tm p hp'),h.rel.sz,h.rel.mh,h.rel.fs,fun p hp'=>iO.mono hp.f1 hfz (fun _ _=>rfl) (fZ p hp') (h.rel.ob p hp'),h.rel.uO,fun p hp' b hb=>?_,fun b hb=>?_,fun b hb=>hp.f1 b (h.rel.zJ b hb),aju h.rel.big hp.big,fun b h1 h2=>?_,?_⟩,hp.mh,fun b hb=>?_⟩
 ·have:=h.rel.pos p hp' b hb
  refine ⟨fun hf=>?_,ajK this.2.1 hp.big,this.2.2⟩
  rcases (hp.f2 b hf).2 with h1 | h1 | h1
  ·exact this.1 h1
  ·exact (hap b h1).2.2.2 p hp' hb
  ·omega
 ·have:=hp.f2 b hb
  refine ⟨this.1,?_⟩
  rcases this.2 with h1 | h1 | h1
  ·exact (h.rel.fz b h1).2
  ·exact .inr (hap b h1).2.2.1
  ·exact .inr (.inr (aju h.rel.big h1))
 ·rw [hp.ext b (ajK h1 h.rel.big) (fun hm=>?_)]
  ·exact h.rel.ext b h1 h2
  ·rcases (hap b hm).2.2.1 with h3 | h3
   ·exact h2 h3
   ·omega
 ·exact h.rel.kp.trans hp.kp
 ·obtain ⟨h1,h2,h3⟩:=hp.ap b hb
  refine ⟨h1,h2,?_,fun p hp' e=>?_⟩
  ·rcases h3 with h3 | h3
   ·exact (hap b h3).2.2.1
   ·exact .inr (aju h.rel.big h3)
  ·rcases h3 with h3 | h3
   ·exact (hap b h3).2.2.2 p hp' e
   ·have:=(h.rel.pos p hp' b e).2.1
    omega
theorem Ei {x:TV} {v:Value} {bx:List Nat} (h:nD Fz w x v bx) (hp:plain x = true):bx = []:=by
 cases x <;> first | exact h.2 | exact h | cases hp
theorem Av : ∀ {xs:List TV} {vs:List Value} {bx:List Nat},kS Fz w xs vs bx → xs.all plain = true → bx = []
 | [],[],_,h,_=>h
 | x :: xs,v :: vs,_,⟨b1,b2,h1,h2,e⟩,hp=>by
  rw [List.all_cons,ajg] at hp
  rw [e,Ei h1 hp.1,Av h2 hp.2];rfl
 | [],_ :: _,_,h,_=>h.elim
 | _ :: _,[],_,h,_=>h.elim
theorem Gp {x:AV} {v:Value} {bx:List Nat} (h:oM Fz w x v bx) (hp:fJ x = true):bx = []:=by
 cases x with
 | one x=>exact Ei h hp
 | agg xs=>obtain ⟨cs,rfl,h⟩:=h;exact Av h hp
theorem pW : ∀ {xs:List AV} {vs:List Value} {bx:List Nat},fD Fz w xs vs bx → xs.all fJ = true → bx = []
 | [],[],_,h,_=>h
 | x :: xs,v :: vs,_,⟨b1,b2,h1,h2,e⟩,hp=>by
  rw [List.all_cons,ajg] at hp
  rw [e,Gp h1 hp.1,pW h2 hp.2];rfl
 | [],_ :: _,_,h,_=>h.elim
 | _ :: _,[],_,h,_=>h.elim
theorem IE {x:TV} {v:Value} {bx:List Nat} (h:nD Fz w x v bx) (hp:Lx x = false):nD bD w' x v [] ∧ bx = []:=by
 cases x with
 | f x =>
  obtain ⟨h1,h2⟩:=h
  refine ⟨⟨?_,rfl⟩,h2⟩
  cases x with
  | sl rows=>cases hp
  | _=>exact h1
 | _=>cases hp
theorem Ej : ∀ {xs:List TV} {vs:List Value} {bx:List Nat},kS Fz w xs vs bx → xs.any Lx = false → kS bD w' xs vs [] ∧ bx = []
 | [],[],_,h,_=>⟨rfl,h⟩
 | x :: xs,v :: vs,_,⟨b1,b2,h1,h2,e⟩,hp=>by
  rw [List.any_cons,akR] at hp
  obtain ⟨g1,rfl⟩:=IE h1 hp.1
  obtain ⟨g2,rfl⟩:=Ej h2 hp.2
  exact ⟨⟨[],[],g1,g2,rfl⟩,e⟩
 | [],_ :: _,_,h,_=>h.elim
 | _ :: _,[],_,h,_=>h.elim
theorem J3 {x:AV} {v:Value} {bx:List Nat} (h:oM Fz w x v bx) (hp:wH x = false):oM bD w' x v [] ∧ bx = []:=by
 cases x with
 | one x=>exact IE h hp
 | agg xs =>
  obtain ⟨cs,rfl,h⟩:=h
  obtain ⟨g1,g2⟩:=Ej (bD:=bD) (w':=w') h hp
  exact ⟨⟨cs,rfl,g1⟩,g2⟩
theorem xV : ∀ {xs:List AV} {vs:List Value} {bx:List Nat},fD Fz w xs vs bx → xs.any wH = false → fD bD w' xs vs [] ∧ bx = []
 | [],[],_,h,_=>⟨rfl,h⟩
 | x :: xs,v :: vs,_,⟨b1,b2,h1,h2,e⟩,hp=>by
  rw [List.any_cons,akR] at hp
  obtain ⟨g1,rfl⟩:=J3 h1 hp.1
  obtain ⟨g2,rfl⟩:=xV h2 hp.2
  exact ⟨⟨[],[],g1,g2,rfl⟩,e⟩
 | [],_ :: _,_,h,_=>h.elim
 | _ :: _,[],_,h,_=>h.elim
end
end
section
open Go
section
variable {P : Program} {Γ:Env} {bn Fz bD:Nat → Prop} {w0 w w':World} {bg bs ZG:List Nat} {N:Fr} {d:Nat} {q:Bool} {κ eZ:Nat → Value} {σ σ1 σ':St} {a:Act} {pv:PV} {o:Oper}
theorem tH (h:Rel bn w0 bg N Fz κ σ a w):∀ {xs:List Operand} {ys:List dM} {l:List CV},BZ xs = some ys → jw σ ys = some l → dO Fz κ w l (xs.map a.eval)
 | [],ys,l,hx,hv=>by cases hx;cases hv;trivial
 | x :: xs,ys,l,hx,hv=>by
  obtain ⟨y,h1,h2⟩:=zbm hx
  obtain ⟨m,h3,rfl⟩:=zmm h2
  obtain ⟨v,h4,h5⟩:=zbm hv
  obtain ⟨n,h6,rfl⟩:=zmm h5
  exact ⟨h.eval h1 h4,tH h h3 h6⟩
theorem dO.Eh : ∀ {xs:List CV} {vs:List Value},dO Fz κ w xs vs → ∃ jK,aT Fz κ w (xs.flatMap Ev.cells) jK ∧ ∀ (bD:Nat → Prop) (w':World) eZ,aT bD eZ w' (xs.flatMap Ev.cells) jK → dO bD eZ w' xs vs
 | [],[],_=>⟨[],trivial,fun _ _ _ _=>trivial⟩
 | x :: xs,v :: vs,h=>by
  obtain ⟨jK,h1,h2⟩:=dO.Eh h.2
  refine ⟨Ev.Eh x v ++ jK,by rw [akN];exact h.1.Eh.app h1,fun F' w' eZ hr=>?_⟩
  rw [akN] at hr
  obtain ⟨g1,g2⟩:=hr.Cu (by have:=h.1.Eh.length;omega)
  exact ⟨fV.Mh (fun ys hy=>by have:=h.1;rw [hy] at this;obtain ⟨cs,h,_⟩:=this;exact ⟨cs,h⟩) g1,h2 F' w' eZ g2⟩
 | [],_ :: _,h=>h.elim
 | _ :: _,[],h=>h.elim
theorem IG {xs:List CV} {vs:List Value} (h:dO Fz κ w xs vs):iK Fz κ w (JW xs) (ret vs):=by
 match xs,vs,h with
 | [],[],h=>exact ⟨_,rfl,h⟩
 | [x],[v],h=>exact h.1
 | x :: y :: xs,v :: u :: vs,h=>exact ⟨_,rfl,h⟩
theorem Ml {gv:Bool} {xs:List CV} (h:xs.any (fun x=>(Ev.cells x).any gD) = false) (b:Nat):¬ tu gv κ (xs.flatMap Ev.cells) b:=by
 rintro ⟨_,k,n,hm,_⟩
 obtain ⟨x,hx,hm⟩:=List.mem_flatMap.mp hm
 have:xs.any (fun x=>(Ev.cells x).any gD) = true:=aj8.mpr ⟨x,hx,aj8.mpr ⟨_,hm,rfl⟩⟩
 rw [h] at this;cases this
theorem jv.fz {sz:Nat} {rows:List (List FV)} {v:Value} {bx:List Nat} (h:jv Fz w sz rows v bx) (hf:∀ b,Fz b → bD b) (hb:∀ b ∈ bx,bD b):eY bD w (.sl rows) v:=by
 have hrow:=jv.row (κ:=fun _=>undef) (key:=0) (B:=0) rfl h
 have hbx:bx = pF v:=h.2.choose_spec.choose_spec.choose_spec.choose_spec.2.2.2
 have:=rV (bD:=bD) hf (fun b hk=>hb b (by rw [bO] at hk;rw [hbx,pF,hk];simp)) hrow
 rwa [bO] at this
theorem fD.fz : ∀ {xs:List AV} {vs:List Value} {bs:List Nat},fD Fz w xs vs bs → ∃ bf bk:List Nat,bk.Sublist bs ∧ (∀ b ∈ bf,b ∈ bs) ∧ (bs.Nodup → ∀ b ∈ bf,b ∉ bk) ∧ ∀ bD:Nat → Prop,(∀ b,Fz b → bD b) → (∀ b ∈ bf,bD b) → fD bD w (xs.map P5) vs bk
 | [],[],_,h=>⟨[],[],by cases h;exact akQ _,by simp,by simp,fun _ _ _=>rfl⟩
 | x :: xs,v :: vs,bs,⟨b1,b2,h1,h2,e⟩=>by
  subst e
  obtain ⟨bf,bk,g1,g2,g3,g4⟩:=fD.fz h2
  by_cases hx:∃ sz rows,x = .one (.own sz rows)
  ·obtain ⟨sz,rows,rfl⟩:=hx
   refine ⟨b1 ++ bf,bk,g1.trans (List.sublist_append_right _ _),fun b hb=>?_,fun hn b hb hk=>?_,fun F hf hbf=>⟨[],bk,⟨jv.fz h1 hf fun b hb=>hbf b (by simp [hb]),rfl⟩,g4 F hf fun b hb=>hbf b (by simp [hb]),rfl⟩⟩
   ·rcases ajE.mp hb with hb | hb
    ·simp [hb]
    ·simp [g2 b hb]
   ·have hn':=akA.mp hn
    rcases ajE.mp hb with hb | hb
    ·exact hn'.2.2 b hb b (g1.subset hk) rfl
    ·exact g3 hn'.2.1 b hb hk
  ·have hfz:P5 x = x:=by
    cases x with
    | one y=>cases y <;> first | rfl | exact absurd ⟨_,_,rfl⟩ hx
    | agg _=>rfl
   refine ⟨bf,b1 ++ bk,List.Sublist.append (akQ _) g1,fun b hb=>by simp [g2 b hb],fun hn b hb hk=>?_,fun F hf hbf=>⟨b1,bk,?_,g4 F hf hbf,rfl⟩⟩
   ·have hn':=akA.mp hn
    rcases ajE.mp hk with hk | hk
    ·exact hn'.2.2 b hk b (g2 b hb) rfl
    ·exact g3 hn'.2.1 b hb hk
   ·rw [hfz];exact h1.mono hf (fun _ _=>rfl) (fun _ _=>rfl)
 | [],_ :: _,_,h=>h.elim
 | _ :: _,[],_,h=>h.elim
theorem Sat.Vf {f:FuncId} {g:List AV → Option (List AV × List AV)} (h:Sat P f g):Sat P f (fun dS=>(g dS).map (Ev.Vf q)):=by
 cases q with
 | false =>
  intro dS rs pV hg
  obtain ⟨r,h1,h2⟩:=zmm hg
  have:r = (rs,pV):=h2
  subst this
  exact h dS rs pV h1
 | true =>
  intro dS rs pV hg Fz w vals bs ha hn hb hf
  obtain ⟨r,h1,h2⟩:=zmm hg
  have e1:r.1.map P5 = rs:=ajC Prod.fst h2
  have e2:r.2 = pV:=ajC Prod.snd h2
  subst e1;subst e2
  refine Calls.mono (h dS r.1 r.2 h1 Fz w vals bs ha hn hb hf) ?_
  rintro e w' ⟨bD,tF,b1,b2,rfl,hp⟩
  obtain ⟨bf,bk,g1,g2,g3,g4⟩:=fD.fz hp.rs
  have hnd:=akA.mp hp.mh
  refine ⟨fun b=>bD b ∨ b ∈ bf,tF,b1,bk,rfl,fun b hb=>.inl (hp.f1 b hb),fun b hb=>?_,hp.big,hp.ext,hp.kp,hp.bk.mono (fun b hb=>.inl hb) (fun _ _=>rfl) (fun _ _=>rfl),g4 _ (fun b hb=>.inl hb) (fun b hb=>.inr hb),List.Sublist.nodup (List.Sublist.append (akQ _) g1) hp.mh,fun b hb=>?_⟩
  ·rcases hb with hb | hb
   ·exact hp.f2 b hb
   ·have:=hp.ap b (by simp [g2 b hb])
    exact ⟨this.2.1,.inr this.2.2⟩
  ·have hm:b ∈ b1 ++ b2:=by
    rcases ajE.mp hb with hb | hb
    ·simp [hb]
    ·simp [g1.subset hb]
   have:=hp.ap b hm
   refine ⟨fun hor=>?_,this.2⟩
   rcases hor with h1 | h1
   ·exact this.1 h1
   ·rcases ajE.mp hb with hb | hb
    ·exact hnd.2.2 b hb b (g2 b h1) rfl
    ·exact g3 hnd.2.1 b h1 hb
theorem Aw {gv:Bool} (kT:iC P Γ) (h:Rel bn w0 bg N Fz κ σ a w) {f:FuncId} {nA:List CV} {vals:List Value} (hv:dO Fz κ w nA vals) (hE:kU Γ gv q σ d f nA = some (pv,σ')) :
  Calls P f vals.toArray w fun e w'=>∃ v bD eZ,e = .returned v ∧ Good bn w0 bg N q d Fz κ σ a w bD eZ σ' w' pv v:=by
 unfold kU at hE
 obtain ⟨p,h1,hE⟩:=zbm hE
 obtain ⟨r,h2,hE⟩:=zbm hE
 split at hE
 ·cases hE
 split at hE
 ·cases hE
 rename_i hq1 hq2
 obtain ⟨s1,h3,hE⟩:=zbm hE
 obtain ⟨s2,h4,hE⟩:=zbm hE
 obtain ⟨u,h5,h6⟩:=zmm hE
 cases h6
 obtain ⟨F1,bx,e1,e2,e3⟩:=Cq h.x hv h1
 rw [akb] at e1
 have elt:=Iz h.x hv h1
 obtain ⟨jK,l1,l2⟩:=hv.Eh
 have ZI:=(Sat.Vf (q:=q) (kT f)) p.1 r.1 r.2 h2
 have fin:∀ {F2:Nat → Prop} {w':World} {tF:List Value} {b1 b2:List Nat},(∀ b,Fz b → F2 b) → (∀ b,Fz b → w'.heap[b]? = w.heap[b]?) → bT bn w0 bg N (b1 ++ b2) F2 κ s1 a w' → fD F2 w' r.2 vals b1 → fD F2 w' r.1 tF b2 →
   ∃ v bD eZ,Ending.returned (ret tF) = .returned v ∧ Good bn w0 bg N q d Fz κ σ a w bD eZ u.2 w' (JW u.1) v:=by
  intro F2 w' tF b1 b2 hf hw hx hb hr
  have ZJ:aT F2 κ w' (nA.flatMap Ev.cells) jK:=aT.mono hf hw _ (fun _ _=>rfl) _ l1
  have key:∃ zS,bT bn w0 bg N (b2 ++ []) F2 zS s2 a w' ∧ ∀ k,k % 2 = 1 → zS k = κ k:=by
   rw [akb]
   split at h4
   ·cases h4
    exact ⟨κ,hx.sub,fun _ _=>rfl⟩
   ·obtain ⟨zS,g1,g2,g3⟩:=IC (by unfold dA;omega) hx hb ZJ (fun eZ hk=>l2 F2 w' eZ hk) h4
    exact ⟨zS,g1,g3⟩
  obtain ⟨zS,g1,g2⟩:=key
  obtain ⟨Gn,g3,g4,_,g5⟩:=Cv (Kp:=fun k=>k % 2 = 0) (fun k hk=>by omega) (fun k c hk=>by omega) (by unfold dA;omega) g1 hr (show aT F2 zS w' [] [] from trivial) h5
  exact ⟨_,F2,Gn,rfl,g3.rel,IG g4,hf,fun k hk=>(g5 k (by omega)).trans (g2 k hk)⟩
 have call:∀ {F2:Nat → Prop},(∀ b,F1 b → F2 b) → bT bn w0 bg N bx F2 κ s1 a w → fD F2 w p.1 vals bx → Calls P f vals.toArray w fun e w'=>∃ v bD eZ,e = .returned v ∧ Good bn w0 bg N q d Fz κ σ a w bD eZ u.2 w' (JW u.1) v:=by
  intro F2 hf hx ha
  refine Calls.mono (ZI F2 w vals bx ha hx.mh (fun b hb=>⟨(hx.ap b hb).1,(hx.ap b hb).2.1⟩) (fun b hb=>(hx.rel.fz b hb).1)) ?_
  rintro e w' ⟨F3,tF,b1,b2,rfl,hp⟩
  refine fin (fun b hb=>hp.f1 b (hf b (e2 b hb))) (fun b hb=>?_) (hx.called hp) hp.bk hp.rs
  exact hp.ext b (h.fz b hb).1 (fun hm=>(hx.ap b hm).1 (hf b (e2 b hb)))
 cases gv with
 | true =>
  rw [akG,Bool.false_and,ai9 (by decide)] at h3
  cases h3
  exact call (fun _ h=>h) e1 (e3.mono (fun b hb=>hb.resolve_right (fun hl=>by cases hl.1)) (fun _ _=>rfl) (fun _ _=>rfl))
 | false =>
 rw [Bool.not_false,Bool.true_and] at h3
 split at h3
 ·obtain ⟨F2,g1,g2,g3⟩:=Ef e1 h3
  refine call g2 g1 (e3.mono (fun b hb=>?_) (fun _ _=>rfl) (fun _ _=>rfl))
  rcases hb with hb | hb
  ·exact g2 b hb
  ·exact g3 b hb
 ·rename_i hfr
  cases h3
  rw [ajg,Decidable.not_and_iff_or_not] at hfr
  by_cases hown:nA.any (fun x=>(Ev.cells x).any gD) = true
  ·rcases hfr with hfr | hfr
   ·rw [aj4,not_or] at hfr
    have aeT:r.1.any wH = false:=any_false hfr.1
    have hpl:p.1.all fJ = true:=by simpa using hfr.2
    have hbx:=pW e3 hpl
    subst hbx
    refine Calls.mono (ZI (fun b=>F1 b ∨ tu false κ (nA.flatMap Ev.cells) b) w vals [] e3 akM (fun b hb=>by simp at hb) (fun b hb=>?_)) ?_
    ·rcases hb with hb | hb
     ·exact (e1.rel.fz b hb).1
     ·exact elt b hb
    ·rintro e w' ⟨F3,tF,b1,b2,rfl,hp⟩
     have hg:=e1.rel.grow hp.big (fun b hb=>hp.ext b hb (by simp)) hp.kp
     obtain ⟨n1,_⟩:=xV (bD:=F1) (w':=w') hp.rs aeT
     rw [ai8 hpl] at h4
     cases h4
     obtain ⟨Gn,g3,g4,_,g5⟩:=Cv (Kp:=fun k=>k % 2 = 0) (fun k hk=>by omega) (fun k c hk=>by omega) (by unfold dA;omega) (bx:=[]) (bs:=[]) hg.x n1 (show aT F1 κ w' [] [] from trivial) h5
     exact ⟨_,F1,Gn,rfl,g3.rel,IG g4,e2,fun k hk=>g5 k (by omega)⟩
   ·exact absurd hown hfr
  ·have hno:nA.any (fun x=>(Ev.cells x).any gD) = false:=any_false hown
   exact call (fun _ h=>h) e1 (e3.mono (fun b hb=>hb.resolve_right (Ml hno b)) (fun _ _=>rfl) (fun _ _=>rfl))
theorem Mr {x:PL} {y:TV} {gv:Bool} (h:avT x = some y):rT gv σ x = some (y,σ) ∧ plain y = true ∧ gD x = false:=by
 cases x <;> first | (cases h;exact ⟨rfl,rfl,rfl⟩) | cases h
theorem II {gv:Bool}:∀ {xs:List PL} {ys:List TV},P6 xs = some ys → rU gv σ xs = some (ys,σ) ∧ ys.all plain = true ∧ xs.any gD = false
 | [],ys,h=>by cases h;exact ⟨rfl,rfl,rfl⟩
 | x :: xs,ys,h=>by
  obtain ⟨y,h1,h2⟩:=zbm h
  obtain ⟨l,h3,rfl⟩:=zmm h2
  obtain ⟨e1,e2,e3⟩:=Mr (σ:=σ) (gv:=gv) h1
  obtain ⟨g1,g2,g3⟩:=II (gv:=gv) h3
  exact ⟨by unfold rU;rw [e1];simp only [Option.bind_some,g1,Option.map_some],by simp only [List.all_cons,e2,g2,Bool.and_self],by simp only [List.any_cons,e3,g3,Bool.or_self]⟩
theorem IJ {gv:Bool}:∀ {xs:List CV} {ys:List AV},LA xs = some ys → sI gv σ xs = some (ys,σ) ∧ ys.all fJ = true ∧ xs.any (fun x=>(Ev.cells x).any gD) = false
 | [],ys,h=>by cases h;exact ⟨rfl,rfl,rfl⟩
 | x :: xs,ys,h=>by
  obtain ⟨y,h1,h2⟩:=zbm h
  obtain ⟨l,h3,rfl⟩:=zmm h2
  have key:Lg gv σ x = some (y,σ) ∧ fJ y = true ∧ (Ev.cells x).any gD = false:=by
   cases x with
   | one x =>
    obtain ⟨z,h4,rfl⟩:=zmm h1
    obtain ⟨e1,e2,e3⟩:=Mr (σ:=σ) (gv:=gv) h4
    exact ⟨by show Option.map _ (rT gv σ x) = _;rw [e1];rfl,e2,by simp only [Ev.cells,List.any_cons,e3,List.any_nil,Bool.or_self]⟩
   | agg xs =>
    obtain ⟨z,h4,rfl⟩:=zmm h1
    obtain ⟨e1,e2,e3⟩:=II (σ:=σ) (gv:=gv) h4
    exact ⟨by show Option.map _ (rU gv σ xs) = _;rw [e1];rfl,e2,e3⟩
  obtain ⟨e1,e2,e3⟩:=key
  obtain ⟨g1,g2,g3⟩:=IJ (gv:=gv) h3
  exact ⟨by unfold sI;rw [e1];simp only [Option.bind_some,g1,Option.map_some],by simp only [List.all_cons,e2,g2,Bool.and_self],by simp only [List.any_cons,e3,g3,Bool.or_self]⟩
theorem Gq (kT:iC P Γ) (h:Rel bn w0 bg N Fz κ σ a w) {f:FuncId} {nA:List CV} {vals:List Value} (hv:dO Fz κ w nA vals) (hE:sK Γ σ d f nA = some (pv,σ')) :
  Calls P f vals.toArray w fun e w'=>∃ v bD eZ,e = .returned v ∧ Good bn w0 bg N q d Fz κ σ a w bD eZ σ' w' pv v:=by
 unfold sK at hE
 obtain ⟨dS,h1,hE⟩:=zbm hE
 obtain ⟨r,h2,hE⟩:=zbm hE
 obtain ⟨p,h3,hE⟩:=zbm hE
 obtain ⟨s',h4,h5⟩:=zmm hE
 obtain ⟨rfl,rfl⟩:=Prod.mk.inj h5
 obtain ⟨g1,g2,g3⟩:=IJ (σ:=σ) (gv:=false) h1
 obtain ⟨F1,bx,e1,e2,e3⟩:=Cq h.x hv g1
 rw [akb] at e1
 have hbx:=pW e3 g2
 subst hbx
 have ha:fD F1 w dS vals []:=e3.mono (fun b hb=>hb.resolve_right (Ml g3 b)) (fun _ _=>rfl) (fun _ _=>rfl)
 refine Calls.mono (kT f dS r.1 r.2 h2 F1 w vals [] ha akM (fun b hb=>by simp at hb) (fun b hb=>(e1.rel.fz b hb).1)) ?_
 rintro e w' ⟨F3,tF,b1,b2,rfl,hp⟩
 have hx:=e1.called hp
 obtain ⟨rs,bk⟩:=r
 have hr:=hp.rs
 simp only at h3 hr
 match rs,h3 with
 | [.one (.own sz rows)],h3 =>
  cases h3
  match tF,hr with
  | [v],⟨c1,c2,k1,k2,k3⟩ =>
   have:c2 = []:=k2
   subst this
   rw [akb] at k3
   subst k3
   obtain ⟨m1,m2,m3⟩:=bT.Me (bs:=[]) (pend:=[]) (jK:=[]) (by rw [akb];exact hx.sub) (show aT F3 κ w' [] [] from trivial) (show newP [] σ (dA d) (.row sz rows) = some s' from h4) k1
   exact ⟨v,F3,pJ κ (dA d) v,rfl,m1.rel,m3,fun b hb=>hp.f1 b (e2 b hb),fun k hk=>eF (by unfold dA;omega) _⟩
theorem pz {f:FuncId} {fn:Func} {args:Array Value} (hf:P.funcs[f]? = some fn) (hn:(fn.name == "runtime.NumGoroutine") = false) (hb:fn.body.isSome = true):(callFunc f args).run P w = .ok (.enter f args) w:=by
 unfold callFunc
 have hb':fn.body.isNone = false:=by cases h:fn.body <;> simp_all
 rw [Sem.run_bind,show (program:Sem Program).run P w = .ok P w from rfl]
 simp only [Result.andThen_ok,hf,hn,hb',ajB,ajv]
 rfl
theorem J4 {X:Hx} {i:I} (hc:sU P X o = some i):∃ c l,o.op = .call c ∧ BZ c.args.toList = some l ∧
  ((∃ fn f,(i = .call (X.gv.contains f) f l ∨ i = .zK f l) ∧ c.callee = .value (.func f) ∧ P.funcs[f]? = some fn ∧ (fn.name == "runtime.NumGoroutine") = false ∧ fn.body.isSome = true) ∨ ∃ t,i = .dyn (.t t) l ∧ c.callee = .value (.tmp t)):=by
 unfold sU at hc
 split at hc
 ·rename_i c ho
  split at hc
  ·rename_i f oL
   split at hc
   ·rename_i fn hf
    split at hc
    ·rename_i hh
     obtain ⟨l,h1,rfl⟩:=zmm hc
     refine ⟨c,l,ho,h1,.inl ⟨fn,f,?_,oL,hf,hh.1,hh.2⟩⟩
     split
     ·exact .inr rfl
     ·exact .inl rfl
    ·cases hc
   ·cases hc
  ·rename_i t oL
   obtain ⟨l,h1,rfl⟩:=zmm hc
   exact ⟨c,l,ho,h1,.inr ⟨t,rfl,oL⟩⟩
  ·cases hc
 ·cases hc
def dN (P:Program) (Γ:Env):Prop:=∀ f dS r,Γ f dS = some r → ∃ fn,P.funcs[f]? = some fn ∧ (fn.name == "runtime.NumGoroutine") = false ∧ fn.body.isSome = true
theorem nR.LW : ∀ {caps:List (List FV)} {cs:List Value},nR Fz w caps cs → dO Fz κ w (caps.map fun c=>CV.one (.fp c)) cs
 | [],[],_=>trivial
 | c :: caps,v :: cs,h=>⟨h.1,nR.LW h.2⟩
 | [],_ :: _,h=>h.elim
 | _ :: _,[],h=>h.elim
theorem dO.app : ∀ {xs ys:List CV} {us vs:List Value},dO Fz κ w xs us → dO Fz κ w ys vs → dO Fz κ w (xs ++ ys) (us ++ vs)
 | [],ys,[],vs,_,h=>h
 | x :: xs,ys,u :: us,vs,h,h'=>⟨h.1,dO.app h.2 h'⟩
 | [],_,_ :: _,_,h,_=>h.elim
 | _ :: _,_,[],_,h,_=>h.elim
theorem wJ {gv:Bool} (hC:dN P Γ) {f:FuncId} {nA:List CV} (hE:kU Γ gv q σ d f nA = some (pv,σ')):∃ fn,P.funcs[f]? = some fn ∧ (fn.name == "runtime.NumGoroutine") = false ∧ fn.body.isSome = true:=by
 unfold kU at hE
 obtain ⟨p,h1,hE⟩:=zbm hE
 obtain ⟨r,h2,hE⟩:=zbm hE
 obtain ⟨r',h2,_⟩:=zmm h2
 exact hC f _ _ h2
theorem ZK {X:Hx} (heq:∀ t ∈ X.eqs,lK P t) (kT:iC P Γ) (hC:dN P Γ) (h:Rel bn w0 bg N Fz κ σ a w) {i:I} (hc:sV P X o = some i) (hE:bZ Γ q σ d i = some (pv,σ')) {K:Act → World → Prop} {Q:Exit → Act → World → Prop}
  (hK:∀ v bD eZ w',Good bn w0 bg N q d Fz κ σ a w bD eZ σ' w' pv v → K (a.put o.dst v) w'):o.wp P a w K Q:=by
 unfold sV at hc
 split at hc
 ·rename_i i' hcc
  cases hc
  have TK:∀ c:Call,c.args.map a.eval = (c.args.toList.map a.eval).toArray:=fun c=>by rw [← akn,Array.toArray_toList]
  have fin:∀ {f:FuncId} {fn:Func} {vals:List Value},P.funcs[f]? = some fn → (fn.name == "runtime.NumGoroutine") = false → fn.body.isSome = true → (Calls P f vals.toArray w fun e w'=>∃ v bD eZ,e = .returned v ∧ Good bn w0 bg N q d Fz κ σ a w bD eZ σ' w' pv v) → (execOp a.eval o).run P w = (callFunc f vals.toArray).run P w → o.wp P a w K Q:=by
   intro f fn vals hf hn hb Gr hrun
   unfold Oper.wp
   rw [hrun,pz hf hn hb,Oper.upon_enter]
   refine Calls.mono Gr ?_
   rintro e w' ⟨v,bD,eZ,rfl,hg⟩
   exact hK v bD eZ w' hg
  obtain ⟨c,l,ho,hargs,⟨fn,f,hi,oL,hf,hn,hb⟩ | ⟨t,rfl,oL⟩⟩:=J4 hcc
  ·have Gr:Calls P f (c.args.toList.map a.eval).toArray w fun e w'=>∃ v bD eZ,e = .returned v ∧ Good bn w0 bg N q d Fz κ σ a w bD eZ σ' w' pv v:=by
    rcases hi with rfl | rfl
    ·obtain ⟨nA,h1,h2⟩:=zbm hE
     exact Aw kT h (tH h hargs h1) h2
    ·obtain ⟨nA,h1,h2⟩:=zbm hE
     exact Gq kT h (tH h hargs h1) h2
   refine fin hf hn hb Gr ?_
   unfold execOp resolve
   simp only [ho,oL,TK,Sem.run_bind]
   show (do let d ← Deferred.ofValue (a.eval (.func f)) (c.args.toList.map a.eval).toArray;invoke d.target d.args:Sem Next).run P w = _
   have hd:Deferred.ofValue (a.eval (.func f)) (c.args.toList.map a.eval).toArray = pure { target:=.fn (.func f) #[],args:=#[] ++ (c.args.toList.map a.eval).toArray }:=rfl
   rw [hd]
   simp only [Sem.run_bind,Sem.run_pure,Result.andThen_ok,invoke,Array.empty_append,Array.append_empty]
  ·obtain ⟨v,h1,h2⟩:=zbm hE
   have hv:=h.eval (x:=.tmp t) rfl h1
   split at h2
   ·rename_i f caps
    obtain ⟨nA,h3,h4⟩:=zbm h2
    obtain ⟨cs,e1,e2⟩:=hv
    obtain ⟨fn,hf,hn,hb⟩:=wJ hC h4
    refine fin hf hn hb (Aw kT h ((tH h hargs h3).app e2.LW) h4) ?_
    unfold execOp resolve
    simp only [ho,oL,TK,Sem.run_bind]
    rw [e1]
    have hd:Deferred.ofValue (.func (.func f) #[] cs.toArray) (c.args.toList.map a.eval).toArray = pure { target:=.fn (.func f) cs.toArray,args:=#[] ++ (c.args.toList.map a.eval).toArray }:=rfl
    rw [hd]
    simp only [Sem.run_bind,Sem.run_pure,Result.andThen_ok,invoke,Array.empty_append,List.append_toArray,List.nil_append]
   ·cases h2
 ·split at hc
  ·rename_i i' hc0
   split at hc
   ·cases hc
   ·rename_i hi
    cases hc
    obtain ⟨r,w',eZ,bD,v,h1,h2,h3⟩:=Mc heq h hc0 (ajP.mpr hi) hE
    unfold Oper.wp
    rw [h1]
    rcases h2 with rfl | ⟨rfl,rfl⟩
    ·exact hK v bD eZ w' h3
    ·exact hK undef bD eZ w' h3
  ·cases hc
end
end
section
open Go
def Ok (bn:Nat → Prop) (w0:World) (bg:List Nat) (N:Fr) (iV:Nat → Value) (σ:St) (a:Act) (w:World):Prop:=∃ Fz κ,Rel bn w0 bg N Fz κ σ a w ∧ ∀ k,k % 2 = 1 → κ k = iV k
section
variable {P : Program} {Γ:Env} {bn:Nat → Prop} {w0 w w':World} {bg:List Nat} {N:Fr} {d:Nat} {q:Bool} {iV:Nat → Value} {σ σ1 σ':St} {a:Act} {pv:PV} {o:Oper} {X:Hx} {ops:Array Oper}
theorem El {Fz:Nat → Prop} {κ:Nat → Value} (h:Rel bn w0 bg N Fz κ σ a w) {t:Bool} (hg:zO σ (o.guard.map fun p=>((ops[p.1]?).bind (·.dst),p.2)) = some t):Region.wanted o (yielded ops a.tmps) = t:=by
 unfold Region.wanted
 cases hgu:o.guard with
 | none=>rw [hgu] at hg;cases hg;rfl
 | some p =>
  obtain ⟨j,want⟩:=p
  rw [hgu] at hg
  simp only [Option.map_some] at hg
  simp only [yielded]
  cases hd:(ops[j]?).bind (·.dst) with
  | none=>rw [hd] at hg;cases hg;rfl
  | some s =>
   rw [hd] at hg
   simp only [Option.bind_some]
   simp only [zO] at hg
   split at hg
   ·rename_i b hb
    cases hg
    have hv:a.tmps.getD s undef = .bool b:=h.val hb
    rw [ajT] at hv
    cases ht:a.tmps[s]? with
    | none=>rw [ht] at hv;cases hv
    | some v =>
     rw [ht] at hv
     simp only [Option.getD_some] at hv
     subst hv
     cases b <;> cases want <;> rfl
   ·rename_i hb
    cases hg
    have hv:a.tmps.getD s undef = undef:=h.val hb
    rw [ajT] at hv
    cases ht:a.tmps[s]? with
    | none=>rfl
    | some v =>
     rw [ht] at hv
     simp only [Option.getD_some] at hv
     subst hv
     rfl
   ·cases hg
theorem wV (heq:∀ t ∈ X.eqs,lK P t) (kT:iC P Γ) (hC:dN P Γ) {g:G} (hg:sW P X ops N.ok o = some g) (h:Ok bn w0 bg N iV σ a w) (hE:mH Γ q σ g = some (pv,σ')) {K:Act → World → Prop} {Q:Exit → Act → World → Prop}
  (hK:∀ a' w',Ok bn w0 bg N iV (qU σ' g.dst pv) a' w' → K a' w'):if Region.wanted o (yielded ops a.tmps) then o.wp P a w K Q ∨ (o.asks P a w ∧ LetsOut Q) else K (a.put o.dst undef) w:=by
 obtain ⟨Fz,κ,h,hk⟩:=h
 obtain ⟨i,h1,h2⟩:=zbm hg
 split at h2
 ·rename_i hd
  cases h2
  obtain ⟨t,h3,h4⟩:=zbm hE
  have hput:∀ {bD eZ w' pv v s},Rel bn w0 bg N bD eZ s a w' → iK bD eZ w' pv v → Rel bn w0 bg N bD eZ (qU s o.dst pv) (a.put o.dst v) w':=by
   intro bD eZ w' pv v s hr hv
   cases hdst:o.dst with
   | none=>exact hr.LJ v
   | some d =>
    rw [hdst] at hd
    exact hr.put (by simpa using hd) hv
  rw [El h h3]
  cases t with
  | true =>
   rw [ai8 rfl]
   left
   rw [ai8 rfl] at h4
   refine ZK heq kT hC h h1 h4 ?_
   intro v bD eZ w' hg
   exact hK _ _ ⟨bD,eZ,hput hg.rel hg.val,fun k hk'=>(hg.e6 k hk').trans (hk k hk')⟩
  | false =>
   rw [ai9 (by decide)]
   rw [ai9 (by decide)] at h4
   cases h4
   exact hK _ _ ⟨Fz,κ,hput h rfl,hk⟩
 ·cases h2
theorem Cw (heq:∀ t ∈ X.eqs,lK P t) (kT:iC P Γ) (hC:dN P Γ) {g:G} (hg:sW P X ops N.ok o = some g) (h:Ok bn w0 bg N iV σ a w) (hE:PE Γ q σ g = some σ') {K:Act → World → Prop} {Q:Exit → Act → World → Prop}
  (hK:∀ a' w',Ok bn w0 bg N iV σ' a' w' → K a' w'):if Region.wanted o (yielded ops a.tmps) then o.wp P a w K Q ∨ (o.asks P a w ∧ LetsOut Q) else K (a.put o.dst undef) w:=by
 obtain ⟨p,h1,h2⟩:=zmm hE
 subst h2
 exact wV heq kT hC hg h h1 hK
theorem Ms (heq:∀ t ∈ X.eqs,lK P t) (kT:iC P Γ) (hC:dN P Γ) {Q:Exit → Act → World → Prop}:∀ {l:List Oper} {gs:List G} {σ:St} {a:Act} {w:World},kg P X ops N.ok l = some gs → Ok bn w0 bg N iV σ a w → wI Γ q gs σ = some σ' → (∀ a' w',Ok bn w0 bg N iV σ' a' w' → Q .normal a' w') → wpList P ops Q l a w
 | [],gs,σ,a,w,hc,h,hE,hQ=>by cases hc;cases hE;exact hQ a w h
 | o :: l,gs,σ,a,w,hc,h,hE,hQ=>by
  obtain ⟨g,h1,h2⟩:=zbm hc
  obtain ⟨r,h3,rfl⟩:=zmm h2
  obtain ⟨s,h4,h5⟩:=zbm hE
  exact Cw heq kT hC h1 h h4 (fun a' w' h'=>Ms heq kT hC h3 h' h5 hQ)
end
end
section
open Go
def Ql : I → Bool
 | .alloc _ _=>false
 | .box _ _=>false
 | .zH _ _ _ _ _=>false
 | .PD _ _ _ _ _=>false
 | .zK _ _=>false
 | .store _ _ _=>false
 | .pK _=>false
 | .xu _ _ _ _=>false
 | .del _ _ _=>false
 | .app _ _ _ _ _=>false
 | .TB _ _ _=>false
 | _=>true
def jB : dM → List Nat
 | .t i=>[i]
 | .k _=>[]
def Gs : Option dM → List Nat
 | none=>[]
 | some x=>jB x
def ZL (ps:List (Nat × Nat × dM)):List Nat:=ps.flatMap fun p=>jB p.2.2
def nJ : I → List Nat
 | .mv x=>jB x
 | .pick c x y=>jB c ++ jB x ++ jB y
 | .alloc _ _=>[]
 | .box _ x=>jB x
 | .build _ ps=>ZL ps
 | .zH _ _ _ _ ps=>ZL ps
 | .PD _ _ _ _ ps=>ZL ps
 | .load _ _ x=>jB x
 | .store _ x v=>jB x ++ jB v
 | .gZ x=>jB x
 | .xq _ x=>jB x
 | .ar _ x y=>jB x ++ jB y
 | .cmp _ x y=>jB x ++ jB y
 | .ru _ _ x y=>jB x ++ jB y
 | .cat x y=>jB x ++ jB y
 | .no x=>jB x
 | .ci _ x=>jB x
 | .nA x=>jB x
 | .pK _=>[]
 | .JO x lo hi=>jB x ++ Gs lo ++ Gs hi
 | .cut _ x lo hi=>jB x ++ Gs lo ++ Gs hi
 | .fa _ x=>jB x
 | .Yd _ _ _ x=>jB x
 | .ia _ x i=>jB x ++ jB i
 | .idx _ _ _ x i=>jB x ++ jB i
 | .chr x i=>jB x ++ jB i
 | .look _ _ _ x k=>jB x ++ jB k
 | .xu _ x k v=>jB x ++ jB k ++ jB v
 | .del _ x k=>jB x ++ jB k
 | .ext x _=>jB x
 | .xw x=>jB x
 | .iB x=>jB x
 | .JQ x=>jB x
 | .app _ _ _ x y=>jB x ++ jB y
 | .mn x y=>jB x ++ jB y
 | .mx x y=>jB x ++ jB y
 | .call _ _ xs=>xs.flatMap jB
 | .zK _ xs=>xs.flatMap jB
 | .zL _ x=>jB x
 | .bit _ x y=>jB x ++ jB y
 | .Vd _ x y=>jB x ++ jB y
 | .PX _ xs=>xs.flatMap jB
 | .dyn x xs=>jB x ++ xs.flatMap jB
 | .DZ _ x y=>jB x ++ jB y
 | .cutV _ x y=>jB x ++ jB y
 | .TB _ _ x=>jB x
 | .Ye x=>jB x
section
variable {Γ : Env} {d:Nat} {σ σ2 σ':St} {pv:PV}
def Same (l:List Nat) (σ σ2:St):Prop:=∀ s ∈ l,get σ2.tm s = get σ.tm s
theorem Same.l {l m:List Nat} (h:Same (l ++ m) σ σ2):Same l σ σ2:=fun s hs=>h s (by simp [hs])
theorem Same.r {l m:List Nat} (h:Same (l ++ m) σ σ2):Same m σ σ2:=fun s hs=>h s (by simp [hs])
theorem Same.val {x:dM} (h:Same (jB x) σ σ2):Ev.val σ2 x = Ev.val σ x:=by
 cases x with
 | t i=>simp only [Ev.val];rw [h i (by simp [jB])]
 | k x=>rfl
theorem Same.sM {x:dM} (h:Same (jB x) σ σ2):Ev.sM σ2 x = Ev.sM σ x:=by
 cases x with
 | t i=>simp only [Ev.sM];rw [h i (by simp [jB])]
 | k x=>rfl
theorem Same.vals : ∀ {ps:List (Nat × Nat × dM)},Same (ZL ps) σ σ2 → Ev.vals σ2 ps = Ev.vals σ ps
 | [],_=>rfl
 | (o,n,x) :: ps,h=>by
  unfold ZL at h
  rw [akN] at h
  unfold Ev.vals
  rw [h.l.val,Same.vals h.r]
theorem Same.jw : ∀ {xs:List dM},Same (xs.flatMap jB) σ σ2 → Ev.jw σ2 xs = Ev.jw σ xs
 | [],_=>rfl
 | x :: xs,h=>by
  rw [akN] at h
  unfold Ev.jw
  rw [h.l.val,Same.jw h.r]
theorem Same.bnd {x:Option dM} {n m:Nat} (h:Same (Gs x) σ σ2):Ev.bnd σ2 n x m = Ev.bnd σ n x m:=by
 cases x with
 | none=>rfl
 | some x=>simp only [Ev.bnd];rw [Same.val h]
theorem Same.rng {lo hi:Option dM} {n:Nat} (hl:Same (Gs lo) σ σ2) (hh:Same (Gs hi) σ σ2):Ev.rng n σ2 lo hi = Ev.rng n σ lo hi:=by
 unfold Ev.rng
 rw [hh.bnd]
 congr 1
 funext h
 rw [hl.bnd]
theorem Ay {gv:Bool} {x:PL} {y:TV} (ho:∀ k o,get σ.ob k = some o → get σ2.ob k = some o) (h:rT gv σ x = some (y,σ')) (hp:plain y = true):σ' = σ ∧ rT gv σ2 x = some (y,σ2):=by
 cases x with
 | f x=>cases h;exact ⟨rfl,rfl⟩
 | bY=>cases h;exact ⟨rfl,rfl⟩
 | iU=>cases h;exact ⟨rfl,rfl⟩
 | fA=>cases h;exact ⟨rfl,rfl⟩
 | own k n =>
  simp only [rT] at h ⊢
  split at h
  ·rename_i hk
   split at h
   ·cases h;cases hp
   ·rename_i hg;cases h;rw [ho _ _ hk];simp only [ai9 hg];exact ⟨trivial,trivial⟩
  ·cases h
 | fp cs=>cases h;exact ⟨rfl,rfl⟩
 | fn f cs=>cases h;exact ⟨rfl,rfl⟩
 | mp k =>
  simp only [rT] at h
  split at h
  ·cases h;cases hp
  ·cases h
 | ptr k o =>
  cases o with
  | succ n=>cases h
  | zero =>
   simp only [rT] at h
   split at h
   ·obtain ⟨p,_,h2⟩:=zmm h;cases h2;cases hp
   ·cases h
 | _=>cases h
theorem xW {gv:Bool} (ho:∀ k o,get σ.ob k = some o → get σ2.ob k = some o):∀ {xs:List PL} {ys:List TV} {σ':St},rU gv σ xs = some (ys,σ') → ys.all plain = true → σ' = σ ∧ rU gv σ2 xs = some (ys,σ2)
 | [],ys,σ',h,_=>by cases h;exact ⟨rfl,rfl⟩
 | x :: xs,ys,σ',h,hp=>by
  obtain ⟨p,h1,h2⟩:=zbm h
  obtain ⟨r,h3,h4⟩:=zmm h2
  cases h4
  rw [List.all_cons,ajg] at hp
  obtain ⟨e1,e2⟩:=Ay ho h1 hp.1
  rw [e1] at h3
  obtain ⟨e3,e4⟩:=xW ho h3 hp.2
  exact ⟨e3,by unfold rU;rw [e2];simp only [Option.bind_some];rw [e4];rfl⟩
theorem xX {gv:Bool} (ho:∀ k o,get σ.ob k = some o → get σ2.ob k = some o):∀ {xs:List CV} {ys:List AV} {σ':St},sI gv σ xs = some (ys,σ') → ys.all fJ = true → σ' = σ ∧ sI gv σ2 xs = some (ys,σ2)
 | [],ys,σ',h,_=>by cases h;exact ⟨rfl,rfl⟩
 | x :: xs,ys,σ',h,hp=>by
  obtain ⟨p,h1,h2⟩:=zbm h
  obtain ⟨r,h3,h4⟩:=zmm h2
  cases h4
  rw [List.all_cons,ajg] at hp
  have key:p.2 = σ ∧ Lg gv σ2 x = some (p.1,σ2):=by
   cases x with
   | one x =>
    obtain ⟨u,g1,g2⟩:=zmm h1
    obtain ⟨e1,e2⟩:=Ay ho g1 (by rw [← g2] at hp;exact hp.1)
    exact ⟨by rw [← g2];exact e1,by simp only [Lg];rw [e2,← g2];rfl⟩
   | agg xs =>
    obtain ⟨u,g1,g2⟩:=zmm h1
    obtain ⟨e1,e2⟩:=xW ho g1 (by rw [← g2] at hp;exact hp.1)
    exact ⟨by rw [← g2];exact e1,by simp only [Lg];rw [e2,← g2];rfl⟩
  rw [key.1] at h3
  obtain ⟨e3,e4⟩:=xX ho h3 hp.2
  exact ⟨e3,by unfold sI;rw [key.2];simp only [Option.bind_some];rw [e4];rfl⟩
theorem Az {key:Nat} {pend:List PL} {x:TV} (hp:plain x = true):∃ l,∀ σ,DR key pend σ x = some (l,σ):=by
 cases x with
 | f x=>exact ⟨_,fun _=>rfl⟩
 | iU=>exact ⟨_,fun _=>rfl⟩
 | fA=>exact ⟨_,fun _=>rfl⟩
 | fp cs=>exact ⟨_,fun _=>rfl⟩
 | fn f cs=>exact ⟨_,fun _=>rfl⟩
 | any=>exact ⟨_,fun _=>rfl⟩
 | _=>cases hp
theorem xY {base:Nat}:∀ {xs:List TV} {j:Nat} {pend:List PL},xs.all plain = true → ∃ l,∀ σ,xE base j pend σ xs = some (l,σ)
 | [],_,_,_=>⟨[],fun _=>rfl⟩
 | x :: xs,j,pend,hp=>by
  rw [List.all_cons,ajg] at hp
  obtain ⟨l,h1⟩:=Az (key:=base + 200 * (j + 1)) (pend:=pend) hp.1
  obtain ⟨m,h2⟩:=xY (base:=base) (j:=j + 1) (pend:=l :: pend) hp.2
  exact ⟨l :: m,fun σ=>by unfold xE;rw [h1];simp only [Option.bind_some];rw [h2];rfl⟩
theorem xZ {base:Nat}:∀ {xs:List AV} {i:Nat} {pend:List PL},xs.all fJ = true → ∃ l,∀ σ,xG base i pend σ xs = some (l,σ)
 | [],_,_,_=>⟨[],fun _=>rfl⟩
 | x :: xs,i,pend,hp=>by
  rw [List.all_cons,ajg] at hp
  have key:∃ l,∀ σ,Lh (base + 2000 * i) pend σ x = some (l,σ):=by
   cases x with
   | one x=>obtain ⟨l,h⟩:=Az (key:=base + 2000 * i + 200) (pend:=pend) hp.1;exact ⟨.one l,fun σ=>by simp only [Lh];rw [h];rfl⟩
   | agg xs=>obtain ⟨l,h⟩:=xY (base:=base + 2000 * i) (j:=0) (pend:=pend) hp.1;exact ⟨.agg l,fun σ=>by simp only [Lh];rw [h];rfl⟩
  obtain ⟨l,h1⟩:=key
  obtain ⟨m,h2⟩:=xZ (base:=base) (i:=i + 1) (pend:=cells l ++ pend) hp.2
  exact ⟨l :: m,fun σ=>by unfold xG;rw [h1];simp only [Option.bind_some];rw [h2];rfl⟩
theorem yc {gv:Bool} (ho:∀ k o,get σ.ob k = some o → get σ2.ob k = some o) {f:FuncId} {args:List CV} (hE:kU Γ gv true σ d f args = some (pv,σ')):σ' = σ ∧ kU Γ gv true σ2 d f args = some (pv,σ2):=by
 unfold kU at hE ⊢
 obtain ⟨p,h1,hE⟩:=zbm hE
 obtain ⟨r,h2,hE⟩:=zbm hE
 split at hE
 ·cases hE
 rename_i hq1
 split at hE
 ·cases hE
 rename_i hq2
 have hpl:p.1.all fJ = true ∧ r.1.all fJ = true:=by simpa using hq1
 obtain ⟨e1,e2⟩:=xX ho h1 hpl.1
 obtain ⟨l,hl⟩:=xZ (base:=dA d) (i:=0) (pend:=[]) hpl.2
 have hfr:((r.1.any wH || !p.1.all fJ) && args.any (fun x=>(cells x).any gD)) = false:=by
  cases hc:((r.1.any wH || !p.1.all fJ) && args.any (fun x=>(cells x).any gD)) with
  | false=>rfl
  | true=>rw [hc] at hq2;exact absurd rfl hq2
 have h3:(r.1.any wH && args.any (fun x=>(cells x).any gD)) = false:=by simpa [hpl.1] using hfr
 simp only [hpl.1,hpl.2,akG,Bool.or_false,h3,ajB,ajv,ajH,Option.bind_some,hl,Option.map_some,Bool.and_false,Bool.and_self,ajl,ajm] at hE
 simp only [e2,Option.bind_some,h2,hpl.1,hpl.2,akG,Bool.or_false,h3,ajB,ajv,ajH,hl,Option.map_some,Bool.and_false,Bool.and_self]
 exact ⟨by rw [← hE.2];exact e1,by rw [hE.1]⟩
end
end
end Go.Proofs.YtfokaoeinpnagaaGreat.Ev

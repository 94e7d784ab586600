/- A part of the proof of SeekDone: cut, joined and given short names by a program of this session (wip/tools/pack.py); Lean checks it. No condition. -/
import Derived.Test.YtfokaoeinpnagaaGreatPSDned
import Derived.Carry
import Derived.Laws.Cover3
import Derived.WalkSpells
import Derived.Laws.BytesString
import Derived.Lib.SliceRun
import Derived.Lib.BufferMore
import Derived.Laws.Pointers
import Derived.Calls
import Derived.LoopN
import Derived.Tactics
set_option linter.unusedSectionVars false
set_option linter.unusedSimpArgs false
set_option linter.unusedVariables false
set_option maxHeartbeats 16000000
set_option maxRecDepth 100000
namespace Go.Proofs.YtfokaoeinpnagaaGreat.Ev
section
open Go
section
variable {P : Program} {Γ:Env} {aY Fz bA:Nat → Prop} {w0 w w':World} {aX:List Nat} {N:Fr} {d:Nat} {q:Bool} {κ eU:Nat → Value} {σ σ1 σ':St} {a:Act} {pv:PV} {o:Oper}
theorem lF (cells:Array Value) (hn:0 < cells.size):∀ (len:Nat),(List.range (len * cells.size)).map (fun j=>cells[j % cells.size]!) = (List.replicate len cells.toList).flatten
 | 0=>by simp
 | len + 1=>by
  have ih:=lF cells hn len
  rw [aja,Nat.add_comm,List.range_add,ajL,List.map_map,List.replicate_succ,List.flatten_cons]
  congr 1
  ·refine List.ext_getElem (by simp) fun j h1 h2=>?_
   have hj:j < cells.size:=by simpa using h2
   simp [Nat.mod_eq_of_lt hj,hj]
  ·rw [← ih]
   refine List.map_congr_left fun j _=>?_
   simp [Nat.add_mod_left]
theorem aN.app : ∀ {xs ys:List PL} {us vs:List Value},aN Fz κ w xs us → aN Fz κ w ys vs → aN Fz κ w (xs ++ ys) (us ++ vs):=by
 intro xs
 induction xs with
 | nil=>intro ys us vs h h';cases us with | nil=>exact h' | cons _ _=>exact h.elim
 | cons x xs ih=>intro ys us vs h h';cases us with | nil=>exact h.elim | cons u us=>exact ⟨h.1,ih h.2 h'⟩
theorem aN.K4 {xs:List PL} {us:List Value} (h:aN Fz κ w xs us):∀ (n:Nat),aN Fz κ w (List.replicate n xs).flatten (List.replicate n us).flatten
 | 0=>trivial
 | n + 1=>by rw [List.replicate_succ,List.replicate_succ,List.flatten_cons,List.flatten_cons];exact h.app (h.K4 n)
theorem Pn {t e:TypeId} {len:Nat} {parts:Array (Nat × Value)} {cells:Array Value} {ie:TypeInfo} {z:Value} (hu:P.underlying t = some (.slice e)) (hie:P.info? e = some ie) (hz:ie.zero = some z) (hsmall:¬ len * ie.size > 2 ^ 24)
  (h:Instr.fill (fun i=>some (i * ie.size,ie.size)) ((Array.range (len * ie.size)).map (z.cells[· % z.cells.size]!)) parts.toList = some cells) :
  (Instr.buildSlice t len parts).run P w = .ok (.slice (some ⟨w.heap.size,0,none⟩) len len) (w.alloc (.cells cells e)):=by
 by_cases hpos:len * ie.size = 0
 ·rw [hpos] at h
  have e0:∀ (x:Array Value),(Array.range 0).map (fun j=>x[j % x.size]!) = (#[]:Array Value):=fun x=>by simp
  rw [e0] at h
  have e1:((Array.range (len * ie.size)).map (fun j=>(#[]:Array Value)[j % (#[]:Array Value).size]!)) = (#[]:Array Value):=by rw [hpos];simp
  unfold Instr.buildSlice
  simp only [Sem.run_bind,run_underlying hu,sizeOf,typeInfo,Result.andThen_ok]
  have e2:Array.map (fun (x:Nat)=>(default:Value)) (Array.range 0) = #[]:=by simp
  simp [hie,hpos,newRow]
  rw [e2,h]
  rfl
 ·exact run_buildSlice w t e len parts cells ie z hu hie hz hsmall hpos h
theorem SA (h:Rel aY w0 aX N Fz κ σ a w) {t e:TypeId} {len sz:Nat} {ps:Array (Nat × Operand)} {z:List PL} {l:List (Nat × Nat × dH)} (hu:P.underlying t = some (.slice e)) (hn:kZ P e = some sz) (hs:¬ (sz = 0 ∨ len * sz > 16777216)) (hz:zR P e = some z) (hzl:z.length = sz) (hp:nW sz ps.toList = some l)
  (hE:bV Γ q σ d (.wK e sz len (List.replicate len z).flatten l) = some (pv,σ')) :
  Does P aY w0 aX N q d Fz κ σ a w (do let v ← Instr.buildSlice t len (ps.map fun (i,x)=>(i,a.eval x));Pure.pure (.value v)) σ' pv:=by
 obtain ⟨vs,h1,h2⟩:=zbm hE
 obtain ⟨z',h3,h4⟩:=zbm h2
 split at h4
 ·cases h4
 ·rename_i hq
  obtain ⟨p,h5,h6⟩:=zbm h4
  obtain ⟨s,h7,h8⟩:=zmm h6
  cases h8
  obtain ⟨i,zv,e1,e2,e3⟩:=uI (Fz:=Fz) (κ:=κ) (w:=w) hz
  have hsz:i.size = sz:=by unfold kZ at hn;rw [e1] at hn;simpa using hn
  have hlz:=e3.length
  rw [Array.length_toList,hzl] at hlz
  have hzs:zv.cells.size = sz:=by omega
  have hb:aN Fz κ w (List.replicate len z).flatten ((Array.range (len * i.size)).map (zv.cells[· % zv.cells.size]!)).toList:=by
   rw [ajz,Array.toList_range,hsz,← hzs,lF zv.cells (by omega) len]
   exact e3.K4 len
  obtain ⟨cs',e6,e7,e8⟩:=mX h (place:=fun i=>some (i * sz,sz)) (ps:=ps.toList) (fun _=>trivial) (qg hp) h1 h3 hb
  have hcs:cs'.size = len * sz:=by rw [e8];simp [hsz]
  obtain ⟨bA,g1,g2,g3,g4,g5⟩:=h.Pm e7 hq h5
  obtain ⟨a1,a2,a3⟩:=lX w (.cells cs' e (0,0))
  have hlen:p.1.length = len * sz:=by have:=g3.len;rw [Array.length_toList] at this;omega
  have hrun:=Pn (P:=P) (w:=w) (t:=t) (e:=e) (len:=len) (parts:=ps.map fun (i,x)=>(i,a.eval x)) (cells:=cs') hu e1 e2 (by rw [hsz];omega) (by rw [ajz];rw [hsz] at e6 ⊢;exact e6)
  refine Does.after g2 g4 g5 ⟨_,_,_,_,_,by rw [Sem.run_bind,hrun];rfl,.inl rfl,Good.new (pl:=.own (dx d) len) g1 h7 (by omega) a2 (fun b hb=>by cases hb;exact ⟨aiq _,by show w.heap.size < _;omega⟩) ⟨rfl,rfl⟩ ?_ ⟨by rw [bL],_,_,rfl⟩⟩
  refine ⟨by omega,e,cs'.toList,some ⟨w.heap.size,0,none⟩,len,by rw [bL,rD],?_,eD.mono (fun _ h=>h) (fun b hb=>a2 b (g1.fz b hb).1) sz _ _ (zX g3 hlen)⟩
  rw [bL,rD]
  have hle:len ≤ len * sz:=Nat.le_mul_of_pos_right _ (by omega)
  refine ⟨by rw [Array.length_toList];exact hcs,.inr ⟨w.heap.size,len,cs',rfl,aiU _,a1,aiq _,by simp only [maxLen];omega,hcs,?_⟩⟩
  rw [ajX]
  rw [Array.length_toList];omega
theorem YG (h:Rel aY w0 aX N Fz κ σ a w) {t e:TypeId} {len sz:Nat} {ps:Array (Nat × Operand)} {z:List PL} {l:List (Nat × Nat × dH)} (hu:P.underlying t = some (.slice e)) (hn:kZ P e = some sz) (hs:¬ (sz = 0 ∨ len * sz > 16777216)) (hz:zR P e = some z) (hzl:z.length = sz) (hp:nW sz ps.toList = some l)
  (hE:bV Γ q σ d (.OP e sz len (List.replicate len z).flatten l) = some (pv,σ')) :
  Does P aY w0 aX N q d Fz κ σ a w (do let v ← Instr.buildSlice t len (ps.map fun (i,x)=>(i,a.eval x));Pure.pure (.value v)) σ' pv:=by
 obtain ⟨⟨pv1,σ1⟩,hE1,h2⟩:=zbm hE
 obtain ⟨r,w',eU,bA,v,g1,g2,g3⟩:=SA (Γ:=Γ) (q:=q) (d:=d) h hu hn hs hz hzl hp hE1
 simp only at h2
 unfold Dl at h2
 split at h2
 ·rename_i x s
  obtain ⟨y,h3,h4⟩:=zmm h2
  cases h4
  obtain ⟨F2,k1,k2,k3⟩:=g3.rel.vo g3.val h3
  exact ⟨r,w',eU,F2,v,g1,g2,⟨k1,k3,fun b hb=>k2 b (g3.f1 b hb),g3.e6⟩⟩
 ·cases h2
theorem Kp.setRow (w:World) (b:Nat) (c:Array Value):Kp w (w.setRow b c):=⟨rfl,rfl⟩
theorem Good.set (h:Rel aY w0 aX N Fz κ σ a w) {key:Nat} {o o':Ob} (hk:get σ.ob key = some o) (hs:w.heap.size ≤ w'.heap.size) (hb:∀ b,b < w.heap.size → blk (κ key) ≠ some b → w'.heap[b]? = w.heap[b]?)
  (hkp:Kp w w') (ho:iF 0 Fz κ w' key o') {v:Value} (hv:iC Fz κ w' pv v):Good aY w0 aX N q d Fz κ σ a w Fz κ (jm σ key o') w' pv v where
 rel:=h.set hk hs hb hkp ho
 val:=hv
 f1:=fun _ h=>h
 e6:=fun _ _=>rfl
theorem vD {t:TypeId} {n g off:Nat} {cur:Array Value} {e:TypeId} {v:Value} (hn:kZ P t = some n) (hv:v.cells.toList.length = n) (h1:∀ u ∈ v.cells.toList,u.oneCell' = true) (hg:w.heap[g]? = some (.cells cur e (0,0))) (hl:off + n ≤ cur.size) :
  (Instr.storeAt t (.pointer (some ⟨g,off,none⟩)) v).run P w = .ok () (w.setRow g (cur.toList.take off ++ v.cells.toList ++ cur.toList.drop (off + v.cells.toList.length)).toArray):=by
 have:=run_storeCells_at P g off e v.cells.toList 0 cur w hg (by omega) h1
 rw [Nat.add_zero] at this
 have hs:(Instr.sureAddr (.pointer (some ⟨g,off,none⟩))).run P w = .ok ⟨g,off,none⟩ w:=rfl
 unfold Instr.storeAt storeVar
 rw [Array.length_toList] at hv
 simp only [Sem.run_bind,hs,Result.andThen_ok,nE hn]
 rw [ain (by omega)]
 exact this
theorem Po (h:Rel aY w0 aX N Fz κ σ a w) {t:TypeId} {n:Nat} {x y:Operand} {x' y':dH} (hn:kZ P t = some n) (hx:fA x = some x') (hy:fA y = some y') (hE:bV Γ q σ d (.store n x' y') = some (pv,σ')) :
  Does P aY w0 aX N q d Fz κ σ a w (do Instr.storeAt t (a.eval x) (a.eval y);Pure.pure .skip) σ' pv:=by
 obtain ⟨v,h1,h2⟩:=zbm hE
 obtain ⟨u,h3,h4⟩:=zbm h2
 have hv:=h.eval hx h1
 split at h4
 ·rename_i hc
  obtain ⟨e1,e2⟩:=(h.eval hy h3).cells hc.2
  have hlen:=e1.length
  rw [hc.1] at hlen
  split at h4
  ·rename_i key off
   split at h4
   ·rename_i xs fQ
    obtain ⟨l,h5,h6⟩:=zmm h4
    cases h6
    obtain ⟨b,e3,e4⟩:=hv
    obtain ⟨b',cs,e,e5,e6,e7⟩:=h.obj fQ
    rw [e3] at e5
    cases e5
    obtain ⟨e8,e9⟩:=e7.lay e1 h5
    have hrun:=vD (P:=P) hn hlen e2 e6 (off:=off) (by rw [Array.length_toList (xs:=cs)] at e9;omega)
    refine ⟨.skip,w.setRow b _,κ,Fz,undef,by rw [e4,Sem.run_bind,hrun];rfl,.inr ⟨rfl,rfl⟩,Good.set h fQ (by simp) (fun k _ hk=>setRow_other w b k _ (fun e=>hk (by rw [e3,e];rfl))) (Kp.setRow _ _ _) ?_ rfl⟩
    refine ⟨b,_,e,e3,setRow_heap w b cs _ e _ e6,?_⟩
    exact aN.mono (fun _ h=>h) (fun k hk=>setRow_other w b k _ (fun e=>(h.pos _ (get_mem fQ) b (by rw [e3];rfl)).1 (e ▸ hk))) _ (fun _ _=>rfl) _ e8
   ·cases h4
  ·rename_i key z i off
   split at h4
   ·cases h4
   ·rename_i hq
    obtain ⟨p,h5,h6⟩:=zbm h4
    obtain ⟨bA,g1,g2,g3,g4,g5⟩:=h.Pm e1 hq h5
    split at h6
    ·rename_i sz rows fQ
     split at h6
     ·cases h6
     ·rename_i hz
      have hz':sz = z:=ai3.mp hz
      subst hz'
      obtain ⟨r,h7,h8⟩:=zbm h6
      obtain ⟨l,h9,h10⟩:=zmm h8
      cases h10
      refine Does.after g2 g4 g5 ?_
      obtain ⟨b,n',c,e3,e4⟩:=hv
      obtain ⟨o0,e,inner,A,c',o1,⟨o2,o3⟩,o4⟩:=g1.obj fQ
      obtain ⟨r1,r2,r3⟩:=o4.set g3 h7 h9
      rcases o3 with ⟨o3,o5⟩ | ⟨g,cap,cur,o3,o5,o6,o7,o8,o9,o10⟩
      ·rw [o3] at e3;cases e3
      ·rw [o3] at e3
       injection e3 with q1 q2 q3
       injection q1 with q1
       injection q1 with q1
       subst q1
       have hci:inner.length ≤ cur.toList.length:=by rw [← o10,aiC];exact Nat.min_le_right _ _
       have hm:(i + 1) * sz = i * sz + sz:=aja i sz
       rw [hm] at r3
       have hrun:=vD (P:=P) hn hlen e2 o6 (off:=i * sz + off) (by rw [Array.length_toList (xs:=cur)] at hci;omega)
       have hpos:=(g1.pos _ (get_mem fQ) g (by show blk (κ key) = _;rw [o3];rfl)).1
       have hmv:∀ k,bA k → (w.setRow g (cur.toList.take (i * sz + off) ++ (a.eval y).cells.toList ++ cur.toList.drop (i * sz + off + (a.eval y).cells.toList.length)).toArray).heap[k]? = w.heap[k]?:=fun k hk=>setRow_other w g k _ (fun e=>hpos (e ▸ hk))
       refine ⟨.skip,_,κ,bA,undef,by rw [e4,Sem.run_bind,hrun];rfl,.inr ⟨rfl,rfl⟩,Good.set g1 fQ (by simp) (fun k _ hk=>setRow_other w g k _ (fun e=>hk (by rw [o3,e];rfl))) (Kp.setRow _ _ _) ?_ rfl⟩
       have hle:i * sz + off + (a.eval y).cells.toList.length ≤ inner.length:=by omega
       have hn2:=o2
       refine ⟨o0,e,_,A,c',by rw [ajW];exact o1,?_,eD.mono (fun _ h=>h) hmv sz _ _ r1⟩
       rw [ajW]
       refine ⟨by simp only [aiv,aiC,aiR];omega,.inr ⟨g,cap,_,o3,o5,setRow_heap w g cur _ e _ o6,o7,o8,?_,?_⟩⟩
       ·simp only [List.size_toArray,aiv,aiC,aiR,Array.length_toList] at *
        omega
       ·refine ajx fun j=>?_
        have e5:i * sz + off + (a.eval y).cells.toList.length ≤ cur.toList.length:=by omega
        rw [ai9,gM e5,gM hle]
        have hin:∀ j,j < rows.length * sz → inner[j]? = cur.toList[j]?:=fun j hj=>by rw [← o10,ai9,ail hj]
        by_cases hj:j < rows.length * sz
        ·rw [ail hj,hin j hj]
        ·rw [ain hj]
         rw [ain (by omega),ain (by omega)]
         exact (ajI (by omega)).symm
    ·cases h6
  ·cases h4
 ·cases h4
end
end
section
open Go
section
variable {P : Program} {Γ:Env} {aY Fz bA:Nat → Prop} {w0 w w':World} {aX:List Nat} {N:Fr} {d:Nat} {q:Bool} {κ eU:Nat → Value} {σ σ1 σ':St} {a:Act} {pv:PV} {o:Oper}
theorem eD.all {sz:Nat}:∀ {rows:List (List FV)} {vs:List Value},eD Fz w sz rows vs → rows.all (fun r=>r.length == sz) = true
 | [],_,_=>rfl
 | r :: rs,vs,h=>by rw [List.all_cons,eD.all h.2.2,h.1];simp
theorem YH (h:Rel aY w0 aX N Fz κ σ a w) {t e:TypeId} {sz:Nat} {x:Operand} {lo hi:Option Operand} {x':dH} {lo' hi':Option dH} (hu:P.underlying t = some (.slice e)) (hn:kZ P e = some sz) (hx:fA x = some x') (hlo:wX lo = some lo') (hhi:wX hi = some hi') (hE:bV Γ q σ d (.cut sz x' lo' hi') = some (pv,σ')) :
  Does P aY w0 aX N q d Fz κ σ a w (do let v ← Instr.sliceAt t (a.eval x) (lo.map a.eval) (hi.map a.eval) none;Pure.pure (.value v)) σ' pv:=by
 obtain ⟨v,h1,h2⟩:=zbm hE
 have hv:=h.eval hx h1
 split at h2
 ·rename_i rows
  split at h2
  ·cases h2
  ·rename_i hall
   obtain ⟨p,h3,h4⟩:=zbm h2
   cases h4
   obtain ⟨A,c,e1,e2,e2',e3⟩:=(show ∃ A c,a.eval x = .slice A rows.length c ∧ rows.length ≤ c ∧ rows.length ≤ 9223372036854775807 ∧ (rows = [] ∨ ∃ b o sz,A = some ⟨b,o,none⟩ ∧ Fz b ∧ cK Fz w sz b o rows) by simpa only [fP,eB,fu] using hv)
   obtain ⟨f1,f2,f3⟩:=BG (P:=P) h hlo hhi h3
   have hrun:=oW (P:=P) (A:=A) hu hn (f3 true c e2)
   refine Does.pure h (v:=_) (by rw [e1];exact hrun) ?_
   exact BH e2 e2' e3 (by simpa using hall) f1 f2
 ·obtain ⟨p,h3,h4⟩:=zbm h2
  cases h4
  obtain ⟨f1,f2,f3⟩:=BG (P:=P) h hlo hhi h3
  have hrun:=oW (P:=P) (A:=none) hu hn (f3 true 0 (aiq _))
  refine Does.pure h (v:=_) (by rw [show a.eval x = .slice none 0 0 from hv];exact hrun) ?_
  have:=BH (Fz:=Fz) (w:=w) (sz:=sz) (rows:=[]) (A:=none) (c:=0) (l:=p.1) (r:=p.2) (aiq _) (by simp) (.inl rfl) rfl f1 f2
  show fu Fz w (.sl []) _
  simpa using this
 ·rename_i key n
  split at h2
  ·rename_i sz' rows fQ
   split at h2
   ·cases h2
   ·rename_i hsz
    have hsz':sz' = sz:=ai3.mp hsz
    subst hsz'
    obtain ⟨p,h3,h4⟩:=zbm h2
    split at h4
    ·cases h4
    ·rename_i hq
     obtain ⟨s,h5,h6⟩:=zbm h4
     cases h6
     obtain ⟨f1,f2,f3⟩:=BG (P:=P) h hlo hhi h3
     have hall:rows.all (fun r=>r.length == sz') = true:=by obtain ⟨_,_,inner,_,_,_,_,o4⟩:=h.obj fQ;exact o4.all
     obtain ⟨bA,g1,g2,g3⟩:=h.zf fQ h5
     obtain ⟨A,c,e1,e2,e2',e3⟩:=(show ∃ A c,κ key = .slice A rows.length c ∧ rows.length ≤ c ∧ rows.length ≤ 9223372036854775807 ∧ (rows = [] ∨ ∃ b o sz,A = some ⟨b,o,none⟩ ∧ bA b ∧ cK bA w sz b o rows) by simpa only [fu] using g3)
     have hrun:=oW (P:=P) (A:=A) hu hn (f3 true c e2)
     have hk:∀ p ∈ σ'.ob,∃ p' ∈ σ.ob,p'.1 = p.1:=(Dt (σ:=σ) (x:=.own key n) (y:=.sl rows) (by simp only [Ev.vo,fQ,h5,Option.map_some])).1
     refine Does.after g2 (fun YI=>absurd YI hq) hk (Does.pure g1 (v:=_) (by rw [show a.eval x = κ key from hv.1,e1];exact hrun) ?_)
     exact BH e2 e2' e3 hall f1 f2
  ·cases h2
 ·cases h2
theorem Pp (h:Rel aY w0 aX N Fz κ σ a w) {t:TypeId} {sh:KS} (hE:bV Γ q σ d (.oQ sh) = some (pv,σ')):Does P aY w0 aX N q d Fz κ σ a w (do let v ← Instr.makeMap t none;Pure.pure (.value v)) σ' pv:=by
 obtain ⟨s,h1,h2⟩:=zmm hE
 cases h2
 obtain ⟨a1,a2,a3⟩:=lX w (.map #[] 0)
 refine ⟨_,_,_,_,_,by rw [Sem.run_bind,show (Instr.makeMap t none).run P w = .ok (.map (some w.heap.size)) (w.alloc (.map #[] 0)) from rfl];rfl,.inl rfl,Good.new (pl:=.mp (dx d)) h h1 (by omega) a2 (fun b hb=>by cases hb;exact ⟨aiq _,by show w.heap.size < _;omega⟩) ⟨rfl,rfl⟩ ⟨w.heap.size,by rw [bL],[],Mq.At.made w,trivial,by simp⟩ ⟨by rw [bL],_,rfl⟩⟩
theorem iE.keys : ∀ {l:List (KV × FC)} {m:List (KV × Value)},iE Fz w l m → l.map (·.1) = m.map (·.1)
 | [],[],_=>rfl
 | p :: l,r :: m,h=>by rw [aiy,aiy,h.1,iE.keys h.2.2]
 | [],_ :: _,h=>h.elim
 | _ :: _,[],h=>h.elim
theorem iE.idx {l:List (KV × FC)} {m:List (KV × Value)} (h:iE Fz w l m) (k:KV):wO l k = Mq.idx m k:=by unfold wO Mq.idx;rw [h.keys]
theorem iE.at : ∀ {l:List (KV × FC)} {m:List (KV × Value)} {i:Nat},iE Fz w l m → (∀ p,l[i]? = some p → ∃ r,m[i]? = some r ∧ p.1 = r.1 ∧ lJ Fz w p.2 r.2) ∧ (l[i]? = none → m[i]? = none)
 | [],[],i,_=>⟨fun p h=>by simp at h,fun _=>by simp⟩
 | p :: l,r :: m,0,h=>⟨fun q hq=>by cases hq;exact ⟨r,rfl,h.1,h.2.1⟩,fun hn=>by simp at hn⟩
 | p :: l,r :: m,i + 1,h=>by simpa using iE.at (i:=i) h.2.2
 | [],_ :: _,_,h=>h.elim
 | _ :: _,[],_,h=>h.elim
theorem iE.su {l:List (KV × FC)} {m:List (KV × Value)} (h:iE Fz w l m) (k:KV):(∀ x,rV l k = some x → ∃ v,Mq.su m k = some v ∧ lJ Fz w x v) ∧ (rV l k = none → Mq.su m k = none):=by
 unfold rV Mq.su
 rw [h.idx k]
 cases Mq.idx m k with
 | none=>exact ⟨fun x hx=>by simp at hx,fun _=>rfl⟩
 | some i =>
  simp only [Option.bind_some]
  refine ⟨fun x hx=>?_,fun hx=>?_⟩
  ·obtain ⟨p,hp,rfl⟩:=zmm hx
   obtain ⟨r,h1,h2,h3⟩:=(h.at (i:=i)).1 p hp
   exact ⟨r.2,by rw [h1];rfl,h3⟩
  ·rw [Option.map_eq_none_iff] at hx
   rw [(h.at (i:=i)).2 hx];rfl
theorem iE.setAt {k:KV} {x:FC} {v:Value} (hv:lJ Fz w x v):∀ {l:List (KV × FC)} {m:List (KV × Value)} {i:Nat},iE Fz w l m → iE Fz w (l.set i (k,x)) (m.set i (k,v))
 | [],[],_,_=>trivial
 | p :: l,r :: m,0,h=>⟨rfl,hv,h.2.2⟩
 | p :: l,r :: m,i + 1,h=>⟨h.1,h.2.1,iE.setAt hv h.2.2⟩
 | [],_ :: _,_,h=>h.elim
 | _ :: _,[],_,h=>h.elim
theorem iE.push {k:KV} {x:FC} {v:Value} (hv:lJ Fz w x v):∀ {l:List (KV × FC)} {m:List (KV × Value)},iE Fz w l m → iE Fz w (l ++ [(k,x)]) (m ++ [(k,v)])
 | [],[],_=>⟨rfl,hv,trivial⟩
 | p :: l,r :: m,h=>⟨h.1,h.2.1,iE.push hv h.2.2⟩
 | [],_ :: _,h=>h.elim
 | _ :: _,[],h=>h.elim
theorem iE.erase : ∀ {l:List (KV × FC)} {m:List (KV × Value)} {i:Nat},iE Fz w l m → iE Fz w (l.eraseIdx i) (m.eraseIdx i)
 | [],[],_,_=>trivial
 | p :: l,r :: m,0,h=>h.2.2
 | p :: l,r :: m,i + 1,h=>⟨h.1,h.2.1,iE.erase h.2.2⟩
 | [],_ :: _,_,h=>h.elim
 | _ :: _,[],_,h=>h.elim
theorem iE.upd {l:List (KV × FC)} {m:List (KV × Value)} (h:iE Fz w l m) {k:KV} {x:FC} {v:Value} (hv:lJ Fz w x v):iE Fz w (wP l k x) (Mq.upd m k v):=by
 unfold wP Mq.upd
 rw [h.idx k]
 cases Mq.idx m k with
 | none=>exact h.push hv
 | some i=>exact h.setAt hv
theorem iE.del {l:List (KV × FC)} {m:List (KV × Value)} (h:iE Fz w l m) {k:KV}:iE Fz w (Bo l k) (Mq.del m k):=by
 unfold Bo Mq.del
 rw [h.idx k]
 cases Mq.idx m k with
 | none=>exact h
 | some i=>exact h.erase
theorem K5 {m:List (KV × Value)} {k:KV} {v:Value} {sh:KS} (hm:∀ p ∈ m,p.1.ks = sh) (hk:k.ks = sh):∀ p ∈ Mq.upd m k v,p.1.ks = sh:=by
 unfold Mq.upd
 split
 ·intro p hp
  rcases List.mem_or_eq_of_mem_set hp with h | h
  ·exact hm p h
  ·subst h;exact hk
 ·intro p hp
  rcases aiN.mp hp with h | h
  ·exact hm p h
  ·simp at h;subst h;exact hk
theorem K6 {m:List (KV × Value)} {k:KV} {sh:KS} (hm:∀ p ∈ m,p.1.ks = sh):∀ p ∈ Mq.del m k,p.1.ks = sh:=by
 unfold Mq.del
 split
 ·exact fun p hp=>hm p (List.mem_of_mem_eraseIdx hp)
 ·exact hm
theorem lJ.toC {x:FC} {v:Value} (h:lJ Fz w x v):fP Fz κ w (wQ x) v:=by
 cases x with
 | one x=>exact h
 | agg xs =>
  obtain ⟨cs,rfl,h⟩:=h
  exact ⟨cs,rfl,h.Xt⟩
theorem zY {x:PL} {y:FV} {v:Value} (h:Bz x = some y) (hx:eB Fz κ w x v):fu Fz w y v:=by
 cases x <;> simp only [Bz] at h <;> cases h
 ·exact hx
 ·simp only [fu];exact ⟨none,0,hx,aiq _,by simp,.inl trivial⟩
theorem rE : ∀ {xs:List PL} {ys:List FV} {vs:List Value},p9 xs = some ys → aN Fz κ w xs vs → bW Fz w ys vs
 | [],ys,vs,h,hx=>by cases h;cases vs with | nil=>trivial | cons _ _=>exact hx.elim
 | x :: xs,ys,vs,h,hx=>by
  unfold p9 at h
  obtain ⟨y,h1,h2⟩:=zbm h
  obtain ⟨l,h3,rfl⟩:=zmm h2
  cases vs with
  | nil=>exact hx.elim
  | cons v vs=>exact ⟨zY h1 hx.1,rE h3 hx.2⟩
theorem Pq {e:TypeId} {z:FC} (h:Uz P e = some z):∃ v,(zeroValue e).run P w = .ok v w ∧ lJ Fz w z v:=by
 obtain ⟨i,h1,h2⟩:=zbm h
 obtain ⟨v,h3,h4⟩:=zbm h2
 refine ⟨v,by simp [zeroValue,typeInfo,h1,h3],?_⟩
 split at h4
 ·rename_i cs
  obtain ⟨l,h5,rfl⟩:=zmm h4
  obtain ⟨xs,h6,h7⟩:=zbm h5
  exact ⟨cs,rfl,rE (κ:=fun _=>undef) h7 (l8 h6)⟩
 ·obtain ⟨l,h5,rfl⟩:=zmm h4
  obtain ⟨x,h6,h7⟩:=zbm h5
  exact zY (κ:=fun _=>undef) h7 (uG h6)
theorem sI {t k e:TypeId} (h:zw P t = some (k,e)):P.underlying t = some (.map k e):=by
 unfold zw at h
 split at h
 ·rename_i hu;cases h;exact hu
 ·cases h
theorem UK (h:Rel aY w0 aX N Fz κ σ a w) {t kt et:TypeId} {sh:KS} {z:FC} {ok:Bool} {x k:Operand} {x' k':dH} (hm:zw P t = some (kt,et)) (hk:lg P kt) (hs:wY P kt = some sh) (hz:Uz P et = some z) (hx:fA x = some x') (hkk:fA k = some k') (hE:bV Γ q σ d (.look sh z ok x' k') = some (pv,σ')) :
  Does P aY w0 aX N q d Fz κ σ a w (do let v ← Instr.lookup t (a.eval x) (a.eval k) ok;Pure.pure (.value v)) σ' pv:=by
 obtain ⟨v,h1,h2⟩:=zbm hE
 obtain ⟨u,h3,h4⟩:=zbm h2
 obtain ⟨b,h5,h6⟩:=zbm h4
 split at h6
 ·cases h6
 ·rename_i hsh
  have hb:b.ks = sh:=ai3.mp hsh
  have hv:=h.eval hx h1
  have hu:=wZ h5 (h.eval hkk h3)
  obtain ⟨zv,z1,z2⟩:=Pq (Fz:=Fz) (w:=w) hz
  obtain ⟨r,h7,h8⟩:=zmm h6
  cases h8
  have fin:∀ (rv:Option Value),(∀ x,r = some x → ∃ v,rv = some v ∧ lJ Fz w x v) → (r = none → rv = none) → (Instr.lookup t (a.eval x) (a.eval k) ok).run P w = .ok (if ok then .tuple #[rv.getD zv,.bool rv.isSome] else rv.getD zv) w →
    Does P aY w0 aX N q d Fz κ σ a w (do let v ← Instr.lookup t (a.eval x) (a.eval k) ok;Pure.pure (.value v)) σ (if ok then .uy [wQ (r.getD z),.one (.f (.bool r.isSome))] else .c (wQ (r.getD z))):=by
   intro rv g1 g2 g3
   refine Does.pure h g3 ?_
   have hrep:lJ Fz w (r.getD z) (rv.getD zv) ∧ r.isSome = rv.isSome:=by
    cases r with
    | none=>rw [g2 rfl];exact ⟨z2,rfl⟩
    | some x=>obtain ⟨v,e1,e2⟩:=g1 x rfl;rw [e1];exact ⟨e2,rfl⟩
   cases ok with
   | false=>exact hrep.1.toC
   | true=>exact ⟨_,rfl,hrep.1.toC,by rw [hrep.2];rfl,trivial⟩
  split at h7
  ·cases h7
   refine fin none (fun x hx=>by cases hx) (fun _=>rfl) ?_
   rw [show a.eval x = .map none from hv,hu]
   have:=Mq.look_nil (hk.key sh hs) t et (sI hm) zv z1 b hb ok (w:=w)
   rw [this];cases ok <;> rfl
  ·rename_i key
   split at h7
   ·rename_i sh' ents fQ
    split at h7
    ·rename_i hs'
     subst hs'
     cases h7
     obtain ⟨bl,e1,l,e2,e3,e4⟩:=h.obj fQ
     have hl:=Mq.look (hk.key _ hs) e2 e4 t et (sI hm) zv z1 b hb ok
     obtain ⟨f1,f2⟩:=e3.su b
     refine fin (Mq.su l b) f1 f2 ?_
     rw [hv.1,e1,hu]
     exact hl
    ·cases h7
   ·cases h7
  ·cases h7
theorem K7 (h:Rel aY w0 aX N Fz κ σ a w) {t kt et:TypeId} {sh:KS} {x k y:Operand} {x' k' y':dH} (hm:zw P t = some (kt,et)) (hk:lg P kt) (hs:wY P kt = some sh) (hx:fA x = some x') (hkk:fA k = some k') (hy:fA y = some y') (hE:bV Γ q σ d (.wM sh x' k' y') = some (pv,σ')) :
  Does P aY w0 aX N q d Fz κ σ a w (do Instr.mapUpdate t (a.eval x) (a.eval k) (a.eval y);Pure.pure .skip) σ' pv:=by
 obtain ⟨v,h1,h2⟩:=zbm hE
 obtain ⟨u,h3,h4⟩:=zbm h2
 obtain ⟨b,h5,h6⟩:=zbm h4
 split at h6
 ·cases h6
 ·rename_i hsh
  have hb:b.ks = sh:=ai3.mp hsh
  obtain ⟨yv,h7,h8⟩:=zbm h6
  have hv:=h.eval hx h1
  have hu:=wZ h5 (h.eval hkk h3)
  have hyv:=h.eval hy h7
  split at h8
  ·cases h8
  ·rename_i hq
   obtain ⟨p,h9,h10⟩:=zbm h8
   have fr:∃ bA,Rel aY w0 aX N bA κ p.2 a w ∧ (∀ b,Fz b → bA b) ∧ lJ bA w p.1 (a.eval y) ∧ (q = true → (∀ b,bA b → Fz b) ∧ p.2 = σ) ∧ ∀ r ∈ p.2.ob,∃ p' ∈ σ.ob,p'.1 = r.1:=by
    cases yv with
    | one l =>
     obtain ⟨r,e1,e2⟩:=zmm h9
     subst e2
     obtain ⟨bA,g1,g2,g3,g4,g5⟩:=h.Pm (xs:=[l]) (ys:=[r.1]) (vs:=[a.eval y]) (σ':=r.2) ⟨hyv,trivial⟩ hq (by simp [Ev.ku,e1])
     exact ⟨bA,g1,g2,g3.1,g4,g5⟩
    | agg xs =>
     obtain ⟨r,e1,e2⟩:=zmm h9
     subst e2
     obtain ⟨cs,hcs,hyv⟩:=hyv
     obtain ⟨bA,g1,g2,g3,g4,g5⟩:=h.Pm hyv hq e1
     exact ⟨bA,g1,g2,⟨cs,hcs,g3⟩,g4,g5⟩
   obtain ⟨bA,g1,g2,g3,g4,g5⟩:=fr
   split at h10
   ·rename_i key
    split at h10
    ·rename_i sh' ents fQ
     split at h10
     ·rename_i hs'
      subst hs'
      cases h10
      refine Does.after g2 g4 g5 ?_
      obtain ⟨bl,e1,l,e2,e3,e4⟩:=g1.obj fQ
      obtain ⟨w',r1,r2,r3⟩:=Mq.update (hk.key _ hs) e2 e4 t et (sI hm) b hb (a.eval y)
      have hpos:=(g1.pos _ (get_mem fQ) bl (by show blk (κ key) = _;rw [e1];rfl)).1
      have hmv:∀ i,bA i → w'.heap[i]? = w.heap[i]?:=fun i hi=>r3.block i (g1.fz i hi).1 (fun e=>by cases e;exact hpos hi)
      refine ⟨.skip,w',κ,bA,undef,by rw [hv.1,e1,hu,Sem.run_bind,r1];rfl,.inr ⟨rfl,rfl⟩,Good.set g1 fQ r3.size (fun i hi hne=>r3.block i hi (fun e=>hne (by rw [e1,← e];rfl))) ⟨r3.os,r3.output⟩ ?_ rfl⟩
      exact ⟨bl,e1,_,r2,iE.mono (fun _ h=>h) hmv _ _ (e3.upd g3),K5 e4 hb⟩
     ·cases h10
    ·cases h10
   ·cases h10
theorem Du {t kt et ty:TypeId} (hm:P.underlying t = some (.map kt et)) {k:Value} (hk:∀ e,(Instr.checkKey e 10000 kt k).run P w = .ok () w):(Builtin.delete_ #[t,kt] ty #[.map none,k]).run P w = .ok (.tuple #[]) w:=by
 unfold Builtin.delete_
 simp [Sem.run_bind,run_underlying hm,Result.andThen,hk]
theorem YJ (h:Rel aY w0 aX N Fz κ σ a w) {t kt et ty:TypeId} {sh:KS} {x k:Operand} {x' k':dH} (hm:zw P t = some (kt,et)) (hk:lg P kt) (hs:wY P kt = some sh) (hx:fA x = some x') (hkk:fA k = some k') (hE:bV Γ q σ d (.del sh x' k') = some (pv,σ')) :
  Does P aY w0 aX N q d Fz κ σ a w (do let v ← Builtin.delete_ #[t,kt] ty #[a.eval x,a.eval k];Pure.pure (.value v)) σ' pv:=by
 obtain ⟨v,h1,h2⟩:=zbm hE
 obtain ⟨u,h3,h4⟩:=zbm h2
 obtain ⟨b,h5,h6⟩:=zbm h4
 split at h6
 ·cases h6
 ·rename_i hsh
  have hb:b.ks = sh:=ai3.mp hsh
  have hv:=h.eval hx h1
  have hu:=wZ h5 (h.eval hkk h3)
  split at h6
  ·cases h6
   refine Does.pure h (v:=.tuple #[]) ?_ ⟨#[],rfl,trivial⟩
   rw [show a.eval x = .map none from hv,hu]
   exact Du (sI hm) (fun e=>(hk.key sh hs).check e b w hb)
  ·rename_i key
   split at h6
   ·rename_i sh' ents fQ
    split at h6
    ·rename_i hs'
     subst hs'
     cases h6
     obtain ⟨bl,e1,l,e2,e3,e4⟩:=h.obj fQ
     obtain ⟨w',r1,r2,r3⟩:=Mq.delete (hk.key _ hs) e2 e4 t et ty (sI hm) b hb
     have hpos:=(h.pos _ (get_mem fQ) bl (by show blk (κ key) = _;rw [e1];rfl)).1
     have hmv:∀ i,Fz i → w'.heap[i]? = w.heap[i]?:=fun i hi=>r3.block i (h.fz i hi).1 (fun e=>by cases e;exact hpos hi)
     refine ⟨_,w',κ,Fz,_,by rw [hv.1,e1,hu,Sem.run_bind,r1];rfl,.inl rfl,Good.set h fQ r3.size (fun i hi hne=>r3.block i hi (fun e=>hne (by rw [e1,← e];rfl))) ⟨r3.os,r3.output⟩ ?_ ⟨#[],rfl,trivial⟩⟩
     exact ⟨bl,e1,_,r2,iE.mono (fun _ h=>h) hmv _ _ e3.del,K6 e4⟩
    ·cases h6
   ·cases h6
  ·cases h6
end
end
section
open Go
section
variable {P : Program} {Γ:Env} {aY Fz bA:Nat → Prop} {w0 w w':World} {aX:List Nat} {N:Fr} {d:Nat} {q:Bool} {κ eU:Nat → Value} {σ σ1 σ':St} {a:Act} {pv:PV} {o:Oper}
theorem eB.gone {key:Nat} {v':Value} (hs:∃ A n c,κ key = .slice A n c) (hw:∀ b,Fz b → w'.heap[b]? = w.heap[b]?) {x:PL} {v:Value} (h:eB Fz κ w x v):eB Fz (oP κ key v') w' (nT key .any x) v:=by
 obtain ⟨A0,n0,c0,hs⟩:=hs
 have hm:∀ {y:PL},(∀ k,dY k y = true → k ≠ key) → eB Fz κ w y v → eB Fz (oP κ key v') w' y v:=fun hk hy=>eB.mono (fun _ h=>h) hw (fun k hk'=>eF (hk k hk') v') hy
 cases x with
 | own k n =>
  simp only [nT]
  split
  ·trivial
  ·rename_i hk;exact hm (fun k' hk'=>by simp [dY] at hk';subst hk';exact hk) h
 | rp k z i o =>
  simp only [nT]
  split
  ·trivial
  ·rename_i hk;exact hm (fun k' hk'=>by simp [dY] at hk';subst hk';exact hk) h
 | ptr k o =>
  refine hm (fun k' hk' e=>?_) h
  simp [dY,nT] at hk'
  obtain ⟨b,h1,_⟩:=h
  rw [hk',e,hs] at h1
  cases h1
 | mp k =>
  refine hm (fun k' hk' e=>?_) h
  simp [dY,nT] at hk'
  obtain ⟨h0,b,h1⟩:=h
  rw [h1,hk',e,hs] at h0
  cases h0
 | f x=>exact hm (fun k hk=>by simp [dY,nT] at hk) h
 | bP=>exact h
 | fp cs=>exact hm (fun k hk=>by simp [dY,nT] at hk) h
 | iI=>exact h
 | fq=>exact h
 | und=>exact h
 | any=>trivial
 | fn f cs=>exact hm (fun k hk=>by simp [dY,nT] at hk) h
 | vw k z n l =>
  simp only [nT]
  split
  ·trivial
  ·rename_i hk;exact hm (fun k' hk'=>by simp [dY] at hk';subst hk';exact hk) h
theorem aN.gone {key:Nat} {v':Value} (hs:∃ A n c,κ key = .slice A n c) (hw:∀ b,Fz b → w'.heap[b]? = w.heap[b]?):∀ {xs:List PL} {vs:List Value},aN Fz κ w xs vs → aN Fz (oP κ key v') w' (xs.map (nT key .any)) vs
 | [],[],_=>trivial
 | x :: xs,v :: vs,h=>⟨eB.gone hs hw h.1,aN.gone hs hw h.2⟩
 | [],_ :: _,h=>h.elim
 | _ :: _,[],h=>h.elim
theorem fP.gone {key:Nat} {v':Value} (hs:∃ A n c,κ key = .slice A n c) (hw:∀ b,Fz b → w'.heap[b]? = w.heap[b]?) {x:CV} {v:Value} (h:fP Fz κ w x v):fP Fz (oP κ key v') w' (Fj key .any x) v:=by
 cases x with
 | one x=>exact eB.gone hs hw h
 | agg xs=>obtain ⟨cs,rfl,h⟩:=h;exact ⟨cs,rfl,aN.gone hs hw h⟩
theorem dL.gone {key:Nat} {v':Value} (hs:∃ A n c,κ key = .slice A n c) (hw:∀ b,Fz b → w'.heap[b]? = w.heap[b]?):∀ {xs:List CV} {vs:List Value},dL Fz κ w xs vs → dL Fz (oP κ key v') w' (xs.map (Fj key .any)) vs
 | [],[],_=>trivial
 | x :: xs,v :: vs,h=>⟨fP.gone hs hw h.1,dL.gone hs hw h.2⟩
 | [],_ :: _,h=>h.elim
 | _ :: _,[],h=>h.elim
theorem iC.gone {key:Nat} {v':Value} (hs:∃ A n c,κ key = .slice A n c) (hw:∀ b,Fz b → w'.heap[b]? = w.heap[b]?) {x:PV} {v:Value} (h:iC Fz κ w x v):iC Fz (oP κ key v') w' (O1 key .any x) v:=by
 cases x with
 | c x=>exact fP.gone hs hw h
 | uy xs=>obtain ⟨cs,rfl,h⟩:=h;exact ⟨cs,rfl,dL.gone hs hw h⟩
theorem iF.gone {B key k:Nat} {v':Value} (hk:k ≠ key) (hs:∃ A n c,κ key = .slice A n c) (hw:∀ b,Fz b → w'.heap[b]? = w.heap[b]?) (hb:∀ b,blk (κ k) = some b → w'.heap[b]? = w.heap[b]?) {x:Ob} (h:iF B Fz κ w k x):iF B Fz (oP κ key v') w' k (Ji key .any x):=by
 cases x with
 | eH xs =>
  obtain ⟨b,cs,e,h1,h2,h3⟩:=h
  exact ⟨b,cs,e,(eF hk v').trans h1,(hb b (by rw [h1];rfl)).trans h2,aN.gone hs hw h3⟩
 | row sz rows=>exact iF.mono (o:=.row sz rows) (fun _ h=>h) hw (fun k' hk'=>eF (by rcases hk' with h | h <;> first | (subst h;exact hk) | cases h) v') hb h
 | map sh ents=>exact iF.mono (o:=.map sh ents) (fun _ h=>h) hw (fun k' hk'=>eF (by rcases hk' with h | h <;> first | (subst h;exact hk) | cases h) v') hb h
theorem Rel.moved (h:Rel aY w0 aX N Fz κ σ a w) {key:Nat} {o o':Ob} {v':Value} (hk:get σ.ob key = some o) (hsl:∃ A n c,κ key = .slice A n c) (hs:w.heap.size ≤ w'.heap.size) (hb:∀ b,b < w.heap.size → blk (κ key) ≠ some b → w'.heap[b]? = w.heap[b]?)
  (hv:∀ b,blk v' = some b → b < w'.heap.size ∧ (blk (κ key) = some b ∨ w.heap.size ≤ b)) (hkp:Kp w w') (ho:iF 0 Fz (oP κ key v') w' key o'):Rel aY w0 aX N Fz (oP κ key v') (jm (Ev.sub σ key .any) key o') a w':=by
 have hkm:=get_mem hk
 have hfz:∀ b,Fz b → w'.heap[b]? = w.heap[b]?:=fun b hf=>hb b (h.fz b hf).1 (fun e=>(h.pos _ hkm b e).1 hf)
 have mo:∀ p ∈ (jm (Ev.sub σ key .any) key o').ob,p = (key,o') ∨ (p.1 ≠ key ∧ ∃ r ∈ σ.ob,r.1 = p.1 ∧ p.2 = Ji key .any r.2):=by
  intro p hp
  rcases iy hp with rfl | ⟨hp,hne⟩
  ·exact .inl rfl
  ·obtain ⟨r,hr,rfl⟩:=aiM.mp hp
   exact .inr ⟨hne,r,hr,rfl,rfl⟩
 have far:∀ b,blk v' = some b → ∀ p ∈ σ.ob,p.1 ≠ key → blk (κ p.1) ≠ some b:=by
  intro b hb1 p hp hne e
  rcases (hv b hb1).2 with h1 | h1
  ·exact h.uE p hp _ hkm b hne e h1
  ·have:=(h.pos p hp b e).2.1
   omega
 refine ⟨fun p hp=>?_,h.sz,h.lV,h.fs,fun p hp=>?_,fun p hp r hr b hne hb1 hb2=>?_,fun p hp b hb1=>?_,fun b hf=>⟨aiX (h.fz b hf).1 hs,(h.fz b hf).2⟩,h.zh,aiH h.big hs,fun b h1 h2=>?_,h.kp.trans hkp⟩
 ·obtain ⟨r,hr,rfl⟩:=aiM.mp hp
  exact iC.gone hsl hfz (h.tm r hr)
 ·rcases mo p hp with rfl | ⟨hne,r,hr,e1,e2⟩
  ·exact ho
  ·rw [e2,← e1]
   have hne':r.1 ≠ key:=fun e=>hne (e1 ▸ e)
   exact iF.gone hne' hsl hfz (fun b hb1=>hb b (h.pos r hr b hb1).2.1 (fun e=>h.uE r hr _ hkm b hne' hb1 e)) (h.ob r hr)
 ·rcases mo p hp with rfl | ⟨hp1,p',hp',e1,_⟩ <;> rcases mo r hr with rfl | ⟨hr1,r',hr',e2,_⟩
  ·exact hne rfl
  ·rw [bL] at hb1
   rw [eF hr1,← e2] at hb2
   exact far b hb1 r' hr' (fun e=>hr1 (e2 ▸ e)) hb2
  ·rw [bL] at hb2
   rw [eF hp1,← e1] at hb1
   exact far b hb2 p' hp' (fun e=>hp1 (e1 ▸ e)) hb1
  ·rw [eF hp1,← e1] at hb1
   rw [eF hr1,← e2] at hb2
   rw [← e1,← e2] at hne
   exact h.uE p' hp' r' hr' b hne hb1 hb2
 ·rcases mo p hp with rfl | ⟨hp1,p',hp',e1,_⟩
  ·rw [bL] at hb1
   obtain ⟨h1,h2⟩:=hv b hb1
   rcases h2 with h2 | h2
   ·have:=h.pos _ hkm b h2
    exact ⟨this.1,h1,this.2.2⟩
   ·refine ⟨fun hf=>?_,h1,.inr (aiH h.big h2)⟩
    have:=(h.fz b hf).1
    omega
  ·rw [eF hp1,← e1] at hb1
   have:=h.pos p' hp' b hb1
   exact ⟨this.1,aiX this.2.1 hs,this.2.2⟩
 ·rw [hb b (aiX h1 h.big) (fun e=>?_)]
  ·exact h.ext b h1 h2
  ·rcases (h.pos _ hkm b e).2.2 with h3 | h3
   ·exact h2 h3
   ·omega
theorem cK.cells {sz b:Nat}:∀ {rows:List (List FV)} {o:Nat},cK Fz w sz b o rows → ∃ vs,eD Fz w sz rows vs ∧ ∀ j v,vs[j]? = some v → w.cell? ⟨b,o + j,none⟩ = some v
 | [],o,_=>⟨[],rfl,fun j v hj=>by simp at hj⟩
 | r :: rows,o,h=>by
  simp only [cK] at h
  obtain ⟨us,h1,h2⟩:=h.2.1.cells
  obtain ⟨vs,h3,h4⟩:=cK.cells h.2.2
  have hl:=h1.len
  refine ⟨us ++ vs,⟨h.1,?_,?_⟩,fun j v hj=>?_⟩
  ·rw [aj7 (by omega),ajX (by omega)];exact h1
  ·rw [List.drop_append_of_le_length (by omega),List.drop_of_length_le (by omega)];exact h3
  ·rw [aj5] at hj
   split at hj
   ·exact h2 j v hj
   ·have:=h4 _ v hj
    rw [show o + sz + (j - us.length) = o + j from by omega] at this
    exact this
theorem bW.one : ∀ {xs:List FV} {vs:List Value},bW Fz w xs vs → ∀ u ∈ vs,u.oneCell' = true
 | [],[],_,u,hu=>by simp at hu
 | x :: xs,v :: vs,h,u,hu=>by
  rcases aiD.mp hu with rfl | hu
  ·have:=fu.leaf h.1
   cases u <;> first | rfl | exact this.elim
  ·exact bW.one h.2 u hu
 | [],_ :: _,h,_,_=>h.elim
 | _ :: _,[],h,_,_=>h.elim
theorem eD.one {sz:Nat}:∀ {rows:List (List FV)} {vs:List Value},eD Fz w sz rows vs → ∀ u ∈ vs,u.oneCell' = true
 | [],vs,h,u,hu=>by cases h;simp at hu
 | r :: rs,vs,h,u,hu=>by
  rw [← aj8 sz vs] at hu
  rcases aiN.mp hu with hu | hu
  ·exact h.2.1.one u hu
  ·exact eD.one h.2.2 u hu
theorem eD.app {sz:Nat}:∀ {rows new:List (List FV)} {vs us:List Value},eD Fz w sz rows vs → eD Fz w sz new us → eD Fz w sz (rows ++ new) (vs ++ us)
 | [],new,vs,us,h,h'=>by cases h;exact h'
 | r :: rs,new,vs,us,h,h'=>by
  have hl:=h.2.1.len
  rw [aiC,h.1] at hl
  refine ⟨h.1,?_,?_⟩
  ·rw [aj7 (by omega)];exact h.2.1
  ·rw [List.drop_append_of_le_length (by omega)];exact eD.app h.2.2 h'
theorem Fv (h:Rel aY w0 aX N Fz κ σ a w) {u:CV} {uv:Value} {new:List (List FV)} {sz:Nat} (hu:fP Fz κ w u uv) (hr:pY σ u = some new) (hall:new.all (fun r=>r.length == sz) = true) :
  ∃ A c vs,uv = .slice A new.length c ∧ eD Fz w sz new vs ∧ ((A = none ∧ new = []) ∨ ∃ ad:Addr,A = some ad ∧ ∀ j v,vs[j]? = some v → w.cell? (ad.add j) = some v):=by
 unfold pY at hr
 split at hr
 ·cases hr;exact ⟨none,0,[],hu,rfl,.inl ⟨rfl,rfl⟩⟩
 ·rename_i rows
  cases hr
  obtain ⟨A,c,e1,e2,e2',e3⟩:=(show ∃ A c,uv = .slice A new.length c ∧ new.length ≤ c ∧ new.length ≤ 9223372036854775807 ∧ (new = [] ∨ ∃ b o sz,A = some ⟨b,o,none⟩ ∧ Fz b ∧ cK Fz w sz b o new) by simpa only [fP,eB,fu] using hu)
  rcases e3 with e3 | ⟨b,o,sz',rfl,e4,e5⟩
  ·subst e3
   cases A with
   | none=>exact ⟨none,c,[],e1,rfl,.inl ⟨rfl,rfl⟩⟩
   | some ad=>exact ⟨some ad,c,[],e1,rfl,.inr ⟨ad,rfl,fun j v hj=>by simp at hj⟩⟩
  ·obtain ⟨vs,e6,e7⟩:=e5.cells
   cases new with
   | nil=>exact ⟨_,c,vs,e1,e6,.inr ⟨⟨b,o,none⟩,rfl,fun j v hj=>by rw [l9];exact e7 j v hj⟩⟩
   | cons r rs =>
    have:sz' = sz:=by
     rw [List.all_cons,aiw] at hall
     have h1:=e6.1
     have h2:=hall.1
     simp at h2
     omega
    subst this
    exact ⟨_,c,vs,e1,e6,.inr ⟨⟨b,o,none⟩,rfl,fun j v hj=>by rw [l9];exact e7 j v hj⟩⟩
 ·rename_i key n
  split at hr
  ·rename_i sz' rows fQ
   cases hr
   obtain ⟨o0,e,inner,A,c,o1,⟨o2,o3⟩,o4⟩:=h.obj fQ
   have hin:eD Fz w sz new inner:=by
    cases new with
    | nil=>exact o4
    | cons r rs =>
     have:sz' = sz:=by
      rw [List.all_cons,aiw] at hall
      have h1:=o4.1
      have h2:=hall.1
      simp at h2
      omega
     subst this
     exact o4
   rcases o3 with ⟨o3,o5⟩ | ⟨g,cap,cur,o3,o5,o6,o7,o8,o9,o10⟩
   ·exact ⟨none,0,inner,by rw [hu.1,o3,o5],hin,.inl ⟨rfl,ajO o5⟩⟩
   ·refine ⟨_,cap,inner,by rw [hu.1,o3],hin,.inr ⟨⟨g,0,none⟩,rfl,fun j v hj=>?_⟩⟩
    rw [← o10,ai9] at hj
    split at hj
    ·rw [l9,aiP]
     simp only [World.cell?,o6]
     simpa using hj
    ·cases hj
  ·cases hr
 ·cases hr
theorem BJ {base:Nat} {t ty e e1:TypeId} {i:TypeInfo} {size c:Nat} (ht:P.underlying t = some (.slice e)) (hi:P.info? e = some i) {v:Value} {n:Nat} {xs:List Value} (hown:w.ownsRow base e1 size v n xs) :
  (Builtin.append_ #[t,t] ty #[v,.slice none 0 c]).run P w = .ok v w:=by
 rcases hown.2 with ⟨rfl,rfl⟩ | ⟨g,cap,cur,rfl,_,_,hnc,_⟩
 ·simp [Builtin.append_,run_underlying ht,sizeOf,typeInfo,hi,Builtin.lenOf,Builtin.firstCells]
 ·simp [Builtin.append_,run_underlying ht,sizeOf,typeInfo,hi,Builtin.lenOf,Builtin.firstCells,hnc,storeCells]
theorem BK (t ty e e1:TypeId) (i:TypeInfo) (ht:P.underlying t = some (.slice e)) (hi:P.info? e = some i)
  (g sLen sCap:Nat) (cur:Array Value) (hg:w.heap[g]? = some (.cells cur e1 (0,0)))
  (a:Addr) (m c:Nat) (news:List Value) (hl:news.length = m * i.size) (hnews:∀ j u,news[j]? = some u → w.cell? (a.add j) = some u) (h1:∀ u ∈ news,u.oneCell' = true)
  (hroom:sLen + m ≤ sCap) (hfit:sLen * i.size + news.length ≤ cur.size) :
  (Builtin.append_ #[t,t] ty #[.slice (some ⟨g,0,none⟩) sLen sCap,.slice (some a) m c]).run P w =
   .ok (.slice (some ⟨g,0,none⟩) (sLen + m) sCap) (w.setRow g (cur.toList.take (sLen * i.size) ++ news ++ cur.toList.drop (sLen * i.size + news.length)).toArray):=by
 have hf:=run_firstCells_some (P:=P) w i.size m a m c news hl hnews
 have hst:=run_storeCells_at P g (sLen * i.size) e1 news 0 cur w hg (by simpa using hfit) h1
 simp only [Nat.add_zero] at hst
 simp [Builtin.append_,run_underlying ht,sizeOf,typeInfo,hi,Builtin.lenOf,hroom,hf,Addr.add_lit,hst]
theorem G7 (h:Rel aY w0 aX N Fz κ σ a w) {t ty e:TypeId} {sz bytes:Nat} {z:List PL} (ht:P.underlying t = some (.slice e)) (hn:kZ P e = some sz) (hby:Pf P e = some bytes) (hz:zR P e = some z) (hzl:z.length = sz) (h0:0 < sz) (hb0:0 < bytes)
  {u:CV} {uv:Value} {new:List (List FV)} (hu:fP Fz κ w u uv) (hr:pY σ u = some new) (hall:new.all (fun r=>r.length == sz) = true) {e1:TypeId} {v:Value} {rows:List (List FV)} {inner:List Value} (hown:w.ownsRow 0 e1 sz v rows.length inner) (hin:eD Fz w sz rows inner)
  (hle:(rows.length + new.length) * bytes ≤ 140737488355328) (hfz:∀ b,v.ownBlock = some b → ¬ Fz b) :
  ∃ v' w' uJ e2,(Builtin.append_ #[t,t] ty #[v,uv]).run P w = .ok v' w' ∧ w'.ownsRow 0 e2 sz v' (rows ++ new).length uJ ∧ eD Fz w' sz (rows ++ new) uJ ∧ w.grownBy w' v.ownBlock ∧ (v'.ownBlock = v.ownBlock ∨ v'.ownBlock = some w.heap.size):=by
 obtain ⟨A,c,vs,rfl,e2,e3⟩:=Fv h hu hr hall
 obtain ⟨i,zv,z1,z2,z3⟩:=uI (Fz:=Fz) (κ:=κ) (w:=w) hz
 have hsz:i.size = sz:=by unfold kZ at hn;rw [z1] at hn;simpa using hn
 have hbt:i.bytes = bytes:=by unfold Pf at hby;rw [z1] at hby;simpa using hby
 have hlz:=z3.length
 rw [Array.length_toList,hzl] at hlz
 rcases e3 with ⟨rfl,rfl⟩ | ⟨ad,rfl,e4⟩
 ·refine ⟨v,w,inner,e1,BJ ht z1 hown,by rw [ajm];exact hown,by rw [ajm];exact hin,⟨rfl,rfl,rfl,aiq _,fun _ _ _=>rfl⟩,.inl rfl⟩
 ·have hle2:rows.length + new.length ≤ 140737488355328:=aiH (Nat.le_mul_of_pos_right _ hb0) hle
  have key:∃ v' w' e2,(Builtin.append_ #[t,t] ty #[v,.slice (some ad) new.length c]).run P w = .ok v' w' ∧ w'.ownsRow 0 e2 sz v' (rows.length + new.length) (inner ++ vs) ∧ w.grownBy w' v.ownBlock ∧ (v'.ownBlock = v.ownBlock ∨ v'.ownBlock = some w.heap.size):=by
   rcases hown.2 with ⟨e5,e6⟩ | ⟨g,cap,cur,e5,e6,e7,e8,e9,e10,e11⟩
   ·have hx:inner = []:=ajO (by have:=hown.1;rw [e6] at this;simpa using this)
    subst hx
    obtain ⟨v',w',r1,r2,r3,r4,r5⟩:=run_append_own_at (P:=P) w 0 t ty e i zv sz bytes ht z1 z2 hsz hbt (by omega) h0 v rows.length [] ⟨hown.1,.inl ⟨e5,e6⟩⟩ ad new.length c vs e2.len e4 e2.one (by simp only [maxLen];omega) hle (aiU _)
    exact ⟨v',w',e,r1,r2,r3,r5⟩
   ·have hlen:(inner ++ vs).length = (rows.length + new.length) * sz:=by rw [aiv,hown.1,e2.len,Nat.add_mul]
    by_cases hroom:rows.length + new.length ≤ cap
    ·have hfit:rows.length * i.size + vs.length ≤ cur.size:=by rw [e2.len,e10,hsz,← Nat.add_mul];exact ajP _ hroom
     have hr:=BK (P:=P) (w:=w) t ty e e1 i ht z1 g rows.length cap cur e7 ad new.length c vs (by rw [hsz];exact e2.len) e4 e2.one hroom hfit
     rw [e5]
     refine ⟨_,_,e1,hr,⟨hlen,.inr ⟨g,cap,_,rfl,e6,setRow_heap w g cur _ e1 _ e7,hroom,e9,?_,?_⟩⟩,⟨rfl,rfl,rfl,by simp,fun k _ hk=>setRow_other w g k _ (fun e=>hk (by simp [Value.ownBlock,e]))⟩,Or.inl rfl⟩
     ·simp only [List.size_toArray,aiv,aiC,aiR,Array.length_toList]
      omega
     ·rw [hsz,e11,← hlen]
      exact List.take_left
    ·have holds:∀ j u,inner[j]? = some u → w.cell? ((⟨g,0,none⟩:Addr).add j) = some u:=hown.cells (g:=g) (by rw [e5];rfl)
     have hr:=run_append_grow (P:=P) w t ty e i zv ht z1 z2 ⟨g,0,none⟩ rows.length cap inner (by rw [hsz];exact hown.1) holds ad new.length c vs (by rw [hsz];exact e2.len) e4 (by omega) (by omega) (growslice_fits (by omega) (by rw [hbt];exact hle))
     have hge:=grownCap_ge w (rows.length + new.length) cap e
     have hcm:grownCap w (rows.length + new.length) cap e ≤ maxLen:=grownCap_le_maxLen w (rows.length + new.length) cap e (by simp only [maxLen];omega)
     rw [e5]
     refine ⟨_,_,e,hr,⟨hlen,.inr ⟨w.heap.size,_,_,rfl,aiU _,heap_alloc_new w.drew _,hge,hcm,?_,?_⟩⟩,⟨rfl,rfl,rfl,by simp,fun k hk _=>heap_alloc_old w.drew _ hk⟩,Or.inr rfl⟩
     ·simp only [Array.size_append,List.size_toArray,size_zeroCells,show zv.cells.size = sz by omega,hown.1,e2.len,← Nat.add_mul]
      congr 1
      omega
     ·simp only [Array.toList_append,ajc]
      rw [← ajc,← hlen]
      exact List.take_left
  obtain ⟨v',w',e2',r1,r2,r3,r5⟩:=key
  refine ⟨v',w',inner ++ vs,e2',r1,by rw [aiv];exact r2,?_,r3,r5⟩
  refine eD.mono (fun _ h=>h) (fun b hb=>r3.block b (h.fz b hb).1 (fun e=>hfz b e.symm hb)) sz _ _ (hin.app e2)
theorem YK (h:Rel aY w0 aX N Fz κ σ a w) {t ty e:TypeId} {sz bytes:Nat} {z:List PL} {x y:Operand} {x' y':dH} (ht:P.underlying t = some (.slice e)) (hn:kZ P e = some sz) (hby:Pf P e = some bytes) (hz:zR P e = some z) (hzl:z.length = sz) (h0:0 < sz) (hb0:0 < bytes)
  (hx:fA x = some x') (hy:fA y = some y') (hE:bV Γ q σ d (.app e sz bytes x' y') = some (pv,σ')) :
  Does P aY w0 aX N q d Fz κ σ a w (do let v ← Builtin.append_ #[t,t] ty #[a.eval x,a.eval y];Pure.pure (.value v)) σ' pv:=by
 obtain ⟨v,h1,h2⟩:=zbm hE
 obtain ⟨u,h3,h4⟩:=zbm h2
 obtain ⟨new,h5,h6⟩:=zbm h4
 have hv:=h.eval hx h1
 have hu:=h.eval hy h3
 split at h6
 ·split at h6
  ·rename_i hc
   obtain ⟨s,h7,h8⟩:=zmm h6
   cases h8
   have hown:w.ownsRow 0 e sz (.slice none 0 0) ([]:List (List FV)).length []:=World.ownsRow_nil w _ e sz
   obtain ⟨v',w',uJ,e2,r1,r2,r3,r4,r5⟩:=G7 (P:=P) (ty:=ty) (rows:=[]) h ht hn hby hz hzl h0 hb0 hu h5 hc.2.2 hown rfl (by simpa using hc.2.1) (fun b hb=>by cases hb)
   rw [List.nil_append] at r2 r3
   have hb:∀ b,blk v' = some b → w.heap.size ≤ b ∧ b < w'.heap.size:=by
    intro b hb
    have fQ:v'.ownBlock = some b:=by
     rcases r2.2 with ⟨e1,_⟩ | ⟨g,cap,cur,e1,_⟩ <;> rw [e1] at hb ⊢ <;> exact hb
    rcases r5 with r5 | r5
    ·rw [fQ] at r5;cases r5
    ·rw [fQ] at r5;cases r5;exact ⟨aiq _,(r2.lt _ fQ).2⟩
   have hval:∃ A c,v' = .slice A new.length c:=by
    rcases r2.2 with ⟨e1,e3⟩ | ⟨g,cap,cur,e1,_⟩
    ·exact ⟨none,0,by rw [e1,e3]⟩
    ·exact ⟨_,_,e1⟩
   obtain ⟨A,c,hA⟩:=hval
   refine ⟨_,w',_,_,v',by rw [show a.eval x = .slice none 0 0 from hv,Sem.run_bind,r1];rfl,.inl rfl,Good.new (pl:=.own (dx d) new.length) h h7 r4.size (fun b hb=>r4.block b hb (by simp [Value.ownBlock])) hb ⟨r4.os,r4.output⟩ ?_ ⟨by rw [bL],A,c,hA⟩⟩
   exact ⟨h0,e2,uJ,A,c,by rw [bL];exact hA,by rw [bL];exact r2,r3⟩
  ·cases h6
 ·rename_i key n
  split at h6
  ·rename_i sz' rows fQ
   split at h6
   ·rename_i hc
    cases h6
    obtain ⟨hq,c1,c2,c3,c4,c6,c5⟩:=hc
    subst c2
    subst c3
    obtain ⟨o0,e1,inner,A,c,o1,o2,o3⟩:=h.obj fQ
    have sJ:∀ b,(κ key).ownBlock = some b → blk (κ key) = some b:=fun b hb=>Bu hb
    obtain ⟨v',w',uJ,e2,r1,r2,r3,r4,r5⟩:=G7 (P:=P) (ty:=ty) h ht hn hby hz hzl h0 hb0 hu h5 c5 o2 o3 c1 (fun b hb hf=>(h.pos _ (get_mem fQ) b (sJ b hb)).1 hf)
    have hval:∃ A c,v' = .slice A (rows ++ new).length c:=by
     rcases r2.2 with ⟨e1,e3⟩ | ⟨g,cap,cur,e1,_⟩
     ·exact ⟨none,0,by rw [e1,e3]⟩
     ·exact ⟨_,_,e1⟩
    obtain ⟨A',c',hA⟩:=hval
    have hbo:∀ b,blk (κ key) = some b → (κ key).ownBlock = some b:=fun b hb=>by rw [o1] at hb ⊢;cases A <;> exact hb
    have hb:∀ b,blk v' = some b → b < w'.heap.size ∧ (blk (κ key) = some b ∨ w.heap.size ≤ b):=by
     intro b hb
     have UL:v'.ownBlock = some b:=by rw [hA] at hb ⊢;cases A' <;> exact hb
     refine ⟨(r2.lt _ UL).2,?_⟩
     rcases r5 with r5 | r5
     ·rw [UL] at r5;exact .inl (sJ b r5.symm)
     ·rw [UL] at r5;cases r5;exact .inr (aiq _)
    have hmv:∀ b,b < w.heap.size → blk (κ key) ≠ some b → w'.heap[b]? = w.heap[b]?:=fun b hb hne=>r4.block b hb (fun e=>hne (sJ b e.symm))
    have hrel:=h.moved (o':=.row sz' (rows ++ new)) (v':=v') fQ ⟨A,_,c,o1⟩ r4.size hmv hb ⟨r4.os,r4.output⟩ ⟨h0,e2,uJ,A',c',by rw [bL];exact hA,by rw [bL];exact r2,r3⟩
    subst hq
    refine ⟨_,w',_,Fz,v',by rw [hv.1,Sem.run_bind,r1];rfl,.inl rfl,hrel,⟨by rw [bL],A',c',by rw [hA,aiv]⟩,fun _ h=>h,fun k hk=>eF (fun e=>by subst e;omega) v'⟩
   ·cases h6
  ·cases h6
 ·cases h6
end
end
section
open Go
section
variable {P : Program} {Γ:Env} {aY Fz bA:Nat → Prop} {w0 w w':World} {aX:List Nat} {N:Fr} {d:Nat} {q:Bool} {κ eU:Nat → Value} {σ σ1 σ':St} {a:Act} {pv:PV} {o:Oper}
theorem K8 (h:Rel aY w0 aX N Fz κ σ a w) {op:BinOp} {t e:TypeId} {neg:Bool} {x y:Operand} {x' y':dH} (hu:P.underlying t = some (.slice e)) (hop:(op = .eql ∧ neg = false) ∨ (op = .neq ∧ neg = true)) (hx:fA x = some x') (hy:fA y = some y') (hn:KW y' = true) (hE:bV Γ q σ d (.zm neg x') = some (pv,σ')) :
  Does P aY w0 aX N q d Fz κ σ a w (do let v ← (do eqGuard op t x y (a.eval x) (a.eval y);binOp op t (a.eval x) (a.eval y):Sem Value);Pure.pure (.value v)) σ' pv:=by
 have hyv:a.eval y = .slice none 0 0:=by
  unfold KW at hn
  split at hn
  ·exact h.eval (v:=.one .bP) hy rfl
  ·cases hn
 obtain ⟨v,h1,h2⟩:=zbm hE
 have hv:=h.eval hx h1
 have hg:∀ p n c,(eqGuard op t x y (.slice p n c) (.slice none 0 0)).run P w = .ok () w:=by
  intro p n c
  unfold eqGuard
  rcases hop with ⟨rfl,_⟩ | ⟨rfl,_⟩ <;> rfl
 have run:∀ p n c,a.eval x = .slice p n c → pv = .c (.one (.f (.bool (if neg then !p.isNone else p.isNone)))) → σ' = σ → Does P aY w0 aX N q d Fz κ σ a w (do let v ← (do eqGuard op t x y (a.eval x) (a.eval y);binOp op t (a.eval x) (a.eval y):Sem Value);Pure.pure (.value v)) σ' pv:=by
  intro p n c hp hpv hs
  subst hpv
  subst hs
  refine Does.pure h (v:=.bool (if neg then !p.isNone else p.isNone)) ?_ rfl
  rw [hp,hyv]
  simp only [Sem.run_bind,hg,Result.andThen_ok]
  rcases hop with ⟨rfl,rfl⟩ | ⟨rfl,rfl⟩
  ·have:=run_equal_slice_nil w t e p n c hu
   simp only [binOp,Sem.run_bind,this,Result.andThen_ok,Sem.run_pure]
   simp
  ·exact run_neq_slice_nil w t e p n c hu
 split at h2
 ·cases h2;exact run none 0 0 hv (by cases neg <;> rfl) rfl
 ·cases h2
  simp only [fP,eB,fu] at hv
  obtain ⟨A,c,e1,_,_,e2⟩:=hv
  rcases e2 with e2 | ⟨b,o,sz,rfl,_⟩
  ·cases e2
  ·exact run _ _ _ e1 (by cases neg <;> rfl) rfl
 ·cases h2
theorem qU {op:BinOp} {t:TypeId} {x y:Operand} {k k':IntKind} {m n:Int}:(eqGuard op t x y (.int k m) (.int k' n)).run P w = .ok () w:=by
 unfold eqGuard
 cases op <;> rfl
theorem YL (h:Rel aY w0 aX N Fz κ σ a w) {op:BinOp} {t:TypeId} {x y:Operand} {x' y':dH} (ho:op = .or ∨ op = .and ∨ op = .xor) (hx:fA x = some x') (hy:fA y = some y') (hE:bV Γ q σ d (.bit op x' y') = some (pv,σ')) :
  Does P aY w0 aX N q d Fz κ σ a w (do let v ← (do eqGuard op t x y (a.eval x) (a.eval y);binOp op t (a.eval x) (a.eval y):Sem Value);Pure.pure (.value v)) σ' pv:=by
 obtain ⟨u,h1,h2⟩:=zbm hE
 obtain ⟨v,h3,h4⟩:=zbm h2
 obtain ⟨m,h5,h6⟩:=zbm h4
 obtain ⟨n,h7,h8⟩:=zbm h6
 split at h8
 ·rename_i hk
  cases h8
  have e1:=gX h5 (h.eval hx h1)
  have e2:=gX h7 (h.eval hy h3)
  obtain ⟨k,m⟩:=m
  obtain ⟨k',n⟩:=n
  simp only at hk e1 e2
  subst hk
  refine Does.pure h (v:=.int k (Go.bits op k m n)) ?_ rfl
  rw [e1,e2]
  refine jS qU ?_
  rcases ho with rfl | rfl | rfl
  ·rw [binOp_or,intBits_or];rfl
  ·rw [binOp_and,intBits_and];rfl
  ·rw [binOp_xor,intBits_xor];rfl
 ·cases h8
theorem SB (h:Rel aY w0 aX N Fz κ σ a w) {op:BinOp} {t:TypeId} {l:Bool} {x y:Operand} {x' y':dH} (ho:(op = .shl ∧ l = true) ∨ (op = .shr ∧ l = false)) (hx:fA x = some x') (hy:fA y = some y') (hE:bV Γ q σ d (.Us l x' y') = some (pv,σ')) :
  Does P aY w0 aX N q d Fz κ σ a w (do let v ← (do eqGuard op t x y (a.eval x) (a.eval y);binOp op t (a.eval x) (a.eval y):Sem Value);Pure.pure (.value v)) σ' pv:=by
 obtain ⟨u,h1,h2⟩:=zbm hE
 obtain ⟨v,h3,h4⟩:=zbm h2
 obtain ⟨m,h5,h6⟩:=zbm h4
 obtain ⟨n,h7,h8⟩:=zbm h6
 split at h8
 ·rename_i hk
  cases h8
  have e1:=gX h5 (h.eval hx h1)
  have e2:=gX h7 (h.eval hy h3)
  obtain ⟨k,m⟩:=m
  obtain ⟨k',n⟩:=n
  simp only at hk e1 e2
  refine Does.pure h (v:=.int k (if l then k.wrap (m * 2 ^ (min n.toNat k.bits)) else m.fdiv (2 ^ (min n.toNat k.bits)))) ?_ rfl
  rw [e1,e2]
  refine jS qU ?_
  have hn:¬ n < 0:=by omega
  rcases ho with ⟨rfl,rfl⟩ | ⟨rfl,rfl⟩
  ·simp only [binOp,Op.shift,ain hn];rfl
  ·simp only [binOp,Op.shift,ain hn];rfl
 ·cases h8
theorem xw : ∀ (ns:List Int) (s:ByteArray),ns.foldl (fun r n=>r.push (UInt8.ofNat n.toNat)) s = ⟨s.data ++ (ns.map fun n=>UInt8.ofNat n.toNat).toArray⟩
 | [],s=>by simp
 | n :: ns,s=>by
  rw [List.foldl_cons,xw ns]
  simp [ByteArray.push]
theorem rF : ∀ {rows:List (List FV)} {s:ByteArray},bytesOf rows = some s → ∃ ns:List Int,rows = ns.map (fun n=>[FV.int .u8 n]) ∧ s = ⟨(ns.map fun n=>UInt8.ofNat n.toNat).toArray⟩
 | [],s,h=>by cases h;exact ⟨[],rfl,rfl⟩
 | r :: rows,s,h=>by
  unfold bytesOf at h
  split at h
  ·rename_i heq;cases heq
  ·rename_i n l heq
   injection heq with e1 e2
   subst e1
   subst e2
   obtain ⟨s',h1,rfl⟩:=zmm h
   obtain ⟨ns,rfl,rfl⟩:=rF h1
   exact ⟨n :: ns,rfl,by simp⟩
  ·cases h
theorem qV {b:Nat}:∀ (ns:List Int) (sz o:Nat),cK Fz w sz b o (ns.map (fun n=>[FV.int .u8 n])) → ns ≠ [] → ∀ j v,(ns.map (Value.int .u8))[j]? = some v → w.cell? ⟨b,o + j,none⟩ = some v
 | [],_,_,_,h,_,_,_=>absurd rfl h
 | n :: ns,sz,o,h,_,j,v,hj=>by
  simp only [aiy,cK] at h
  obtain ⟨h1,h2,h3⟩:=h
  have hsz:sz = 1:=by simpa using h1.symm
  subst hsz
  simp only [dZ,fu] at h2
  cases j with
  | zero =>
   obtain ⟨⟨u,e1,e2⟩,_⟩:=h2
   simp at hj
   rw [Nat.add_zero,e1,e2,hj]
  | succ j =>
   simp at hj
   have hne:ns ≠ []:=by rintro rfl;simp at hj
   have:=qV ns 1 (o + 1) h3 hne j v (by simpa using hj)
   rwa [show o + 1 + j = o + (j + 1) from by omega] at this
theorem qh {src dst e:TypeId} (hs:P.underlying src = some (.slice e)) (he:P.underlying e = some (.int .u8)) (hd:P.underlying dst = some .string) {A:Option Addr} {c:Nat} {ns:List Int} (hA:A = none ∨ ∃ ad:Addr,A = some ad ∧ ∀ j v,(ns.map (Value.int .u8))[j]? = some v → w.cell? (ad.add j) = some v) (hn:A = none → ns = []) :
  (convert src dst (.slice A ns.length c)).run P w = .ok (.string ⟨(ns.map fun n=>UInt8.ofNat n.toNat).toArray⟩) w:=by
 rw [run_convert_bytes_string w src dst e A _ c hs he hd]
 rcases hA with rfl | ⟨ad,rfl,hc⟩
 ·rw [hn rfl];rfl
 ·rw [run_bytesToString w ad ns.length c ns (by
   have:=run_loadCells_list (P:=P) w ad (ns.map (Value.int .u8)) hc
   simpa using this),xw]
  simp [ByteArray.empty,ByteArray.emptyWithCapacity]
  rfl
theorem YM (h:Rel aY w0 aX N Fz κ σ a w) {src dst e:TypeId} {x:Operand} {x':dH} (hs:P.underlying src = some (.slice e)) (he:P.underlying e = some (.int .u8)) (hd:P.underlying dst = some .string) (hx:fA x = some x') (hE:bV Γ q σ d (.Xm x') = some (pv,σ')) :
  Does P aY w0 aX N q d Fz κ σ a w (do let v ← convert src dst (a.eval x);Pure.pure (.value v)) σ' pv:=by
 obtain ⟨v,h1,h2⟩:=zbm hE
 have hv:=h.eval hx h1
 split at h2
 ·rename_i rows
  obtain ⟨s,h3,h4⟩:=zbm h2
  cases h4
  obtain ⟨ns,rfl,rfl⟩:=rF h3
  simp only [fP,eB,fu] at hv
  obtain ⟨A,c,e1,_,_,e2⟩:=hv
  rw [aio] at e1
  by_cases hn:ns = []
  ·subst hn
   refine Does.pure h (v:=.string ⟨#[]⟩) ?_ rfl
   rw [e1]
   cases A with
   | none=>exact qh (A:=none) (ns:=[]) hs he hd (.inl rfl) (fun _=>rfl)
   | some ad=>exact qh (A:=some ad) (ns:=[]) hs he hd (.inr ⟨ad,rfl,fun j v hj=>by simp at hj⟩) (fun _=>rfl)
  ·rcases e2 with e2 | ⟨b,o,sz,rfl,_,e3⟩
   ·exact absurd (by simpa using e2) hn
   ·refine Does.pure h (v:=.string _) ?_ rfl
    rw [e1]
    refine qh hs he hd (.inr ⟨_,rfl,fun j v hj=>?_⟩) (fun h=>by cases h)
    rw [l9]
    exact qV ns sz o e3 hn j v hj
 ·cases h2
  refine Does.pure h (v:=.string ⟨#[]⟩) ?_ rfl
  rw [show a.eval x = .slice none 0 0 from hv]
  exact qh (A:=none) (ns:=[]) hs he hd (.inl rfl) (fun _=>rfl)
 ·rename_i key n
  split at h2
  ·rename_i sz rows fQ
   split at h2
   ·rename_i hz
    subst hz
    obtain ⟨s,h3,h4⟩:=zbm h2
    cases h4
    obtain ⟨ns,rfl,rfl⟩:=rF h3
    obtain ⟨_,e1,inner,A,c,o1,o2,o3⟩:=h.obj fQ
    have hin:∀ (ns:List Int) (inner:List Value),eD Fz w 1 (ns.map fun n=>[FV.int .u8 n]) inner → inner = ns.map (Value.int .u8):=by
     intro ns
     induction ns with
     | nil=>intro inner h;exact h
     | cons n ns ih =>
      intro inner h
      simp only [aiy,eD] at h
      obtain ⟨_,h2,h3⟩:=h
      cases inner with
      | nil=>exact h2.elim
      | cons u inner =>
       simp only [List.take_succ_cons,List.take_zero,bW,fu,List.drop_succ_cons,ajs] at h2 h3
       rw [ih _ h3,h2.1];rfl
    have hi:=hin ns inner o3
    refine Does.pure h (v:=.string _) ?_ rfl
    rw [show a.eval x = .slice A ns.length c by rw [hv.1,o1,aio]]
    rw [aio] at o2
    rcases o2.2 with ⟨e5,e6⟩ | ⟨g,cap,cur,e5,e6,e7,_⟩
    ·rw [o1] at e5
     injection e5 with e5 _ _
     subst e5
     have hns:ns = []:=ajO e6
     subst hns
     exact qh (A:=none) (ns:=[]) hs he hd (.inl rfl) (fun _=>rfl)
    ·rw [o1] at e5
     injection e5 with e8 _ _
     subst e8
     refine qh hs he hd (.inr ⟨_,rfl,fun j v hj=>?_⟩) (fun h=>by cases h)
     exact o2.cells (g:=g) (by rw [o1];rfl) j v (by rw [hi];exact hj)
   ·cases h2
  ·cases h2
 ·cases h2
theorem eD.head {sz:Nat}:∀ {rows:List (List FV)} {inner:List Value} (k:Nat),eD Fz w sz rows inner → inner.length = rows.length * sz → eD Fz w sz (rows.take k) (inner.take (k * sz))
 | rows,inner,0,h,_=>by rw [List.take_zero,ajr,List.take_zero];rfl
 | [],inner,k + 1,h,hl=>by
  have:inner = []:=h
  subst this
  rw [List.take_nil,List.take_nil];rfl
 | r :: rows,inner,k + 1,h,hl=>by
  obtain ⟨h1,h2,h3⟩:=h
  rw [List.take_succ_cons]
  rw [List.length_cons,aja] at hl
  refine ⟨h1,?_,?_⟩
  ·rw [List.take_take,aj6 (by rw [aja];omega)];exact h2
  ·have:=eD.head k h3 (by rw [aiR];omega)
   rw [List.drop_take,aja,Nat.add_sub_cancel]
   exact this
theorem UM (h:Rel aY w0 aX N Fz κ σ a w) {t e:TypeId} {sz:Nat} {x y:Operand} {x' y':dH} (hu:P.underlying t = some (.slice e)) (hn:kZ P e = some sz) (hx:fA x = some x') (hy:fA y = some y') (hE:bV Γ q σ d (.Dk sz x' y') = some (pv,σ')) :
  Does P aY w0 aX N q d Fz κ σ a w (do let v ← Instr.sliceAt t (a.eval x) none (some (a.eval y)) none;Pure.pure (.value v)) σ' pv:=by
 simp only [bV] at hE
 split at hE
 ·cases hE
 rename_i hq
 obtain ⟨v,h1,h2⟩:=zbm hE
 obtain ⟨j,h3,h4⟩:=zbm h2
 obtain ⟨p,h5,h6⟩:=zbm h4
 have hv:=h.eval hx h1
 have hj:=gX h5 (h.eval hy h3)
 split at h6
 ·rename_i key n
  split at h6
  ·rename_i sz' rows fQ
   split at h6
   ·rename_i hc
    cases h6
    obtain ⟨rfl,c1,c2,c3⟩:=hc
    obtain ⟨o0,e1,inner,A,c,o1,o2,o3⟩:=h.obj fQ
    have hk:p.2.toNat ≤ rows.length:=by omega
    have hlen:((rows.take p.2.toNat)).length = p.2.toNat:=by rw [aiC];omega
    have hle:rows.length ≤ c:=by
     rcases o2.2 with ⟨e5,e6⟩ | ⟨g,cap,cur,e5,e6,e7,e8,_⟩
     ·rw [e6];exact aiU _
     ·rw [o1] at e5;injection e5 with _ _ e9;subst e9;exact e8
    have hb:(Instr.sliceBounds true rows.length c none (some (.int p.1 p.2)) none).run P w = .ok (0,p.2.toNat,c) w:=by
     have hc':0 ≤ p.2 ∧ p.2 ≤ (c:Int):=⟨c2,by omega⟩
     unfold Instr.sliceBounds Instr.sliceBound
     simp only [Sem.run_bind,Sem.run_pure,Result.andThen_ok,iL,ail hc']
    have hrun:=oW (P:=P) (w:=w) hu hn (A:=A) hb
    rw [ajr,Nat.sub_zero,Nat.sub_zero] at hrun
    have hA:(if c = 0 then A else A.map (·.add 0)) = A:=by
     split
     ·rfl
     ·cases A with
      | none=>rfl
      | some ad=>simp [Option.map_some,Addr.add]
    rw [hA] at hrun
    have hown:w.ownsRow 0 e1 sz' (.slice A p.2.toNat c) (rows.take p.2.toNat).length (inner.take (p.2.toNat * sz')):=by
     rw [hlen]
     refine ⟨by rw [aiC,o2.1];exact aj6 (ajP _ hk),?_⟩
     rcases o2.2 with ⟨e5,e6⟩ | ⟨g,cap,cur,e5,e6,e7,e8,e9,e10,e11⟩
     ·left
      rw [o1] at e5
      injection e5 with e5 e5' K9
      subst e5
      subst K9
      have:p.2.toNat = 0:=by omega
      rw [this]
      exact ⟨rfl,rfl⟩
     ·right
      rw [o1] at e5
      injection e5 with e5 _ K9
      subst e5
      subst K9
      refine ⟨g,c,cur,rfl,e6,e7,by omega,e9,e10,?_⟩
      rw [← e11,List.take_take,aj6 (ajP _ hk)]
    have hbk:∀ b,blk (.slice A p.2.toNat c) = some b → b < w.heap.size ∧ (blk (κ key) = some b ∨ w.heap.size ≤ b):=by
     intro b hb1
     have hb2:blk (κ key) = some b:=by rw [o1];cases A <;> exact hb1
     exact ⟨(h.pos _ (get_mem fQ) b hb2).2.1,.inl hb2⟩
    have hrel:=h.moved (w':=w) (o':=.row sz' (rows.take p.2.toNat)) (v':=.slice A p.2.toNat c) fQ ⟨A,_,c,o1⟩ (aiq _) (fun _ _ _=>rfl) hbk ⟨rfl,rfl⟩ ⟨o0,e1,_,A,c,by rw [bL,hlen],by rw [bL];exact hown,o3.head _ o2.1⟩
    refine ⟨_,w,_,Fz,.slice A p.2.toNat c,?_,.inl rfl,hrel,⟨by rw [bL],A,c,rfl⟩,fun _ h=>h,fun k hk=>eF (fun e=>by subst e;omega) _⟩
    rw [hv.1,o1,hj,Sem.run_bind,hrun]
    rfl
   ·cases h6
  ·cases h6
 ·cases h6
theorem UN (h:Rel aY w0 aX N Fz κ σ a w) {t e:TypeId} {sz:Nat} {x y:Operand} {x' y':dH} (hu:P.underlying t = some (.slice e)) (hn:kZ P e = some sz) (hx:fA x = some x') (hy:fA y = some y') (hE:bV Γ q σ d (.cutV sz x' y') = some (pv,σ')) :
  Does P aY w0 aX N q d Fz κ σ a w (do let v ← Instr.sliceAt t (a.eval x) (some (a.eval y)) none none;Pure.pure (.value v)) σ' pv:=by
 simp only [bV] at hE
 obtain ⟨v,h1,h2⟩:=zbm hE
 obtain ⟨j,h3,h4⟩:=zbm h2
 obtain ⟨p,h5,h6⟩:=zbm h4
 have hv:=h.eval hx h1
 have hj:=gX h5 (h.eval hy h3)
 split at h6
 ·rename_i key n
  split at h6
  ·rename_i sz' rows fQ
   split at h6
   ·rename_i hc
    cases h6
    obtain ⟨rfl,c2,c3⟩:=hc
    obtain ⟨o0,e1,inner,A,c,o1,o2,o3⟩:=h.obj fQ
    have hb:(Instr.sliceBounds true rows.length c (some (.int p.1 p.2)) none none).run P w = .ok (p.2.toNat,rows.length,c) w:=by
     have hc':0 ≤ p.2 ∧ p.2 ≤ (rows.length:Int):=⟨c2,c3⟩
     unfold Instr.sliceBounds Instr.sliceBound
     simp only [Sem.run_bind,Sem.run_pure,Result.andThen_ok,iL,ail hc',Option.isSome_none,aiO,aiJ]
    have hrun:=oW (P:=P) (w:=w) hu hn (A:=A) hb
    refine Does.pure h (v:=.slice (if c = p.2.toNat then A else A.map (·.add (p.2.toNat * sz'))) (rows.length - p.2.toNat) (c - p.2.toNat)) ?_ ⟨A,c,o1,rfl⟩
    rw [hv.1,o1,hj]
    exact hrun
   ·cases h6
  ·cases h6
 ·cases h6
end
end
section
open Go
section
variable {P : Program} {Γ:Env} {aY Fz bA:Nat → Prop} {w0 w w':World} {aX:List Nat} {N:Fr} {d:Nat} {q:Bool} {κ eU:Nat → Value} {σ σ1 σ':St} {a:Act} {pv:PV} {o:Oper}
theorem eD.zeros {sz:Nat} {z:List FV} {zs:List Value} (hz:bW Fz w z zs) (hl:z.length = sz):∀ n,eD Fz w sz (List.replicate n z) (List.replicate n zs).flatten
 | 0=>rfl
 | n + 1=>by
  have hlen:=hz.length
  rw [List.replicate_succ,List.replicate_succ,List.flatten_cons]
  refine ⟨hl,?_,?_⟩
  ·rw [List.take_left' (by omega)];exact hz
  ·rw [List.drop_left' (by omega)];exact eD.zeros hz hl n
theorem Dv {α:Type} (zs:List α):∀ n,((List.replicate n zs).flatten).length = n * zs.length
 | 0=>by simp
 | n + 1=>by rw [List.replicate_succ,List.flatten_cons,aiv,Dv zs n,aja];omega
theorem Dw {cells:Array Value} (h:0 < cells.size) (n:Nat):(Builtin.zeroCells cells n).toList = (List.replicate n cells.toList).flatten:=by
 unfold Builtin.zeroCells
 rw [ajz,Array.toList_range]
 exact lF cells h n
theorem zx {t e ty:TypeId} {i:TypeInfo} {zv:Value} (hu:P.underlying t = some (.slice e)) (hie:P.info? e = some i) (hz:i.zero = some zv) {g off m c:Nat} {cur:Array Value} {e1:TypeId} (hg:w.heap[g]? = some (.cells cur e1 (0,0))) (hm:0 < m) {zs:List Value} (hzs:(Builtin.zeroCells zv.cells m).toList = zs) (hfit:off + zs.length ≤ cur.size) (h1:∀ u ∈ zs,u.oneCell' = true) :
  (Builtin.clear_ #[t] ty #[.slice (some ⟨g,off,none⟩) m c]).run P w = .ok (.tuple #[]) (w.setRow g (cur.toList.take off ++ zs ++ cur.toList.drop (off + zs.length)).toArray):=by
 obtain ⟨m,rfl⟩:∃ k,m = k + 1:=⟨m - 1,by omega⟩
 have hst:=run_storeCells_at P g off e1 zs 0 cur w hg (by simpa using hfit) h1
 simp only [Nat.add_zero] at hst
 unfold Builtin.clear_
 simp [run_underlying hu,zeroValue,typeInfo,hie,hz,hzs,hst]
theorem xA {t e ty:TypeId} (hu:P.underlying t = some (.slice e)) {A:Option Addr} {c:Nat}:(Builtin.clear_ #[t] ty #[.slice A 0 c]).run P w = .ok (.tuple #[]) w:=by
 unfold Builtin.clear_
 cases A <;> simp [run_underlying hu]
theorem YN (h:Rel aY w0 aX N Fz κ σ a w) {t ty e:TypeId} {sz:Nat} {zp:List PL} {z:List FV} {x:Operand} {x':dH} (hu:P.underlying t = some (.slice e)) (hzp:zR P e = some zp) (hz:p9 zp = some z) (hx:fA x = some x') (hE:bV Γ q σ d (.Sn sz z x') = some (pv,σ')) :
  Does P aY w0 aX N q d Fz κ σ a w (do let v ← Builtin.clear_ #[t] ty #[a.eval x];Pure.pure (.value v)) σ' pv:=by
 obtain ⟨v,h1,h2⟩:=zbm hE
 have hv:=h.eval hx h1
 split at h2
 ·rename_i key z' n lo
  split at h2
  ·rename_i sz' rows fQ
   split at h2
   ·rename_i hc
    cases h2
    obtain ⟨rfl,rfl,c1,rfl,c2⟩:=hc
    obtain ⟨A,c,hA,Xu⟩:=hv
    obtain ⟨o0,e1,inner,A',c',o1,o2,o3⟩:=h.obj fQ
    rw [o1] at hA
    injection hA with hA1 _ hA3
    subst hA1
    subst hA3
    obtain ⟨i,zv,g1,g2,g3⟩:=uI (Fz:=Fz) (κ:=κ) (w:=w) hzp
    have hfs:=rE hz g3
    have hzl:=hfs.length
    rw [Array.length_toList] at hzl
    by_cases hlt:lo < rows.length
    ·rcases o2.2 with ⟨e5,e6⟩ | ⟨g,cap,cur,e5,e6,e7,e8,e9,e10,e11⟩
     ·omega
     ·rw [o1] at e5
      injection e5 with e5 _ K9
      subst e5
      subst K9
      have e:zv.cells.toList.length = z':=by rw [Array.length_toList];omega
      have hzr:=eD.zeros hfs c1 (rows.length - lo)
      have hlz:=Dv zv.cells.toList (rows.length - lo)
      have hzc:=Dw (cells:=zv.cells) (by omega) (rows.length - lo)
      rw [e] at hlz
      generalize (List.replicate (rows.length - lo) zv.cells.toList).flatten = Z at hlz hzr hzc
      have hfit:lo * z' + (rows.length - lo) * z' ≤ cur.size:=by
       rw [← Nat.add_mul,e10];exact ajP _ (by omega)
      have hrun:=zx (P:=P) (ty:=ty) (off:=lo * z') (c:=c' - lo) hu g1 g2 e7 (m:=rows.length - lo) (by omega) hzc (by omega) hzr.one
      refine ⟨_,w.setRow g (cur.toList.take (lo * z') ++ Z ++ cur.toList.drop (lo * z' + Z.length)).toArray,κ,Fz,.tuple #[],?_,.inl rfl,Good.set h fQ (by simp) (fun k _ hk=>setRow_other w g k _ (fun e=>hk (by rw [o1,e];rfl))) (Kp.setRow _ _ _) ?_ ⟨_,rfl,trivial⟩⟩
      ·rw [Xu,ain (by omega),Option.map_some,l9,aiP,Sem.run_bind,hrun];rfl
      ·have hl:(rows.take lo ++ List.replicate (rows.length - lo) z).length = rows.length:=by
        rw [aiv,aiC,List.length_replicate];omega
       have hmv:∀ k,Fz k → (w.setRow g (cur.toList.take (lo * z') ++ Z ++ cur.toList.drop (lo * z' + Z.length)).toArray).heap[k]? = w.heap[k]?:=fun k hk=>setRow_other w g k _ (fun e=>(h.pos _ (get_mem fQ) g (by rw [o1];rfl)).1 (e ▸ hk))
       have hle:lo * z' ≤ rows.length * z':=ajP _ c2
       have hti:cur.toList.take (lo * z') = inner.take (lo * z'):=by
        rw [← e11,List.take_take,aj6 hle]
       have hsum:lo * z' + (rows.length - lo) * z' = rows.length * z':=by rw [← Nat.add_mul];congr 1;omega
       refine ⟨o0,e1,inner.take (lo * z') ++ Z,some ⟨g,0,none⟩,c',by rw [hl];exact o1,?_,eD.mono (fun _ h=>h) hmv _ _ _ ((o3.head lo o2.1).app hzr)⟩
       rw [hl,o1]
       refine ⟨?_,.inr ⟨g,c',_,rfl,e6,setRow_heap w g cur _ e1 _ e7,e8,e9,?_,?_⟩⟩
       ·rw [aiv,aiC,o2.1,aj6 hle];omega
       ·simp only [List.size_toArray,aiv,aiC,aiR,Array.length_toList]
        omega
       ·have hl2:(cur.toList.take (lo * z') ++ Z).length = rows.length * z':=by
         simp only [aiv,aiC,Array.length_toList]
         omega
        rw [← hti,← hl2]
        exact List.take_left
    ·have hlo:lo = rows.length:=by omega
     subst hlo
     have hr:rows.take rows.length ++ List.replicate (rows.length - rows.length) z = rows:=by simp
     rw [hr]
     refine ⟨_,w,κ,Fz,.tuple #[],?_,.inl rfl,Good.set h fQ (aiq _) (fun _ _ _=>rfl) ⟨rfl,rfl⟩ (h.obj fQ) ⟨_,rfl,trivial⟩⟩
     rw [Xu,Nat.sub_self,Sem.run_bind,xA hu]
     rfl
   ·cases h2
  ·cases h2
 ·cases h2
theorem dZ.of {b:Nat}:∀ {r:List FV} {vs:List Value} {o:Nat},bW Fz w r vs → (∀ j v,vs[j]? = some v → w.cell? ⟨b,o + j,none⟩ = some v) → dZ Fz w b o r
 | [],_,_,_,_=>trivial
 | x :: r,[],_,h,_=>h.elim
 | x :: r,v :: vs,o,h,hc=>by
  simp only [dZ]
  refine ⟨⟨v,by have:=hc 0 v rfl;rwa [Nat.add_zero] at this,h.1⟩,dZ.of h.2 (fun j u hj=>?_)⟩
  have:=hc (j + 1) u (by simpa using hj)
  rwa [show o + (j + 1) = o + 1 + j from by omega] at this
section
variable {g : PL → PL} (hg:∀ x v,eB Fz κ w x v → eB bA κ w (g x) v)
include hg
theorem aN.map : ∀ {xs:List PL} {vs:List Value},aN Fz κ w xs vs → aN bA κ w (xs.map g) vs
 | [],[],_=>trivial
 | x :: xs,v :: vs,h=>⟨hg _ _ h.1,aN.map h.2⟩
 | [],_ :: _,h=>h.elim
 | _ :: _,[],h=>h.elim
theorem fP.map {x:CV} {v:Value} (h:fP Fz κ w x v):fP bA κ w (KO g x) v:=by
 cases x with
 | one x=>exact hg _ _ h
 | agg xs=>obtain ⟨cs,rfl,h⟩:=h;exact ⟨cs,rfl,aN.map hg h⟩
theorem dL.map : ∀ {xs:List CV} {vs:List Value},dL Fz κ w xs vs → dL bA κ w (xs.map (KO g)) vs
 | [],[],_=>trivial
 | x :: xs,v :: vs,h=>⟨fP.map hg h.1,dL.map h.2⟩
 | [],_ :: _,h=>h.elim
 | _ :: _,[],h=>h.elim
theorem iC.map {x:PV} {v:Value} (h:iC Fz κ w x v):iC bA κ w (Uw g x) v:=by
 cases x with
 | c x=>exact fP.map hg h
 | uy xs=>obtain ⟨cs,rfl,h⟩:=h;exact ⟨cs,rfl,dL.map hg h⟩
theorem iF.map {B k:Nat} (hf:∀ b,Fz b → bA b) {x:Ob} (h:iF B Fz κ w k x):iF B bA κ w k (Ux g x):=by
 cases x with
 | eH xs=>obtain ⟨b,cs,e,h1,h2,h3⟩:=h;exact ⟨b,cs,e,h1,h2,aN.map hg h3⟩
 | row sz rows=>exact iF.mono (o:=.row sz rows) hf (fun _ _=>rfl) (fun _ _=>rfl) (fun _ _=>rfl) h
 | map sh ents=>exact iF.mono (o:=.map sh ents) hf (fun _ _=>rfl) (fun _ _=>rfl) (fun _ _=>rfl) h
end
theorem UO (h:Rel aY w0 aX N Fz κ σ a w) {key:Nat} {cs:List FV} {v:Value} (hv:eB Fz κ w (.ptr key 0) v) (hs:Xp σ key = some (cs,σ')) :
  ∃ bA,Rel aY w0 aX N bA κ σ' a w ∧ (∀ b,Fz b → bA b) ∧ ∃ b o,v = .pointer (some ⟨b,o,none⟩) ∧ bA b ∧ dZ bA w b o cs:=by
 unfold Xp at hs
 split at hs
 ·rename_i xs fQ
  obtain ⟨p,h1,h2⟩:=zbm hs
  split at h2
  ·rename_i ob1 ad5
   cases h2
   obtain ⟨b,vals,e,o1,o2,o3⟩:=h.obj fQ
   obtain ⟨F1,r1,r2,r3⟩:=h.ku o3 h1
   have hkm:=get_mem ad5
   have hbk:blk (κ key) = some b:=by rw [o1];rfl
   have hf:∀ x,F1 x → F1 x ∨ x = b:=fun x h=>.inl h
   have hrow:dZ (fun x=>F1 x ∨ x = b) w b 0 p.1:=by
    have h0:dZ F1 w b 0 p.1:=dZ.of r3 (fun j u hj=>by
     rw [aiP]
     simp only [World.cell?,o2]
     simpa using hj)
    revert h0
    generalize p.1 = r
    generalize (0:Nat) = o
    induction r generalizing o with
    | nil=>intro _;trivial
    | cons x r ih =>
     intro h0
     simp only [dZ] at h0 ⊢
     obtain ⟨⟨u,e1,e2⟩,e3⟩:=h0
     exact ⟨⟨u,e1,fu.mono hf (fun _ _=>rfl) x u e2⟩,ih _ e3⟩
   have hL:∀ x u,eB F1 κ w x u → eB (fun x=>F1 x ∨ x = b) κ w (KN key p.1 x) u:=by
    intro x u hx
    have hm:eB (fun x=>F1 x ∨ x = b) κ w x u:=eB.mono hf (fun _ _=>rfl) (fun _ _=>rfl) hx
    cases x with
    | ptr k o =>
     simp only [KN]
     split
     ·rename_i hk
      subst hk
      obtain ⟨b',g1,g2⟩:=hx
      rw [o1] at g1
      cases g1
      refine ⟨b,o,g2,.inr rfl,?_⟩
      have:=hrow.drop o
      rwa [aiP] at this
     ·exact hm
    | _=>exact hm
   refine ⟨fun x=>F1 x ∨ x = b,⟨fun r hr=>?_,h.sz,h.lV,h.fs,fun r hr=>?_,fun r hr s hs b' hne hb1 hb2=>?_,fun r hr b' hb1=>?_,fun b' hb=>?_,fun b' hb=>.inl (r1.zh b' hb),h.big,h.ext,h.kp⟩,fun x hx=>.inl (r2 x hx),b,0,?_,.inr rfl,hrow⟩
   ·obtain ⟨s,hs,rfl⟩:=aiM.mp hr
    exact iC.map hL (r1.tm s hs)
   ·obtain ⟨s,hs,rfl⟩:=aiM.mp hr
    exact iF.map hL hf (r1.ob s (eP.mp hs).1)
   ·obtain ⟨r',hr',rfl⟩:=aiM.mp hr
    obtain ⟨s',hs',rfl⟩:=aiM.mp hs
    exact r1.uE r' (eP.mp hr').1 s' (eP.mp hs').1 b' hne hb1 hb2
   ·obtain ⟨r',hr',rfl⟩:=aiM.mp hr
    obtain ⟨m1,m2⟩:=eP.mp hr'
    have:=r1.pos r' m1 b' hb1
    refine ⟨fun hor=>?_,this.2⟩
    rcases hor with h3 | rfl
    ·exact this.1 h3
    ·exact r1.uE r' m1 _ hkm b' m2 hb1 hbk
   ·rcases hb with hb | rfl
    ·exact r1.fz b' hb
    ·have:=r1.pos _ hkm b' hbk
     exact ⟨this.2.1,.inr this.2.2⟩
   ·obtain ⟨b',g1,g2⟩:=hv
    rw [o1] at g1
    cases g1
    exact g2
  ·cases h2
 ·cases hs
theorem BL : ∀ {l:List CV} {vs:List Value} {caps:List (List FV)} {Fz:Nat → Prop} {σ σ':St},Rel aY w0 aX N Fz κ σ a w → dL Fz κ w l vs → lN q σ l = some (caps,σ') → ∃ bA,Rel aY w0 aX N bA κ σ' a w ∧ (∀ b,Fz b → bA b) ∧ nC bA w caps vs
 | [],[],caps,Fz,σ,σ',h,_,hs=>by simp only [lN] at hs;cases hs;exact ⟨Fz,h,fun _ h=>h,trivial⟩
 | [],_ :: _,_,_,_,_,_,hx,_=>hx.elim
 | _ :: _,[],_,_,_,_,_,hx,_=>hx.elim
 | x :: l,v :: vs,caps,Fz,σ,σ',h,hx,hs=>by
  unfold lN at hs
  split at hs
  ·rename_i heq;cases heq
  ·rename_i cs l' heq
   cases heq
   obtain ⟨r,h1,h2⟩:=zmm hs
   cases h2
   obtain ⟨F1,e1,e2,e3⟩:=BL h hx.2 h1
   obtain ⟨b,o,g1,g2,g3⟩:=hx.1
   exact ⟨F1,e1,e2,⟨b,o,g1,e2 b g2,dZ.mono e2 (fun _ _=>rfl) _ _ _ g2 g3⟩,e3⟩
  ·rename_i key l' heq
   cases heq
   split at hs
   ·cases hs
   ·obtain ⟨p,h1,h2⟩:=zbm hs
    obtain ⟨r,h3,h4⟩:=zmm h2
    cases h4
    obtain ⟨F1,e1,e2,e3⟩:=UO h hx.1 h1
    obtain ⟨F2,g1,g2,g3⟩:=BL e1 (dL.mono e2 (fun _ _=>rfl) _ (fun _ _=>rfl) _ hx.2) h3
    obtain ⟨b,o,k1,k2,k3⟩:=e3
    exact ⟨F2,g1,fun b hb=>g2 b (e2 b hb),⟨b,o,k1,g2 b k2,dZ.mono g2 (fun _ _=>rfl) _ _ _ k2 k3⟩,g3⟩
  ·cases hs
theorem zZ (h:Rel aY w0 aX N Fz κ σ a w):∀ {xs:List Operand} {ys:List dH} {l:List CV},Bw xs = some ys → ji σ ys = some l → dL Fz κ w l (xs.map a.eval)
 | [],ys,l,hx,hv=>by cases hx;cases hv;trivial
 | x :: xs,ys,l,hx,hv=>by
  obtain ⟨y,h1,h2⟩:=zbm hx
  obtain ⟨m,h3,rfl⟩:=zmm h2
  obtain ⟨v,h4,h5⟩:=zbm hv
  obtain ⟨n,h6,rfl⟩:=zmm h5
  exact ⟨h.eval h1 h4,zZ h h3 h6⟩
theorem YO (h:Rel aY w0 aX N Fz κ σ a w) {f:FuncId} {first caps:Array Operand} {l:List dH} (h0:first.size = 0) (hc:Bw caps.toList = some l) (hE:bV Γ q σ d (.OZ f l) = some (pv,σ')) :
  Does P aY w0 aX N q d Fz κ σ a w (do let v ← Instr.makeFunc (.func f) (first.map a.eval) (caps.map a.eval);Pure.pure (.value v)) σ' pv:=by
 obtain ⟨m,h1,h2⟩:=zbm hE
 obtain ⟨p,h3,h4⟩:=zmm h2
 cases h4
 obtain ⟨F1,e1,e2,e3⟩:=BL h (zZ h hc h1) h3
 have hf:first = #[]:=Array.eq_empty_of_size_eq_zero h0
 subst hf
 refine ⟨.value (.func (.func f) #[] (caps.map a.eval)),w,κ,F1,.func (.func f) #[] (caps.map a.eval),by simp [Instr.makeFunc],.inl rfl,e1,⟨_,?_,e3⟩,e2,fun _ _=>rfl⟩
 rw [← ajz,Array.toArray_toList]
end
end
section
open Go
section
variable {P : Program} {Γ:Env} {aY Fz bA:Nat → Prop} {w0 w w':World} {aX:List Nat} {N:Fr} {d:Nat} {q:Bool} {κ eU:Nat → Value} {σ σ1 σ':St} {a:Act} {pv:PV} {o:Oper}
theorem La {ks:List SK} {k:KV} (h:k.ks = .agg ks):∃ cs,nJ k = .agg cs:=by
 cases k with
 | one x=>cases h
 | agg xs=>exact ⟨_,rfl⟩
theorem Lb (h:Rel aY w0 aX N Fz κ σ a w) {op:BinOp} {t e:TypeId} {neg:Bool} {x y:Operand} {x' y':dH} (hu:P.underlying t = some (.pointer e)) (hop:(op = .eql ∧ neg = false) ∨ (op = .neq ∧ neg = true)) (hx:fA x = some x') (hy:fA y = some y') (hn:KU y' = true) (hE:bV Γ q σ d (.wL neg x') = some (pv,σ')) :
  Does P aY w0 aX N q d Fz κ σ a w (do let v ← (do eqGuard op t x y (a.eval x) (a.eval y);binOp op t (a.eval x) (a.eval y):Sem Value);Pure.pure (.value v)) σ' pv:=by
 have hyv:a.eval y = .pointer none:=by
  unfold KU at hn
  split at hn
  ·exact h.eval (v:=.one .iI) hy rfl
  ·cases hn
 have hpt:P.underlying t = some (.pointer (P.pointee t)):=by unfold Program.pointee;rw [hu]
 obtain ⟨v,h1,h2⟩:=zbm hE
 have hv:=h.eval hx h1
 have hg:∀ p:Option Addr,(eqGuard op t x y (.pointer p) (.pointer none)).run P w = .ok () w:=by
  intro p
  unfold eqGuard
  rcases hop with ⟨rfl,_⟩ | ⟨rfl,_⟩ <;> rfl
 have run:∀ p:Option Addr,a.eval x = .pointer p → pv = .c (.one (.f (.bool (if neg then !p.isNone else p.isNone)))) → σ' = σ → Does P aY w0 aX N q d Fz κ σ a w (do let v ← (do eqGuard op t x y (a.eval x) (a.eval y);binOp op t (a.eval x) (a.eval y):Sem Value);Pure.pure (.value v)) σ' pv:=by
  intro p hp hpv hs
  subst hpv
  subst hs
  refine Does.pure h (v:=.bool (if neg then !p.isNone else p.isNone)) ?_ rfl
  rw [hp,hyv]
  simp only [Sem.run_bind,hg,Result.andThen_ok]
  rcases hop with ⟨rfl,rfl⟩ | ⟨rfl,rfl⟩
  ·exact run_eql_pointer_nil w t p hpt
  ·exact run_neq_pointer_nil w t p hpt
 split at h2
 ·cases h2;exact run none hv (by cases neg <;> rfl) rfl
 ·cases h2;obtain ⟨b,_,hb⟩:=hv;exact run _ hb (by cases neg <;> rfl) rfl
 ·cases h2;obtain ⟨b,o,hb,_⟩:=hv;exact run _ hb (by cases neg <;> rfl) rfl
 ·cases h2;obtain ⟨b,_,_,_,hb⟩:=hv;exact run _ hb (by cases neg <;> rfl) rfl
 ·cases h2
theorem Lc {X:Hx} (heq:∀ t ∈ X.eqs,lg P t) (h:Rel aY w0 aX N Fz κ σ a w) {i:I} (hc:jF P X o = some i) (hi:KX i = false) (hE:bV Γ q σ d i = some (pv,σ')):Does P aY w0 aX N q d Fz κ σ a w (execOp a.eval o) σ' pv:=by
 have mem:∀ {t:TypeId},X.eqs.contains t = true → lg P t:=fun ht=>heq _ (by simpa using ht)
 unfold jF at hc
 split at hc
 ·
  rename_i x ho
  obtain ⟨x',h1,rfl⟩:=zmm hc
  unfold execOp;simp only [ho]
  exact Yv h h1 hE
 ·rename_i x ho
  obtain ⟨x',h1,rfl⟩:=zmm hc
  unfold execOp;simp only [ho]
  exact Yv h h1 hE
 ·rename_i c x y ho
  obtain ⟨c',h1,hc⟩:=zbm hc
  obtain ⟨x',h2,hc⟩:=zbm hc
  obtain ⟨y',h3,rfl⟩:=zmm hc
  unfold execOp;simp only [ho]
  exact UC h h1 h2 h3 hE
 ·rename_i e ho
  obtain ⟨z,h1,rfl⟩:=zmm hc
  unfold execOp;simp only [ho]
  exact Pj h h1 hE
 ·rename_i e x ho
  obtain ⟨x',h1,rfl⟩:=zmm hc
  unfold execOp;simp only [ho]
  exact YF h h1 hE
 ·rename_i t ps ho
  split at hc
  ·rename_i fs hu
   split at hc
   ·rename_i hall
    obtain ⟨z,h1,hc⟩:=zbm hc
    obtain ⟨l,h2,rfl⟩:=zmm hc
    unfold execOp;simp only [ho]
    exact Pk h hu hall h1 h2 hE
   ·cases hc
  ·rename_i n e hu
   obtain ⟨sz,h0,hc⟩:=zbm hc
   obtain ⟨z,h1,hc⟩:=zbm hc
   obtain ⟨l,h2,rfl⟩:=zmm hc
   unfold execOp;simp only [ho]
   exact K3 h hu h0 h1 h2 hE
  ·cases hc
 ·rename_i t len ps ho
  obtain ⟨e,h1,hc⟩:=zbm hc
  obtain ⟨sz,h2,hc⟩:=zbm hc
  split at hc
  ·cases hc
  ·rename_i hs
   obtain ⟨z,h3,hc⟩:=zbm hc
   split at hc
   ·rename_i hz
    obtain ⟨l,h4,e4⟩:=zmm hc
    unfold execOp;simp only [ho]
    split at e4
    ·subst e4;exact YG h (uH h1) h2 hs h3 hz h4 hE
    ·subst e4;exact SA h (uH h1) h2 hs h3 hz h4 hE
   ·cases hc
 ·rename_i t x ho
  obtain ⟨g,h1,hc⟩:=zbm hc
  obtain ⟨n,h2,hc⟩:=zbm hc
  obtain ⟨x',h3,rfl⟩:=zmm hc
  unfold execOp;simp only [ho]
  exact UD h h1 h2 h3 hE
 ·rename_i t x y ho
  obtain ⟨n,h1,hc⟩:=zbm hc
  obtain ⟨x',h2,hc⟩:=zbm hc
  obtain ⟨y',h3,rfl⟩:=zmm hc
  unfold execOp;simp only [ho]
  exact Po h h1 h2 h3 hE
 ·rename_i x ho
  obtain ⟨x',h1,rfl⟩:=zmm hc
  exact UE h h1 hE ho
 ·rename_i op t x y u ho
  obtain ⟨x',h1,hc⟩:=zbm hc
  obtain ⟨y',h2,hc⟩:=zbm hc
  unfold execOp;simp only [ho]
  split at hc
  ·split at hc
   ·rename_i hop;cases hc;subst hop;exact Yy h h1 h2 hE
   ·split at hc
    ·rename_i hop;cases hc;subst hop;exact vB h zV.1 h1 h2 hE
    ·split at hc
     ·rename_i hop;cases hc;subst hop;exact vB h zV.2 h1 h2 hE
     ·cases hc
  ·split at hc
   ·rename_i hop;cases hc;exact adZ h hop h1 h2 hE
   ·split at hc
    ·rename_i hop;cases hc;exact YL h hop h1 h2 hE
    ·split at hc
     ·rename_i hop;cases hc;exact SB h (.inl ⟨hop,rfl⟩) h1 h2 hE
     ·split at hc
      ·rename_i hop;cases hc;exact SB h (.inr ⟨hop,rfl⟩) h1 h2 hE
      ·obtain ⟨c,h3,rfl⟩:=zmm hc
       exact Yx h h3 h1 h2 hE
  ·rename_i hu
   split at hc
   ·rename_i hop;cases hc;subst hop;exact vB h (xk hu).1 h1 h2 hE
   ·split at hc
    ·rename_i hop;cases hc;subst hop;exact vB h (xk hu).2 h1 h2 hE
    ·cases hc
  ·rename_i e hu
   split at hc
   ·rename_i hn
    split at hc
    ·rename_i hop;cases hc;exact Lb h hu (.inl ⟨hop,rfl⟩) h1 h2 hn hE
    ·split at hc
     ·rename_i hop;cases hc;exact Lb h hu (.inr ⟨hop,rfl⟩) h1 h2 hn hE
     ·cases hc
   ·cases hc
  ·rename_i e hu
   split at hc
   ·rename_i hn
    split at hc
    ·rename_i hop;cases hc;exact K8 h hu (.inl ⟨hop,rfl⟩) h1 h2 hn hE
    ·split at hc
     ·rename_i hop;cases hc;exact K8 h hu (.inr ⟨hop,rfl⟩) h1 h2 hn hE
     ·cases hc
   ·cases hc
  ·rename_i fs hu
   split at hc
   ·rename_i he
    obtain ⟨sh,h3,hc⟩:=zbm hc
    have hsh:∃ ks,sh = .agg ks:=by
     unfold wY at h3
     rw [hu] at h3
     obtain ⟨ks,_,rfl⟩:=zmm h3
     exact ⟨ks,rfl⟩
    obtain ⟨ks,rfl⟩:=hsh
    have hr:=Dq (x:=x) (y:=y) (mem he) h3 (fun _ hk=>La hk)
    split at hc
    ·rename_i hop;cases hc;subst hop;exact vB h hr.1 h1 h2 hE
    ·split at hc
     ·rename_i hop;cases hc;subst hop;exact vB h hr.2 h1 h2 hE
     ·cases hc
   ·cases hc
  ·rename_i n e hu
   split at hc
   ·rename_i he
    obtain ⟨sh,h3,hc⟩:=zbm hc
    have hsh:∃ ks,sh = .agg ks:=by
     unfold wY at h3
     rw [hu] at h3
     obtain ⟨ks,_,rfl⟩:=zmm h3
     exact ⟨_,rfl⟩
    obtain ⟨ks,rfl⟩:=hsh
    have hr:=Dq (x:=x) (y:=y) (mem he) h3 (fun _ hk=>La hk)
    split at hc
    ·rename_i hop;cases hc;subst hop;exact vB h hr.1 h1 h2 hE
    ·split at hc
     ·rename_i hop;cases hc;subst hop;exact vB h hr.2 h1 h2 hE
     ·cases hc
   ·cases hc
  ·cases hc
 ·rename_i t x ho
  obtain ⟨x',h1,rfl⟩:=zmm hc
  unfold execOp;simp only [ho]
  exact adX h h1 hE
 ·rename_i src dst x ho
  unfold execOp;simp only [ho]
  split at hc
  ·rename_i hs hd
   obtain ⟨x',h1,rfl⟩:=zmm hc
   exact adY h hs hd h1 hE
  ·rename_i hs hd
   obtain ⟨x',h1,rfl⟩:=zmm hc
   exact Yw h hs hd h1 hE
  ·rename_i e hs hd
   split at hc
   ·rename_i he hz
    obtain ⟨x',h1,rfl⟩:=zmm hc
    exact YM h hs he hd h1 hE
   ·cases hc
  ·cases hc
 ·rename_i t ho
  obtain ⟨m,h1,hc⟩:=zbm hc
  obtain ⟨sh,h2,rfl⟩:=zmm hc
  unfold execOp;simp only [ho,Option.map_none]
  exact Pp h hE
 ·rename_i t x lo hi0 ho
  unfold execOp;simp only [ho,Option.map_none]
  split at hc
  ·rename_i hu
   obtain ⟨x',h1,hc⟩:=zbm hc
   obtain ⟨lo',h2,hc⟩:=zbm hc
   obtain ⟨hi',h3,rfl⟩:=zmm hc
   exact UJ h hu h1 h2 h3 hE
  ·rename_i e hu
   obtain ⟨sz,h0,hc⟩:=zbm hc
   obtain ⟨x',h1,hc⟩:=zbm hc
   obtain ⟨lo',h2,hc⟩:=zbm hc
   obtain ⟨hi',h3,hc⟩:=zbm hc
   split at hc
   ·split at hc
    ·rename_i hi1
     cases hc
     cases lo with
     | some l=>obtain ⟨_,_,h⟩:=zmm h2;cases h
     | none =>
      cases hi0 with
      | none=>cases h3
      | some hv =>
       obtain ⟨y',h4,h5⟩:=zmm h3
       cases h5
       simp only [Option.map_none,Option.map_some]
       exact UM h hu h0 h1 h4 hE
    ·cases hc
   ·split at hc
    ·split at hc
     ·rename_i lo1
      cases hc
      cases hi0 with
      | some l=>obtain ⟨_,_,h⟩:=zmm h3;cases h
      | none =>
       cases lo with
       | none=>cases h2
       | some hv =>
        obtain ⟨y',h4,h5⟩:=zmm h2
        cases h5
        simp only [Option.map_none,Option.map_some]
        exact UN h hu h0 h1 h4 hE
     ·cases hc
    ·cases hc
     exact YH h hu h0 h1 h2 h3 hE
  ·cases hc
 ·rename_i t x f ho
  obtain ⟨fd,h1,hc⟩:=zbm hc
  obtain ⟨n,h2,hc⟩:=zbm hc
  split at hc
  ·cases hc
  ·rename_i h0
   obtain ⟨x',h3,rfl⟩:=zmm hc
   unfold execOp;simp only [ho]
   exact ad3 h h1 h2 h0 h3 hE
 ·rename_i t x f ho
  obtain ⟨fd,h1,hc⟩:=zbm hc
  obtain ⟨n,h2,hc⟩:=zbm hc
  obtain ⟨g,h3,hc⟩:=zbm hc
  obtain ⟨x',h4,rfl⟩:=zmm hc
  unfold execOp;simp only [ho]
  exact YC h h1 h2 h3 h4 hE
 ·rename_i t x y ho
  split at hc
  ·rename_i off ha
   obtain ⟨x',h1,rfl⟩:=zmm hc
   unfold execOp;simp only [ho]
   exact YB h ha h1 hE
  obtain ⟨e,h1,hc⟩:=zbm hc
  obtain ⟨sz,h2,hc⟩:=zbm hc
  obtain ⟨x',h3,hc⟩:=zbm hc
  obtain ⟨y',h4,rfl⟩:=zmm hc
  unfold execOp;simp only [ho]
  exact ad4 h h1 h2 h3 h4 hE
 ·rename_i t x y ho
  unfold execOp;simp only [ho]
  split at hc
  ·rename_i hu
   obtain ⟨x',h1,hc⟩:=zbm hc
   obtain ⟨y',h2,rfl⟩:=zmm hc
   exact YA h hu h1 h2 hE
  ·rename_i n e hu
   obtain ⟨sz,h1,hc⟩:=zbm hc
   obtain ⟨g,h2,hc⟩:=zbm hc
   split at hc
   ·cases hc
   ·rename_i hg
    obtain ⟨x',h3,hc⟩:=zbm hc
    obtain ⟨y',h4,rfl⟩:=zmm hc
    exact YD h hu h1 h2 (fun e=>by rw [not_and] at hg;exact ai3.mp (hg e)) h3 h4 hE
  ·cases hc
 ·rename_i t x k ok ho
  obtain ⟨m,h1,hc⟩:=zbm hc
  split at hc
  ·rename_i he
   obtain ⟨sh,h2,hc⟩:=zbm hc
   obtain ⟨z,h3,hc⟩:=zbm hc
   obtain ⟨x',h4,hc⟩:=zbm hc
   obtain ⟨k',h5,rfl⟩:=zmm hc
   unfold execOp;simp only [ho]
   exact UK h h1 (mem he) h2 h3 h4 h5 hE
  ·cases hc
 ·rename_i t m k x ho
  obtain ⟨mm,h1,hc⟩:=zbm hc
  split at hc
  ·rename_i he
   obtain ⟨sh,h2,hc⟩:=zbm hc
   obtain ⟨m',h3,hc⟩:=zbm hc
   obtain ⟨k',h4,hc⟩:=zbm hc
   obtain ⟨x',h5,rfl⟩:=zmm hc
   unfold execOp;simp only [ho]
   exact K7 h h1 (mem he) h2 h3 h4 h5 hE
  ·cases hc
 ·rename_i t m k x ho
  obtain ⟨mm,h1,hc⟩:=zbm hc
  split at hc
  ·rename_i he
   obtain ⟨sh,h2,hc⟩:=zbm hc
   obtain ⟨m',h3,hc⟩:=zbm hc
   obtain ⟨k',h4,hc⟩:=zbm hc
   obtain ⟨x',h5,rfl⟩:=zmm hc
   unfold execOp;simp only [ho]
   exact K7 h h1 (mem he) h2 h3 h4 h5 hE
  ·cases hc
 ·rename_i x i ho
  obtain ⟨x',h1,rfl⟩:=zmm hc
  unfold execOp;simp only [ho]
  exact Yz h h1 hE
 ·rename_i f first caps ho
  split at hc
  ·rename_i h0
   obtain ⟨l,h1,rfl⟩:=zmm hc
   unfold execOp;simp only [ho]
   exact YO h h0 h1 hE
  ·cases hc
 ·
  rename_i c ho
  have hargs:∀ {xs:Array Operand} {l:List Operand},xs.toList = l → xs.map a.eval = (l.map a.eval).toArray:=fun h=>by rw [← h,← ajz,Array.toArray_toList]
  split at hc
  ·split at hc
   ·obtain ⟨l,h1,rfl⟩:=zmm hc;cases hi
   ·cases hc
  ·rename_i nY
   split at hc
   ·rename_i x t h1 h2
    have e1:c.args.map a.eval = #[a.eval x]:=by rw [hargs h1];rfl
    have e2:c.argTypes[0]? = some t:=by rw [← ajy,h2];rfl
    unfold execOp resolve;simp only [ho,nY,Sem.run_bind,Sem.run_pure,Result.andThen_ok,e1]
    split at hc
    ·rename_i hu
     obtain ⟨x',h3,rfl⟩:=zmm hc
     exact UF (u:=o.type) h e2 hu h3 hE
    ·rename_i e hu
     obtain ⟨x',h3,rfl⟩:=zmm hc
     exact UG (u:=o.type) h e2 hu h3 hE
    ·rename_i k e hu
     obtain ⟨x',h3,rfl⟩:=zmm hc
     exact UH (u:=o.type) h e2 hu h3 hE
    ·cases hc
   ·cases hc
  ·rename_i nY
   split at hc
   ·rename_i x y t u h1 h2
    have e1:c.args.map a.eval = #[a.eval x,a.eval y]:=by rw [hargs h1];rfl
    split at hc
    ·rename_i htu
     subst htu
     have e2:c.argTypes = #[t,t]:=by rw [← Array.toArray_toList (xs:=c.argTypes),h2]
     obtain ⟨e,h3,hc⟩:=zbm hc
     obtain ⟨sz,h4,hc⟩:=zbm hc
     obtain ⟨Fh,h5,hc⟩:=zbm hc
     obtain ⟨z,h6,hc⟩:=zbm hc
     split at hc
     ·rename_i hz
      obtain ⟨x',h7,hc⟩:=zbm hc
      obtain ⟨y',h8,rfl⟩:=zmm hc
      unfold execOp resolve;simp only [ho,nY,Sem.run_bind,Sem.run_pure,Result.andThen_ok,e1,e2]
      exact YK (ty:=o.type) h (uH h3) h4 h5 h6 hz.1 hz.2.1 hz.2.2 h7 h8 hE
     ·cases hc
    ·cases hc
   ·cases hc
  ·rename_i nY
   split at hc
   ·rename_i x y h1
    have e1:c.args.map a.eval = #[a.eval x,a.eval y]:=by rw [hargs h1];rfl
    obtain ⟨x',h7,hc⟩:=zbm hc
    obtain ⟨y',h8,rfl⟩:=zmm hc
    unfold execOp resolve;simp only [ho,nY,Sem.run_bind,Sem.run_pure,Result.andThen_ok,e1]
    exact ad1 (u:=o.type) h h7 h8 hE
   ·cases hc
  ·rename_i nY
   split at hc
   ·rename_i x y h1
    have e1:c.args.map a.eval = #[a.eval x,a.eval y]:=by rw [hargs h1];rfl
    obtain ⟨x',h7,hc⟩:=zbm hc
    obtain ⟨y',h8,rfl⟩:=zmm hc
    unfold execOp resolve;simp only [ho,nY,Sem.run_bind,Sem.run_pure,Result.andThen_ok,e1]
    exact ad2 (u:=o.type) h h7 h8 hE
   ·cases hc
  ·rename_i nY
   split at hc
   ·rename_i x y t k h1 h2
    have e1:c.args.map a.eval = #[a.eval x,a.eval y]:=by rw [hargs h1];rfl
    have e2:c.argTypes = #[t,k]:=by rw [← Array.toArray_toList (xs:=c.argTypes),h2]
    obtain ⟨m,h3,hc⟩:=zbm hc
    split at hc
    ·rename_i he
     obtain ⟨sh,h4,hc⟩:=zbm hc
     obtain ⟨x',h7,hc⟩:=zbm hc
     obtain ⟨y',h8,rfl⟩:=zmm hc
     unfold execOp resolve;simp only [ho,nY,Sem.run_bind,Sem.run_pure,Result.andThen_ok,e1,e2,he.2]
     exact YJ (ty:=o.type) h h3 (mem he.1) h4 h7 h8 hE
    ·cases hc
   ·cases hc
  ·rename_i nY
   split at hc
   ·rename_i x t h1 h2
    have e1:c.args.map a.eval = #[a.eval x]:=by rw [hargs h1];rfl
    have e2:c.argTypes = #[t]:=by rw [← Array.toArray_toList (xs:=c.argTypes),h2]
    obtain ⟨e,h3,hc⟩:=zbm hc
    obtain ⟨sz,h4,hc⟩:=zbm hc
    obtain ⟨zp,h5,hc⟩:=zbm hc
    obtain ⟨z,h6,hc⟩:=zbm hc
    split at hc
    ·obtain ⟨x',h7,rfl⟩:=zmm hc
     unfold execOp resolve;simp only [ho,nY,Sem.run_bind,Sem.run_pure,Result.andThen_ok,e1,e2]
     exact YN (ty:=o.type) h (uH h3) h5 h6 h7 hE
    ·cases hc
   ·cases hc
  ·cases hc
 ·cases hc
end
end
section
open Go
def oK (v:Value):List Nat:=match blk v with
 | some b=>[b]
 | none=>[]
def jg (Fz:Nat → Prop) (w:World) (sz:Nat) (rows:List (List FV)) (v:Value) (bs:List Nat):Prop :=
 0 < sz ∧ ∃ e inner A c,v = .slice A rows.length c ∧ w.ownsRow 0 e sz v rows.length inner ∧ eD Fz w sz rows inner ∧ bs = oK v
def Dx (Fz:Nat → Prop) (w:World):CL → Value → List Nat → Prop
 | .f x,v,bs=>fu Fz w x v ∧ bs = []
 | .iI,v,bs=>v = .pointer none ∧ bs = []
 | .fq,v,bs=>v = .map none ∧ bs = []
 | .mp sh ents,v,bs=>∃ b,v = .map (some b) ∧ zu Fz w sh ents b ∧ bs = [b]
 | .own sz rows,v,bs=>jg Fz w sz rows v bs
def oZ (Fz:Nat → Prop) (w:World):List CL → List Value → List Nat → Prop
 | [],[],bs=>bs = []
 | x :: xs,v :: vs,bs=>∃ b1 b2,Dx Fz w x v b1 ∧ oZ Fz w xs vs b2 ∧ bs = b1 ++ b2
 | _,_,_=>False
def mR (Fz:Nat → Prop) (w:World):TV → Value → List Nat → Prop
 | .f x,v,bs=>fu Fz w x v ∧ bs = []
 | .iI,v,bs=>v = .pointer none ∧ bs = []
 | .fq,v,bs=>v = .map none ∧ bs = []
 | .ptr cs,v,bs=>∃ b vals e ms,v = .pointer (some ⟨b,0,none⟩) ∧ w.heap[b]? = some (.cells vals e (0,0)) ∧ oZ Fz w cs vals.toList ms ∧ bs = b :: ms
 | .mp sh ents,v,bs=>∃ b,v = .map (some b) ∧ zu Fz w sh ents b ∧ bs = [b]
 | .own sz rows,v,bs=>jg Fz w sz rows v bs
 | .fp cs,v,bs=>eB Fz (fun _=>undef) w (.fp cs) v ∧ bs = []
 | .fn f cs,v,bs=>eB Fz (fun _=>undef) w (.fn f cs) v ∧ bs = []
 | .any,_,bs=>bs = []
def kI (Fz:Nat → Prop) (w:World):List TV → List Value → List Nat → Prop
 | [],[],bs=>bs = []
 | x :: xs,v :: vs,bs=>∃ b1 b2,mR Fz w x v b1 ∧ kI Fz w xs vs b2 ∧ bs = b1 ++ b2
 | _,_,_=>False
def oL (Fz:Nat → Prop) (w:World):AV → Value → List Nat → Prop
 | .one x,v,bs=>mR Fz w x v bs
 | .agg xs,v,bs=>∃ cs,v = .agg cs ∧ kI Fz w xs cs.toList bs
def fB (Fz:Nat → Prop) (w:World):List AV → List Value → List Nat → Prop
 | [],[],bs=>bs = []
 | x :: xs,v :: vs,bs=>∃ b1 b2,oL Fz w x v b1 ∧ fB Fz w xs vs b2 ∧ bs = b1 ++ b2
 | _,_,_=>False
section
variable {Fz bA:Nat → Prop} {w w':World}
theorem zu.mono {sh:KS} {ents:List (KV × FC)} {b:Nat} (hf:∀ b,Fz b → bA b) (hw:∀ b,Fz b → w'.heap[b]? = w.heap[b]?) (hb:w'.heap[b]? = w.heap[b]?) (h:zu Fz w sh ents b):zu bA w' sh ents b:=by
 obtain ⟨l,h1,h2,h3⟩:=h
 exact ⟨l,h1.move hb,iE.mono hf hw _ _ h2,h3⟩
theorem jg.mono (hf:∀ b,Fz b → bA b) (hw:∀ b,Fz b → w'.heap[b]? = w.heap[b]?) {sz:Nat} {rows:List (List FV)} {v:Value} {bs:List Nat} (hb:∀ b ∈ bs,w'.heap[b]? = w.heap[b]?) (h:jg Fz w sz rows v bs):jg bA w' sz rows v bs:=by
 obtain ⟨h0,e,inner,A,c,h1,h2,h3,h4⟩:=h
 refine ⟨h0,e,inner,A,c,h1,zQ h2 (fun k hk=>hb k ?_),eD.mono hf hw _ _ _ h3,h4⟩
 rw [h4,oK,Bu hk]
 simp
theorem Dx.mono (hf:∀ b,Fz b → bA b) (hw:∀ b,Fz b → w'.heap[b]? = w.heap[b]?) {x:CL} {v:Value} {bs:List Nat} (hb:∀ b ∈ bs,w'.heap[b]? = w.heap[b]?) (h:Dx Fz w x v bs):Dx bA w' x v bs:=by
 cases x with
 | f x=>exact ⟨fu.mono hf hw x v h.1,h.2⟩
 | iI=>exact h
 | fq=>exact h
 | mp sh ents=>obtain ⟨b,h1,h2,rfl⟩:=h;exact ⟨b,h1,h2.mono hf hw (hb b (by simp)),rfl⟩
 | own sz rows=>exact jg.mono hf hw hb h
theorem oZ.mono (hf:∀ b,Fz b → bA b) (hw:∀ b,Fz b → w'.heap[b]? = w.heap[b]?):∀ {xs:List CL} {vs:List Value} {bs:List Nat},(∀ b ∈ bs,w'.heap[b]? = w.heap[b]?) → oZ Fz w xs vs bs → oZ bA w' xs vs bs
 | [],[],_,_,h=>h
 | x :: xs,v :: vs,_,hb,⟨b1,b2,h1,h2,e⟩=>⟨b1,b2,h1.mono hf hw (fun b h=>hb b (by rw [e];simp [h])),oZ.mono hf hw (fun b h=>hb b (by rw [e];simp [h])) h2,e⟩
 | [],_ :: _,_,_,h=>h.elim
 | _ :: _,[],_,_,h=>h.elim
theorem mR.mono (hf:∀ b,Fz b → bA b) (hw:∀ b,Fz b → w'.heap[b]? = w.heap[b]?) {x:TV} {v:Value} {bs:List Nat} (hb:∀ b ∈ bs,w'.heap[b]? = w.heap[b]?) (h:mR Fz w x v bs):mR bA w' x v bs:=by
 cases x with
 | f x=>exact ⟨fu.mono hf hw x v h.1,h.2⟩
 | iI=>exact h
 | fq=>exact h
 | ptr cs =>
  obtain ⟨b,vals,e,ms,h1,h2,h3,rfl⟩:=h
  exact ⟨b,vals,e,ms,h1,(hb b (by simp)).trans h2,h3.mono hf hw (fun b h=>hb b (by simp [h])),rfl⟩
 | mp sh ents=>obtain ⟨b,h1,h2,rfl⟩:=h;exact ⟨b,h1,h2.mono hf hw (hb b (by simp)),rfl⟩
 | own sz rows=>exact jg.mono hf hw hb h
 | fp cs=>exact ⟨eB.mono hf hw (fun _ _=>rfl) h.1,h.2⟩
 | fn f cs=>exact ⟨eB.mono hf hw (fun _ _=>rfl) h.1,h.2⟩
 | any=>exact h
theorem kI.mono (hf:∀ b,Fz b → bA b) (hw:∀ b,Fz b → w'.heap[b]? = w.heap[b]?):∀ {xs:List TV} {vs:List Value} {bs:List Nat},(∀ b ∈ bs,w'.heap[b]? = w.heap[b]?) → kI Fz w xs vs bs → kI bA w' xs vs bs
 | [],[],_,_,h=>h
 | x :: xs,v :: vs,_,hb,⟨b1,b2,h1,h2,e⟩=>⟨b1,b2,h1.mono hf hw (fun b h=>hb b (by rw [e];simp [h])),kI.mono hf hw (fun b h=>hb b (by rw [e];simp [h])) h2,e⟩
 | [],_ :: _,_,_,h=>h.elim
 | _ :: _,[],_,_,h=>h.elim
theorem oL.mono (hf:∀ b,Fz b → bA b) (hw:∀ b,Fz b → w'.heap[b]? = w.heap[b]?) {x:AV} {v:Value} {bs:List Nat} (hb:∀ b ∈ bs,w'.heap[b]? = w.heap[b]?) (h:oL Fz w x v bs):oL bA w' x v bs:=by
 cases x with
 | one x=>exact mR.mono hf hw hb h
 | agg xs=>obtain ⟨cs,rfl,h⟩:=h;exact ⟨cs,rfl,h.mono hf hw hb⟩
theorem fB.mono (hf:∀ b,Fz b → bA b) (hw:∀ b,Fz b → w'.heap[b]? = w.heap[b]?):∀ {xs:List AV} {vs:List Value} {bs:List Nat},(∀ b ∈ bs,w'.heap[b]? = w.heap[b]?) → fB Fz w xs vs bs → fB bA w' xs vs bs
 | [],[],_,_,h=>h
 | x :: xs,v :: vs,_,hb,⟨b1,b2,h1,h2,e⟩=>⟨b1,b2,h1.mono hf hw (fun b h=>hb b (by rw [e];simp [h])),fB.mono hf hw (fun b h=>hb b (by rw [e];simp [h])) h2,e⟩
 | [],_ :: _,_,_,h=>h.elim
 | _ :: _,[],_,_,h=>h.elim
end
structure bO (aY:Nat → Prop) (w0:World) (aX:List Nat) (N:Fr) (bs:List Nat) (Fz:Nat → Prop) (κ:Nat → Value) (σ:St) (a:Act) (w:World):Prop where
 rel:Rel aY w0 aX N Fz κ σ a w
 lV:bs.Nodup
 ap:∀ b ∈ bs,¬ Fz b ∧ b < w.heap.size ∧ (b ∈ aX ∨ w0.heap.size ≤ b) ∧ ∀ p ∈ σ.ob,blk (κ p.1) ≠ some b
section
variable {P : Program} {Γ:Env} {aY Fz bA:Nat → Prop} {w0 w w':World} {aX bs YP:List Nat} {N:Fr} {d:Nat} {q:Bool} {κ eU:Nat → Value} {σ σ1 σ':St} {a:Act} {pv:PV} {o:Oper}
theorem Rel.x (h:Rel aY w0 aX N Fz κ σ a w):bO aY w0 aX N [] Fz κ σ a w:=⟨h,ajY,fun b hb=>by simp at hb⟩
theorem bO.take (h:bO aY w0 aX N bs Fz κ σ a w) {key b:Nat} {ob:Ob} (hk:get σ.ob key = some ob) (hb:blk (κ key) = some b):bO aY w0 aX N (b :: bs) Fz κ ⟨σ.tm,rem σ.ob key⟩ a w:=by
 have hkm:=get_mem hk
 have hp:=h.rel.pos _ hkm b hb
 refine ⟨h.rel.less (fun _ h=>h) (fun p hp=>(eP.mp hp).1),List.nodup_cons.mpr ⟨fun hb'=>(h.ap b hb').2.2.2 _ hkm hb,h.lV⟩,fun b' hb'=>?_⟩
 rcases aiD.mp hb' with rfl | hb'
 ·refine ⟨hp.1,hp.2.1,hp.2.2,fun p hp' e=>?_⟩
  obtain ⟨h1,h2⟩:=eP.mp hp'
  exact h.rel.uE p h1 _ hkm b' h2 e hb
 ·have:=h.ap b' hb'
  exact ⟨this.1,this.2.1,this.2.2.1,fun p hp'=>this.2.2.2 p (eP.mp hp').1⟩
theorem bO.G8 (h:bO aY w0 aX N bs Fz κ σ a w) {key sz:Nat} {rows:List (List FV)} (hk:get σ.ob key = some (.row sz rows)):bO aY w0 aX N (oK (κ key) ++ bs) Fz κ ⟨σ.tm,rem σ.ob key⟩ a w ∧ jg Fz w sz rows (κ key) (oK (κ key)):=by
 obtain ⟨o0,e,inner,A,c,o1,o2,o3⟩:=h.rel.obj hk
 refine ⟨?_,o0,e,inner,A,c,o1,o2,o3,rfl⟩
 cases hb:blk (κ key) with
 | some b=>simp only [oK,hb];exact h.take hk hb
 | none =>
  simp only [oK,hb,List.nil_append]
  exact ⟨h.rel.less (fun _ h=>h) (fun p hp=>(eP.mp hp).1),h.lV,fun b' hb'=>by
   have:=h.ap b' hb'
   exact ⟨this.1,this.2.1,this.2.2.1,fun p hp'=>this.2.2.2 p (eP.mp hp').1⟩⟩
theorem bO.perm (h:bO aY w0 aX N bs Fz κ σ a w) (hp:bs.Perm YP):bO aY w0 aX N YP Fz κ σ a w:=⟨h.rel,hp.nodup_iff.mp h.lV,fun b hb=>h.ap b (hp.mem_iff.mpr hb)⟩
theorem bO.zf (h:bO aY w0 aX N bs Fz κ σ a w) {key sz:Nat} {rows:List (List FV)} (hk:get σ.ob key = some (.row sz rows)) (hs:Ev.zf σ key = some σ'):∃ bA,bO aY w0 aX N bs bA κ σ' a w ∧ (∀ b,Fz b → bA b) ∧ (∀ b,blk (κ key) = some b → bA b) ∧ fu bA w (.sl rows) (κ key):=by
 have hs':=hs
 unfold Ev.zf at hs
 rw [hk] at hs
 cases hs
 have hkm:=get_mem hk
 obtain ⟨bA,g1,g2,g3,g4⟩:=h.rel.YE hk
 refine ⟨bA,⟨g1,h.lV,fun b hb=>?_⟩,g2,fun b hb=>(g4 b).mpr (.inr hb),g3⟩
 have:=h.ap b hb
 refine ⟨fun hf=>?_,this.2.1,this.2.2.1,fun p hp=>?_⟩
 ·rcases (g4 b).mp hf with h1 | h1
  ·exact this.1 h1
  ·exact this.2.2.2 _ hkm h1
 ·obtain ⟨r,hr,rfl⟩:=aiM.mp hp
  exact this.2.2.2 r (eP.mp hr).1
theorem bO.vo (h:bO aY w0 aX N bs Fz κ σ a w) {x:PL} {y:FV} {v:Value} (hx:eB Fz κ w x v) (hs:Ev.vo σ x = some (y,σ')):∃ bA,bO aY w0 aX N bs bA κ σ' a w ∧ (∀ b,Fz b → bA b) ∧ fu bA w y v:=by
 cases x with
 | f x=>cases hs;exact ⟨Fz,h,fun _ h=>h,hx⟩
 | bP=>cases hs;exact ⟨Fz,h,fun _ h=>h,by simp only [fu];exact ⟨none,0,hx,aiq _,by simp,.inl trivial⟩⟩
 | own key n =>
  simp only [Ev.vo] at hs
  split at hs
  ·rename_i sz rows hk
   obtain ⟨s,h1,h2⟩:=zmm hs
   cases h2
   obtain ⟨bA,e1,e2,_,e3⟩:=h.zf hk h1
   exact ⟨bA,e1,e2,by rw [hx.1];exact e3⟩
  ·cases hs
 | _=>cases hs
theorem UQ (h:bO aY w0 aX N bs Fz κ σ a w) {x:PL} {y:CL} {v:Value} (hx:eB Fz κ w x v) (hs:Jj σ x = some (y,σ')):∃ bA bx,bO aY w0 aX N (bx ++ bs) bA κ σ' a w ∧ (∀ b,Fz b → bA b) ∧ Dx bA w y v bx:=by
 cases x with
 | f x=>cases hs;exact ⟨Fz,[],h,fun _ h=>h,hx,rfl⟩
 | bP=>cases hs;exact ⟨Fz,[],h,fun _ h=>h,by simp only [fu];exact ⟨none,0,hx,aiq _,by simp,.inl trivial⟩,rfl⟩
 | iI=>cases hs;exact ⟨Fz,[],h,fun _ h=>h,hx,rfl⟩
 | fq=>cases hs;exact ⟨Fz,[],h,fun _ h=>h,hx,rfl⟩
 | own key n =>
  simp only [Jj] at hs
  split at hs
  ·rename_i sz rows fQ
   cases hs
   obtain ⟨g1,g2⟩:=h.G8 fQ
   exact ⟨Fz,_,g1,fun _ h=>h,by rw [hx.1];exact g2⟩
  ·cases hs
 | mp key =>
  simp only [Jj] at hs
  split at hs
  ·rename_i sh ents fQ
   cases hs
   obtain ⟨b,h1,h2⟩:=h.rel.obj fQ
   exact ⟨Fz,[b],h.take fQ (by rw [h1];rfl),fun _ h=>h,b,by rw [hx.1,h1],h2,rfl⟩
  ·cases hs
 | _=>cases hs
theorem BM : ∀ {xs:List PL} {ys:List CL} {vs:List Value} {bs:List Nat} {Fz:Nat → Prop} {σ σ':St},bO aY w0 aX N bs Fz κ σ a w → aN Fz κ w xs vs → zn σ xs = some (ys,σ') → ∃ bA bx,bO aY w0 aX N (bx ++ bs) bA κ σ' a w ∧ (∀ b,Fz b → bA b) ∧ oZ bA w ys vs bx
 | [],ys,[],bs,Fz,σ,σ',h,_,hs=>by cases hs;exact ⟨Fz,[],h,fun _ h=>h,rfl⟩
 | x :: xs,ys,v :: vs,bs,Fz,σ,σ',h,hx,hs=>by
  obtain ⟨p,h1,h2⟩:=zbm hs
  obtain ⟨r,h3,h4⟩:=zmm h2
  cases h4
  obtain ⟨F1,b1,e1,e2,e3⟩:=UQ h hx.1 h1
  obtain ⟨F2,b2,e4,e5,e6⟩:=BM e1 (aN.mono e2 (fun _ _=>rfl) xs (fun _ _=>rfl) vs hx.2) h3
  refine ⟨F2,b1 ++ b2,e4.perm ?_,fun b hb=>e5 b (e2 b hb),b1,b2,e3.mono e5 (fun _ _=>rfl) (fun _ _=>rfl),e6,rfl⟩
  rw [← ajc]
  exact List.perm_append_comm.append_right bs
 | [],_,_ :: _,_,_,_,_,_,h,_=>h.elim
 | _ :: _,_,[],_,_,_,_,_,h,_=>h.elim
def sK (gv:Bool) (κ:Nat → Value) (xs:List PL) (b:Nat):Prop:=gv = false ∧ ∃ key n,PL.own key n ∈ xs ∧ blk (κ key) = some b
theorem Fw {gv:Bool} (h:bO aY w0 aX N bs Fz κ σ a w) {x:PL} {y:TV} {v:Value} (hx:eB Fz κ w x v) (hs:ru gv σ x = some (y,σ')):∃ bA bx,bO aY w0 aX N (bx ++ bs) bA κ σ' a w ∧ (∀ b,Fz b → bA b) ∧ mR (fun b=>bA b ∨ sK gv κ [x] b) w y v bx:=by
 have hor:∀ {F:Nat → Prop} b,F b → F b ∨ sK gv κ [x] b:=fun b h=>.inl h
 cases x with
 | f x=>cases hs;exact ⟨Fz,[],h,fun _ h=>h,fu.mono hor (fun _ _=>rfl) x v hx,rfl⟩
 | bP=>cases hs;exact ⟨Fz,[],h,fun _ h=>h,by simp only [fu];exact ⟨none,0,hx,aiq _,by simp,.inl trivial⟩,rfl⟩
 | iI=>cases hs;exact ⟨Fz,[],h,fun _ h=>h,hx,rfl⟩
 | fq=>cases hs;exact ⟨Fz,[],h,fun _ h=>h,hx,rfl⟩
 | own key n =>
  simp only [ru] at hs
  split at hs
  ·rename_i sz rows fQ
   split at hs
   ·cases hs
    obtain ⟨g1,g2⟩:=h.G8 fQ
    exact ⟨Fz,_,g1,fun _ h=>h,by rw [hx.1];exact g2.mono hor (fun _ _=>rfl) (fun _ _=>rfl)⟩
   ·rename_i hg
    cases hs
    refine ⟨Fz,[],h,fun _ h=>h,?_,rfl⟩
    rw [hx.1]
    exact rA hor (fun b hb=>.inr ⟨by simpa using hg,key,n,by simp,hb⟩) (h.rel.obj fQ)
  ·cases hs
 | fp cs=>cases hs;exact ⟨Fz,[],h,fun _ h=>h,eB.mono (κ:=κ) (eU:=fun _=>undef) hor (fun _ _=>rfl) (fun k hk=>by cases hk) hx,rfl⟩
 | fn f cs=>cases hs;exact ⟨Fz,[],h,fun _ h=>h,eB.mono (κ:=κ) (eU:=fun _=>undef) hor (fun _ _=>rfl) (fun k hk=>by cases hk) hx,rfl⟩
 | mp key =>
  simp only [ru] at hs
  split at hs
  ·rename_i sh ents fQ
   cases hs
   obtain ⟨b,h1,h2⟩:=h.rel.obj fQ
   exact ⟨Fz,[b],h.take fQ (by rw [h1];rfl),fun _ h=>h,b,by rw [hx.1,h1],h2.mono hor (fun _ _=>rfl) rfl,rfl⟩
  ·cases hs
 | ptr key off =>
  cases off with
  | succ n=>cases hs
  | zero =>
   simp only [ru] at hs
   split at hs
   ·rename_i xs fQ
    obtain ⟨p,h1,h2⟩:=zmm hs
    cases h2
    obtain ⟨b,cs,e,g1,g2,g3⟩:=h.rel.obj fQ
    obtain ⟨b',g4,g5⟩:=hx
    rw [g1] at g4
    cases g4
    obtain ⟨F1,bx,e1,e2,e3⟩:=BM (h.take fQ (by rw [g1];rfl)) g3 h1
    refine ⟨F1,b :: bx,e1.perm ?_,e2,b,cs,e,bx,g5,g2,e3.mono hor (fun _ _=>rfl) (fun _ _=>rfl),rfl⟩
    exact List.perm_middle
   ·cases hs
 | _=>cases hs
theorem G9 {gv:Bool}:∀ {xs:List PL} {ys:List TV} {vs:List Value} {bs:List Nat} {Fz:Nat → Prop} {σ σ':St},bO aY w0 aX N bs Fz κ σ a w → aN Fz κ w xs vs → rz gv σ xs = some (ys,σ') → ∃ bA bx,bO aY w0 aX N (bx ++ bs) bA κ σ' a w ∧ (∀ b,Fz b → bA b) ∧ kI (fun b=>bA b ∨ sK gv κ xs b) w ys vs bx
 | [],ys,[],bs,Fz,σ,σ',h,_,hs=>by cases hs;exact ⟨Fz,[],h,fun _ h=>h,rfl⟩
 | x :: xs,ys,v :: vs,bs,Fz,σ,σ',h,hx,hs=>by
  obtain ⟨p,h1,h2⟩:=zbm hs
  obtain ⟨r,h3,h4⟩:=zmm h2
  cases h4
  obtain ⟨F1,b1,e1,e2,e3⟩:=Fw h hx.1 h1
  obtain ⟨F2,b2,e4,e5,e6⟩:=G9 e1 (aN.mono e2 (fun _ _=>rfl) xs (fun _ _=>rfl) vs hx.2) h3
  refine ⟨F2,b1 ++ b2,e4.perm ?_,fun b hb=>e5 b (e2 b hb),b1,b2,e3.mono (fun b hb=>?_) (fun _ _=>rfl) (fun _ _=>rfl),e6.mono (fun b hb=>?_) (fun _ _=>rfl) (fun _ _=>rfl),rfl⟩
  ·rw [← ajc]
   exact List.perm_append_comm.append_right bs
  ·rcases hb with hb | ⟨hg,k,n,hm,hb⟩
   ·exact .inl (e5 b hb)
   ·exact .inr ⟨hg,k,n,by simp at hm;simp [hm],hb⟩
  ·rcases hb with hb | ⟨hg,k,n,hm,hb⟩
   ·exact .inl hb
   ·exact .inr ⟨hg,k,n,by simp [hm],hb⟩
 | [],_,_ :: _,_,_,_,_,_,h,_=>h.elim
 | _ :: _,_,[],_,_,_,_,_,h,_=>h.elim
theorem Ld {gv:Bool} (h:bO aY w0 aX N bs Fz κ σ a w) {x:CV} {y:AV} {v:Value} (hx:fP Fz κ w x v) (hs:Kz gv σ x = some (y,σ')):∃ bA bx,bO aY w0 aX N (bx ++ bs) bA κ σ' a w ∧ (∀ b,Fz b → bA b) ∧ oL (fun b=>bA b ∨ sK gv κ (Ev.cells x) b) w y v bx:=by
 cases x with
 | one x =>
  obtain ⟨p,h1,h2⟩:=zmm hs
  cases h2
  exact Fw h hx h1
 | agg xs =>
  obtain ⟨p,h1,h2⟩:=zmm hs
  cases h2
  obtain ⟨cs,rfl,hx⟩:=hx
  obtain ⟨F1,b1,e1,e2,e3⟩:=G9 h hx h1
  exact ⟨F1,b1,e1,e2,cs,rfl,e3⟩
theorem BN {gv:Bool}:∀ {xs:List CV} {ys:List AV} {vs:List Value} {bs:List Nat} {Fz:Nat → Prop} {σ σ':St},bO aY w0 aX N bs Fz κ σ a w → dL Fz κ w xs vs → rW gv σ xs = some (ys,σ') → ∃ bA bx,bO aY w0 aX N (bx ++ bs) bA κ σ' a w ∧ (∀ b,Fz b → bA b) ∧ fB (fun b=>bA b ∨ sK gv κ (xs.flatMap Ev.cells) b) w ys vs bx
 | [],ys,[],bs,Fz,σ,σ',h,_,hs=>by cases hs;exact ⟨Fz,[],h,fun _ h=>h,rfl⟩
 | x :: xs,ys,v :: vs,bs,Fz,σ,σ',h,hx,hs=>by
  obtain ⟨p,h1,h2⟩:=zbm hs
  obtain ⟨r,h3,h4⟩:=zmm h2
  cases h4
  obtain ⟨F1,b1,e1,e2,e3⟩:=Ld h hx.1 h1
  obtain ⟨F2,b2,e4,e5,e6⟩:=BN e1 (dL.mono e2 (fun _ _=>rfl) xs (fun _ _=>rfl) vs hx.2) h3
  refine ⟨F2,b1 ++ b2,e4.perm ?_,fun b hb=>e5 b (e2 b hb),b1,b2,e3.mono (fun b hb=>?_) (fun _ _=>rfl) (fun _ _=>rfl),e6.mono (fun b hb=>?_) (fun _ _=>rfl) (fun _ _=>rfl),rfl⟩
  ·rw [← ajc]
   exact List.perm_append_comm.append_right bs
  ·rcases hb with hb | ⟨hg,k,n,hm,hb⟩
   ·exact .inl (e5 b hb)
   ·exact .inr ⟨hg,k,n,by simp [hm],hb⟩
  ·rcases hb with hb | ⟨hg,k,n,hm,hb⟩
   ·exact .inl hb
   ·exact .inr ⟨hg,k,n,by rw [ajZ];exact List.mem_append_right _ hm,hb⟩
 | [],_,_ :: _,_,_,_,_,_,h,_=>h.elim
 | _ :: _,_,[],_,_,_,_,_,h,_=>h.elim
theorem BO : ∀ {xs:List PL} {Fz:Nat → Prop} {σ σ':St},bO aY w0 aX N bs Fz κ σ a w → wU σ xs = some σ' → ∃ bA,bO aY w0 aX N bs bA κ σ' a w ∧ (∀ b,Fz b → bA b) ∧ ∀ b,sK false κ xs b → bA b
 | [],Fz,σ,σ',h,hs=>by cases hs;exact ⟨Fz,h,fun _ h=>h,fun b ⟨_,k,n,hm,_⟩=>by simp at hm⟩
 | x :: xs,Fz,σ,σ',h,hs=>by
  have other:(∀ k n,x ≠ .own k n) → wU σ xs = some σ' → ∃ bA,bO aY w0 aX N bs bA κ σ' a w ∧ (∀ b,Fz b → bA b) ∧ ∀ b,sK false κ (x :: xs) b → bA b:=by
   intro hx hs
   obtain ⟨F1,e1,e2,e3⟩:=BO h hs
   refine ⟨F1,e1,e2,fun b ⟨_,k,n,hm,hb⟩=>e3 b ⟨rfl,k,n,?_,hb⟩⟩
   rcases aiD.mp hm with h | h
   ·exact absurd h.symm (hx k n)
   ·exact h
  cases x with
  | own key n =>
   simp only [wU] at hs
   obtain ⟨s,h1,h2⟩:=zbm hs
   have hrow:∃ sz rows,get σ.ob key = some (.row sz rows):=by
    unfold Ev.zf at h1
    split at h1
    ·exact ⟨_,_,by assumption⟩
    ·cases h1
   obtain ⟨sz,rows,hk⟩:=hrow
   obtain ⟨F1,e1,e2,e3,_⟩:=h.zf hk h1
   obtain ⟨F2,e4,e5,e6⟩:=BO e1 h2
   refine ⟨F2,e4,fun b hb=>e5 b (e2 b hb),fun b ⟨_,k,n,hm,hb⟩=>?_⟩
   rcases aiD.mp hm with h | h
   ·cases h;exact e5 b (e3 b hb)
   ·exact e6 b ⟨rfl,k,n,h,hb⟩
  | _=>exact other (fun _ _ h=>by cases h) hs
theorem Dy : ∀ {xs:List CV} {Fz:Nat → Prop} {σ σ':St},bO aY w0 aX N bs Fz κ σ a w → rX σ xs = some σ' → ∃ bA,bO aY w0 aX N bs bA κ σ' a w ∧ (∀ b,Fz b → bA b) ∧ ∀ b,sK false κ (xs.flatMap Ev.cells) b → bA b
 | [],Fz,σ,σ',h,hs=>by cases hs;exact ⟨Fz,h,fun _ h=>h,fun b ⟨_,k,n,hm,_⟩=>by simp at hm⟩
 | x :: xs,Fz,σ,σ',h,hs=>by
  obtain ⟨s,h1,h2⟩:=zbm hs
  obtain ⟨F1,e1,e2,e3⟩:=BO h h1
  obtain ⟨F2,e4,e5,e6⟩:=Dy e1 h2
  refine ⟨F2,e4,fun b hb=>e5 b (e2 b hb),fun b ⟨_,k,n,hm,hb⟩=>?_⟩
  rw [ajZ] at hm
  rcases aiN.mp hm with h | h
  ·exact e5 b (e3 b ⟨rfl,k,n,h,hb⟩)
  ·exact e6 b ⟨rfl,k,n,h,hb⟩
end
end
section
open Go
section
variable {P : Program} {Γ:Env} {aY Fz bA:Nat → Prop} {w0 w w':World} {aX bs YP:List Nat} {N:Fr} {d:Nat} {q:Bool} {κ eU:Nat → Value} {σ σ1 σ':St} {a:Act} {pv:PV} {o:Oper}
theorem bO.give {b:Nat} (h:bO aY w0 aX N (b :: bs) Fz κ σ a w) {key:Nat} {ob:Ob} {v:Value} (hn:new σ key ob = some σ') (hv:blk v = some b) (ho:iF 0 Fz (oP κ key v) w key ob):bO aY w0 aX N bs Fz (oP κ key v) σ' a w:=by
 have hb:=h.ap b (by simp)
 unfold Ev.new Xn at hn
 split at hn
 ·cases hn
 ·rename_i hm
  simp only [Option.map_some,aiz] at hn
  subst hn
  have hm':∀ p ∈ rem σ.ob key,l5 key p.2 = false:=by
   intro p hp
   cases he:l5 key p.2 with
   | false=>rfl
   | true=>exact absurd (ajk.mpr ⟨p,hp,he⟩) hm
  refine ⟨⟨fun p hp=>?_,h.rel.sz,h.rel.lV,h.rel.fs,fun p hp=>?_,fun p hp r hr b' hne hb1 hb2=>?_,fun p hp b' hb1=>?_,h.rel.fz,h.rel.zh,h.rel.big,h.rel.ext,h.rel.kp⟩,(List.nodup_cons.mp h.lV).2,fun b' hb'=>?_⟩
  ·obtain ⟨h1,h2⟩:=ajN.mp hp
   refine iC.mono (fun _ h=>h) (fun b hb'=>rfl) (fun k hk=>eF ?_ v) (h.rel.tm p h1)
   rintro rfl
   rw [hk] at h2;cases h2
  ·rcases aiD.mp hp with rfl | hp
   ·exact ho
   ·obtain ⟨h1,h2⟩:=eP.mp hp
    refine iF.mono (fun _ h=>h) (fun b hb'=>rfl) (fun k hk=>eF ?_ v) (fun b hb'=>rfl) (h.rel.ob p h1)
    rintro rfl
    rcases hk with hk | hk
    ·exact h2 hk.symm
    ·rw [hm' p hp] at hk;cases hk
  ·rcases aiD.mp hp with rfl | hp <;> rcases aiD.mp hr with rfl | hr
   ·exact hne rfl
   ·obtain ⟨h1,h2⟩:=eP.mp hr
    rw [bL,hv] at hb1
    cases hb1
    rw [eF h2] at hb2
    exact hb.2.2.2 r h1 hb2
   ·obtain ⟨h1,h2⟩:=eP.mp hp
    simp only [bL] at hb2
    rw [hv] at hb2
    cases hb2
    rw [eF h2] at hb1
    exact hb.2.2.2 p h1 hb1
   ·obtain ⟨h1,h2⟩:=eP.mp hp
    obtain ⟨h3,h4⟩:=eP.mp hr
    rw [eF h2] at hb1
    rw [eF h4] at hb2
    exact h.rel.uE p h1 r h3 b' hne hb1 hb2
  ·rcases aiD.mp hp with rfl | hp
   ·simp only [bL] at hb1
    rw [hv] at hb1
    cases hb1
    exact ⟨hb.1,hb.2.1,hb.2.2.1⟩
   ·obtain ⟨h1,h2⟩:=eP.mp hp
    rw [eF h2] at hb1
    exact h.rel.pos p h1 b' hb1
  ·have hx:=h.ap b' (ajd _ hb')
   refine ⟨hx.1,hx.2.1,hx.2.2.1,fun p hp=>?_⟩
   rcases aiD.mp hp with rfl | hp
   ·simp only [bL]
    rw [hv]
    intro e
    cases e
    exact (List.nodup_cons.mp h.lV).1 hb'
   ·obtain ⟨h1,h2⟩:=eP.mp hp
    rw [eF h2]
    exact hx.2.2.2 p h1
theorem bO.back {b:Nat} (h:bO aY w0 aX N (b :: bs) Fz κ σ a w) {key:Nat} {ob:Ob} (hv:blk (κ key) = some b) (ho:iF 0 Fz κ w key ob):bO aY w0 aX N bs Fz κ (jm σ key ob) a w:=by
 have hb:=h.ap b (by simp)
 refine ⟨⟨h.rel.tm,h.rel.sz,h.rel.lV,h.rel.fs,fun p hp=>?_,fun p hp r hr b' hne hb1 hb2=>?_,fun p hp b' hb1=>?_,h.rel.fz,h.rel.zh,h.rel.big,h.rel.ext,h.rel.kp⟩,(List.nodup_cons.mp h.lV).2,fun b' hb'=>?_⟩
 ·rcases iy hp with rfl | ⟨hp,_⟩
  ·exact ho
  ·exact h.rel.ob p hp
 ·rcases iy hp with rfl | ⟨hp,_⟩ <;> rcases iy hr with rfl | ⟨hr,_⟩
  ·exact hne rfl
  ·rw [hv] at hb1;cases hb1
   exact hb.2.2.2 r hr hb2
  ·simp only [hv] at hb2;cases hb2
   exact hb.2.2.2 p hp hb1
  ·exact h.rel.uE p hp r hr b' hne hb1 hb2
 ·rcases iy hp with rfl | ⟨hp,_⟩
  ·simp only [hv] at hb1;cases hb1
   exact ⟨hb.1,hb.2.1,hb.2.2.1⟩
  ·exact h.rel.pos p hp b' hb1
 ·have hx:=h.ap b' (ajd _ hb')
  refine ⟨hx.1,hx.2.1,hx.2.2.1,fun p hp=>?_⟩
  rcases iy hp with rfl | ⟨hp,_⟩
  ·simp only [hv]
   intro e
   cases e
   exact (List.nodup_cons.mp h.lV).1 hb'
  ·exact hx.2.2.2 p hp
theorem BP {key:Nat} {v:Value} {pend:List PL} {jB:List Value} (hp:aN Fz κ w pend jB) (hm:¬ pend.any (dY key) = true):aN Fz (oP κ key v) w pend jB :=
 aN.mono (fun _ h=>h) (fun _ _=>rfl) pend (fun k hk=>eF (fun e=>by subst e;exact hm hk) v) jB hp
theorem bO.He {b:Nat} (h:bO aY w0 aX N (b :: bs) Fz κ σ a w) {key:Nat} {ob:Ob} {v:Value} {pend:List PL} {jB:List Value} (hp:aN Fz κ w pend jB) (hn:newP pend σ key ob = some σ') (hv:blk v = some b) (ho:iF 0 Fz (oP κ key v) w key ob) :
  bO aY w0 aX N bs Fz (oP κ key v) σ' a w ∧ aN Fz (oP κ key v) w pend jB:=by
 unfold newP at hn
 split at hn
 ·cases hn
 ·rename_i hm
  exact ⟨h.give hn hv ho,BP hp hm⟩
theorem zu.ofMap {sh:KS} {ents:List (KV × FC)} {b key:Nat} {B:Nat} {v:Value} (hv:v = .map (some b)) (h:zu Fz w sh ents b):iF B Fz (oP κ key v) w key (.map sh ents):=⟨b,by rw [bL,hv],h⟩
theorem jg.row {sz key:Nat} {rows:List (List FV)} {v:Value} {bx:List Nat} {B:Nat} (hB:B = 0) (h:jg Fz w sz rows v bx):iF B Fz (oP κ key v) w key (.row sz rows):=by
 subst hB
 obtain ⟨h0,e,inner,A,c,h1,h2,h3,_⟩:=h
 exact ⟨h0,e,inner,A,c,by rw [bL];exact h1,by rw [bL];exact h2,h3⟩
theorem bO.Le {v:Value} {sz:Nat} {rows:List (List FV)} {bx:List Nat} (h:bO aY w0 aX N (bx ++ bs) Fz κ σ a w) {key:Nat} {pend:List PL} {jB:List Value} (hp:aN Fz κ w pend jB) (hn:newP pend σ key (.row sz rows) = some σ') (ho:jg Fz w sz rows v bx) :
  bO aY w0 aX N bs Fz (oP κ key v) σ' a w ∧ aN Fz (oP κ key v) w pend jB ∧ eB Fz (oP κ key v) w (.own key rows.length) v:=by
 have hrow:=jg.row (κ:=κ) (key:=key) (B:=0) rfl ho
 have hbx:bx = oK v:=ho.2.choose_spec.choose_spec.choose_spec.choose_spec.2.2.2
 have hval:eB Fz (oP κ key v) w (.own key rows.length) v:=by
  obtain ⟨h0,e,inner,A,c,h1,_⟩:=ho
  exact ⟨by rw [bL],A,c,h1⟩
 subst hbx
 cases hb:blk v with
 | some b =>
  simp only [oK,hb] at h
  obtain ⟨g1,g2⟩:=bO.He (b:=b) (v:=v) h hp hn hb hrow
  exact ⟨g1,g2,hval⟩
 | none =>
  simp only [oK,hb,List.nil_append] at h
  unfold newP at hn
  split at hn
  ·cases hn
  ·rename_i hm
   refine ⟨⟨h.rel.new hn (aiq _) (fun _ _=>rfl) (fun b hb'=>by rw [hb] at hb';cases hb') ⟨rfl,rfl⟩ hrow,h.lV,fun b' hb'=>?_⟩,BP hp hm,hval⟩
   have hx:=h.ap b' hb'
   refine ⟨hx.1,hx.2.1,hx.2.2.1,fun p hp'=>?_⟩
   unfold Ev.new Xn at hn
   split at hn
   ·cases hn
   ·simp only [Option.map_some,aiz] at hn
    subst hn
    rcases aiD.mp hp' with rfl | hp'
    ·simp only [bL];rw [hb];intro e;cases e
    ·obtain ⟨h1,h2⟩:=eP.mp hp'
     rw [eF h2]
     exact hx.2.2.2 p h1
theorem bO.YQ {key:Nat} {ob:Ob} (h:bO aY w0 aX N (oK (κ key) ++ bs) Fz κ σ a w) (ho:iF 0 Fz κ w key ob):bO aY w0 aX N bs Fz κ (jm σ key ob) a w:=by
 cases hb:blk (κ key) with
 | some b=>simp only [oK,hb] at h;exact h.back hb ho
 | none =>
  simp only [oK,hb,List.nil_append] at h
  refine ⟨⟨h.rel.tm,h.rel.sz,h.rel.lV,h.rel.fs,fun p hp=>?_,fun p hp r hr b' hne hb1 hb2=>?_,fun p hp b' hb1=>?_,h.rel.fz,h.rel.zh,h.rel.big,h.rel.ext,h.rel.kp⟩,h.lV,fun b' hb'=>?_⟩
  ·rcases iy hp with rfl | ⟨hp,_⟩
   ·exact ho
   ·exact h.rel.ob p hp
  ·rcases iy hp with rfl | ⟨hp,_⟩ <;> rcases iy hr with rfl | ⟨hr,_⟩
   ·exact hne rfl
   ·rw [hb] at hb1;cases hb1
   ·simp only [hb] at hb2;cases hb2
   ·exact h.rel.uE p hp r hr b' hne hb1 hb2
  ·rcases iy hp with rfl | ⟨hp,_⟩
   ·simp only [hb] at hb1;cases hb1
   ·exact h.rel.pos p hp b' hb1
  ·have:=h.ap b' hb'
   refine ⟨this.1,this.2.1,this.2.2.1,fun p hp=>?_⟩
   rcases iy hp with rfl | ⟨hp,_⟩
   ·simp only [hb];exact fun e=>by cases e
   ·exact this.2.2.2 p hp
theorem sM {Kp:Nat → Prop} {kf:Nat → Nat} (hk2:∀ k,Kp k → Kp (k + k % 2)) (UR:∀ c,Kp (kf c)):∀ {xs:List CL} {vs:List Value} {bx bs:List Nat} {c:Nat} {pend l:List PL} {jB:List Value} {κ:Nat → Value} {σ σ':St},bO aY w0 aX N (bx ++ bs) Fz κ σ a w → oZ Fz w xs vs bx → aN Fz κ w pend jB → qH kf c pend σ xs = some (l,σ') →
  ∃ eU,bO aY w0 aX N bs Fz eU σ' a w ∧ aN Fz eU w l vs ∧ aN Fz eU w pend jB ∧ ∀ k,¬ Kp k → eU k = κ k
 | [],[],bx,bs,c,pend,l,jB,κ,σ,σ',h,hx,hp,hs=>by
  cases hs
  cases hx
  exact ⟨κ,h,trivial,hp,fun _ _=>rfl⟩
 | [],_ :: _,_,_,_,_,_,_,_,_,_,_,hx,_,_=>hx.elim
 | _ :: _,[],_,_,_,_,_,_,_,_,_,_,hx,_,_=>hx.elim
 | x :: xs,v :: vs,bx,bs,c,pend,l,jB,κ,σ,σ',h,hx,hp,hs=>by
  obtain ⟨b1,b2,h1,h2,rfl⟩:=hx
  have quiet:∀ (y:PL),eB Fz κ w y v → b1 = [] → ((qH kf (c + 1) (y :: pend) σ xs).map fun p=>(y :: p.1,p.2)) = some (l,σ') → ∃ eU,bO aY w0 aX N bs Fz eU σ' a w ∧ aN Fz eU w l (v :: vs) ∧ aN Fz eU w pend jB ∧ ∀ k,¬ Kp k → eU k = κ k:=by
   intro y hy hb hs
   subst hb
   obtain ⟨p,h3,h4⟩:=zmm hs
   cases h4
   obtain ⟨eU,e1,e2,e3,e4⟩:=sM hk2 UR h h2 (show aN Fz κ w (y :: pend) (v :: jB) from ⟨hy,hp⟩) h3
   exact ⟨eU,e1,⟨e3.1,e2⟩,e3.2,e4⟩
  cases x with
  | f x=>exact quiet (.f x) h1.1 h1.2 hs
  | iI=>exact quiet .iI h1.1 h1.2 hs
  | fq=>exact quiet .fq h1.1 h1.2 hs
  | mp sh ents =>
   obtain ⟨b,hv,hM,rfl⟩:=h1
   obtain ⟨s,h3,h4⟩:=zbm hs
   obtain ⟨p,h5,h6⟩:=zmm h4
   cases h6
   obtain ⟨g1,g2⟩:=bO.He (bs:=b2 ++ bs) (b:=b) (v:=v) (by simpa using h) hp h3 (by rw [hv];rfl) (zu.ofMap hv hM)
   obtain ⟨eU,e1,e2,e3,e4⟩:=sM hk2 UR g1 h2 (show aN Fz (oP κ (kf c) v) w (.mp (kf c) :: pend) (v :: jB) from ⟨⟨by rw [bL],b,hv⟩,g2⟩) h5
   exact ⟨eU,e1,⟨e3.1,e2⟩,e3.2,fun k hk=>(e4 k hk).trans (eF (fun (e:k = kf c)=>hk (by rw [e];exact UR c)) v)⟩
  | own sz rows =>
   obtain ⟨s,h3,h4⟩:=zbm hs
   obtain ⟨p,h5,h6⟩:=zmm h4
   cases h6
   obtain ⟨g1,g2,g3⟩:=bO.Le (bs:=b2 ++ bs) (bx:=b1) (by rw [← ajc];exact h) hp h3 h1
   obtain ⟨eU,e1,e2,e3,e4⟩:=sM hk2 UR g1 h2 (show aN Fz (oP κ (kf c + kf c % 2) v) w (.own (kf c + kf c % 2) rows.length :: pend) (v :: jB) from ⟨g3,g2⟩) h5
   exact ⟨eU,e1,⟨e3.1,e2⟩,e3.2,fun k hk=>(e4 k hk).trans (eF (fun (e:k = kf c + kf c % 2)=>hk (by rw [e];exact hk2 _ (UR c))) v)⟩
theorem Lf {Kp:Nat → Prop} {key:Nat} (hk2:∀ k,Kp k → Kp (k + k % 2)) (hk:Kp key) (UR:∀ c,Kp (O4 key c)) {x:TV} {v:Value} {bx:List Nat} {pend:List PL} {l:PL} {jB:List Value} (h:bO aY w0 aX N (bx ++ bs) Fz κ σ a w) (hx:mR Fz w x v bx) (hp:aN Fz κ w pend jB) (hs:Dc key pend σ x = some (l,σ')) :
  ∃ eU,bO aY w0 aX N bs Fz eU σ' a w ∧ eB Fz eU w l v ∧ aN Fz eU w pend jB ∧ ∀ k,¬ Kp k → eU k = κ k:=by
 cases x with
 | f x=>cases hs;obtain ⟨h1,rfl⟩:=hx;exact ⟨κ,h,h1,hp,fun _ _=>rfl⟩
 | iI=>cases hs;obtain ⟨h1,rfl⟩:=hx;exact ⟨κ,h,h1,hp,fun _ _=>rfl⟩
 | fq=>cases hs;obtain ⟨h1,rfl⟩:=hx;exact ⟨κ,h,h1,hp,fun _ _=>rfl⟩
 | mp sh ents =>
  obtain ⟨s,h3,h4⟩:=zmm hs
  cases h4
  obtain ⟨b,hv,hM,rfl⟩:=hx
  obtain ⟨g1,g2⟩:=bO.He (bs:=bs) (b:=b) (v:=v) h hp h3 (by rw [hv];rfl) (zu.ofMap hv hM)
  exact ⟨_,g1,⟨by rw [bL],b,hv⟩,g2,fun k hk'=>eF (fun (e:k = key)=>hk' (by rw [e];exact hk)) v⟩
 | own sz rows =>
  obtain ⟨s,h3,h4⟩:=zmm hs
  cases h4
  obtain ⟨g1,g2,g3⟩:=bO.Le (bs:=bs) (bx:=bx) h hp h3 hx
  exact ⟨_,g1,g3,g2,fun k hk'=>eF (fun (e:k = ow key)=>hk' (by rw [e];unfold ow;split;exact hk2 _ hk;exact hk)) v⟩
 | fp cs=>cases hs;obtain ⟨h1,rfl⟩:=hx;exact ⟨κ,h,eB.mono (eU:=κ) (fun _ h=>h) (fun _ _=>rfl) (fun k hk=>by cases hk) h1,hp,fun _ _=>rfl⟩
 | fn f cs=>cases hs;obtain ⟨h1,rfl⟩:=hx;exact ⟨κ,h,eB.mono (eU:=κ) (fun _ h=>h) (fun _ _=>rfl) (fun k hk=>by cases hk) h1,hp,fun _ _=>rfl⟩
 | any=>cases hs;cases hx;exact ⟨κ,h,trivial,hp,fun _ _=>rfl⟩
 | ptr cs =>
  obtain ⟨p,h3,h4⟩:=zbm hs
  split at h4
  ·cases h4
  ·rename_i hm
   obtain ⟨s,h5,h6⟩:=zmm h4
   cases h6
   obtain ⟨b,vals,e,ms,hv,hh,hcs,rfl⟩:=hx
   obtain ⟨zA,e1,e2,e3,e4⟩:=sM hk2 UR (bs:=b :: bs) (h.perm (by simpa using (List.perm_middle (l₁:=ms) (l₂:=bs) (a:=b)).symm)) hcs hp h3
   obtain ⟨g1,g2⟩:=bO.He (bs:=bs) (b:=b) (v:=v) e1 e3 h5 (by rw [hv];rfl) ⟨b,vals,e,by rw [bL,hv],hh,BP e2 hm⟩
   exact ⟨_,g1,⟨b,by rw [bL,hv],hv⟩,g2,fun k hk'=>(eF (fun (e:k = key)=>hk' (by rw [e];exact hk)) v).trans (e4 k hk')⟩
theorem Hf {Kp:Nat → Prop} {base:Nat} (hk2:∀ k,Kp k → Kp (k + k % 2)) (hK:∀ k c,Kp k → Kp (k + 2 * c)) (hb:Kp base):∀ {xs:List TV} {vs:List Value} {bx bs:List Nat} {j:Nat} {pend l:List PL} {jB:List Value} {κ:Nat → Value} {σ σ':St},bO aY w0 aX N (bx ++ bs) Fz κ σ a w → kI Fz w xs vs bx → aN Fz κ w pend jB → wS base j pend σ xs = some (l,σ') →
  ∃ eU,bO aY w0 aX N bs Fz eU σ' a w ∧ aN Fz eU w l vs ∧ aN Fz eU w pend jB ∧ ∀ k,¬ Kp k → eU k = κ k
 | [],[],bx,bs,j,pend,l,jB,κ,σ,σ',h,hx,hp,hs=>by
  cases hs
  cases hx
  exact ⟨κ,h,trivial,hp,fun _ _=>rfl⟩
 | [],_ :: _,_,_,_,_,_,_,_,_,_,_,hx,_,_=>hx.elim
 | _ :: _,[],_,_,_,_,_,_,_,_,_,_,hx,_,_=>hx.elim
 | x :: xs,v :: vs,bx,bs,j,pend,l,jB,κ,σ,σ',h,hx,hp,hs=>by
  obtain ⟨b1,b2,h1,h2,rfl⟩:=hx
  obtain ⟨p,h3,h4⟩:=zbm hs
  obtain ⟨r,h5,h6⟩:=zmm h4
  cases h6
  have hk:Kp (base + 200 * (j + 1)):=by have:=hK base (100 * (j + 1)) hb;rwa [show 2 * (100 * (j + 1)) = 200 * (j + 1) from by omega] at this
  obtain ⟨zA,e1,e2,e3,e4⟩:=Lf hk2 hk (fun c=>hK _ _ hk) (bs:=b2 ++ bs) (by rw [← ajc];exact h) h1 hp h3
  obtain ⟨Fx,g1,g2,g3,g4⟩:=Hf hk2 hK hb e1 h2 (show aN Fz zA w (p.1 :: pend) (v :: jB) from ⟨e2,e3⟩) h5
  exact ⟨Fx,g1,⟨g3.1,g2⟩,g3.2,fun k hk=>(g4 k hk).trans (e4 k hk)⟩
theorem Lg {Kp:Nat → Prop} {base:Nat} (hk2:∀ k,Kp k → Kp (k + k % 2)) (hK:∀ k c,Kp k → Kp (k + 2 * c)) (hb:Kp base) {x:AV} {v:Value} {bx:List Nat} {pend:List PL} {l:CV} {jB:List Value} (h:bO aY w0 aX N (bx ++ bs) Fz κ σ a w) (hx:oL Fz w x v bx) (hp:aN Fz κ w pend jB) (hs:KA base pend σ x = some (l,σ')) :
  ∃ eU,bO aY w0 aX N bs Fz eU σ' a w ∧ fP Fz eU w l v ∧ aN Fz eU w pend jB ∧ ∀ k,¬ Kp k → eU k = κ k:=by
 cases x with
 | one x =>
  obtain ⟨p,h1,h2⟩:=zmm hs
  cases h2
  have hk:Kp (base + 200):=hK base 100 hb
  exact Lf hk2 hk (fun c=>hK _ _ hk) h hx hp h1
 | agg xs =>
  obtain ⟨p,h1,h2⟩:=zmm hs
  cases h2
  obtain ⟨cs,rfl,hx⟩:=hx
  obtain ⟨zA,e1,e2,e3,e4⟩:=Hf hk2 hK hb h hx hp h1
  exact ⟨zA,e1,⟨cs,rfl,e2⟩,e3,e4⟩
def Dz : CV → Value → List Value
 | .one _,v=>[v]
 | .agg _,v=>v.cells.toList
theorem fP.Dz {x:CV} {v:Value} (h:fP Fz κ w x v):aN Fz κ w (Ev.cells x) (Ev.Dz x v):=by
 cases x with
 | one x=>exact ⟨h,trivial⟩
 | agg xs=>obtain ⟨cs,rfl,h⟩:=h;exact h
theorem fP.Lh {x:CV} {v:Value} (hs:∀ xs,x = .agg xs → ∃ cs,v = .agg cs) (h:aN Fz κ w (Ev.cells x) (Ev.Dz x v)):fP Fz κ w x v:=by
 cases x with
 | one x=>exact h.1
 | agg xs=>obtain ⟨cs,rfl⟩:=hs xs rfl;exact ⟨cs,rfl,h⟩
theorem aN.BQ : ∀ {xs ys:List PL} {us vs:List Value},us.length = xs.length → aN Fz κ w (xs ++ ys) (us ++ vs) → aN Fz κ w xs us ∧ aN Fz κ w ys vs
 | [],ys,[],vs,_,h=>⟨trivial,h⟩
 | x :: xs,ys,u :: us,vs,hl,h=>by
  obtain ⟨h1,h2⟩:=aN.BQ (xs:=xs) (us:=us) (by simpa using hl) h.2
  exact ⟨⟨h.1,h1⟩,h2⟩
theorem BR {Kp:Nat → Prop} {base:Nat} (hk2:∀ k,Kp k → Kp (k + k % 2)) (hK:∀ k c,Kp k → Kp (k + 2 * c)) (hb:Kp base):∀ {xs:List AV} {vs:List Value} {bx bs:List Nat} {i:Nat} {pend:List PL} {l:List CV} {jB:List Value} {κ:Nat → Value} {σ σ':St},bO aY w0 aX N (bx ++ bs) Fz κ σ a w → fB Fz w xs vs bx → aN Fz κ w pend jB → wT base i pend σ xs = some (l,σ') →
  ∃ eU,bO aY w0 aX N bs Fz eU σ' a w ∧ dL Fz eU w l vs ∧ aN Fz eU w pend jB ∧ ∀ k,¬ Kp k → eU k = κ k
 | [],[],bx,bs,i,pend,l,jB,κ,σ,σ',h,hx,hp,hs=>by
  cases hs
  cases hx
  exact ⟨κ,h,trivial,hp,fun _ _=>rfl⟩
 | [],_ :: _,_,_,_,_,_,_,_,_,_,_,hx,_,_=>hx.elim
 | _ :: _,[],_,_,_,_,_,_,_,_,_,_,hx,_,_=>hx.elim
 | x :: xs,v :: vs,bx,bs,i,pend,l,jB,κ,σ,σ',h,hx,hp,hs=>by
  obtain ⟨b1,b2,h1,h2,rfl⟩:=hx
  obtain ⟨p,h3,h4⟩:=zbm hs
  obtain ⟨r,h5,h6⟩:=zmm h4
  cases h6
  have hk:Kp (base + 2000 * i):=by have:=hK base (1000 * i) hb;rwa [show 2 * (1000 * i) = 2000 * i from by omega] at this
  obtain ⟨zA,e1,e2,e3,e4⟩:=Lg hk2 hK hk (bs:=b2 ++ bs) (by rw [← ajc];exact h) h1 hp h3
  obtain ⟨Fx,g1,g2,g3,g4⟩:=BR hk2 hK hb e1 h2 (show aN Fz zA w (Ev.cells p.1 ++ pend) (Ev.Dz p.1 v ++ jB) from e2.Dz.app e3) h5
  obtain ⟨g5,g6⟩:=g3.BQ (by have:=e2.Dz.length;omega)
  exact ⟨Fx,g1,⟨fP.Lh (fun xs hx=>by rw [hx] at e2;obtain ⟨cs,h,_⟩:=e2;exact ⟨cs,h⟩) g5,g2⟩,g6,fun k hk=>(g4 k hk).trans (e4 k hk)⟩
end
end
section
open Go
section
variable {P : Program} {Γ:Env} {aY Fz bA:Nat → Prop} {w0 w w':World} {aX bs YP:List Nat} {N:Fr} {d:Nat} {q:Bool} {κ eU:Nat → Value} {σ σ1 σ':St} {a:Act} {pv:PV} {o:Oper}
theorem Li {gv:Bool} (h:bO aY w0 aX N bs Fz κ σ a w) {x:PL} {y:TV} (hs:ru gv σ x = some (y,σ')):∀ b,sK gv κ [x] b → b < w.heap.size:=by
 rintro b ⟨hg,key,n,hm,hb⟩
 simp at hm
 subst hm
 simp only [ru] at hs
 split at hs
 ·rename_i sz rows fQ
  exact (h.rel.pos _ (get_mem fQ) b hb).2.1
 ·cases hs
theorem Hg {gv:Bool}:∀ {xs:List PL} {ys:List TV} {vs:List Value} {bs:List Nat} {Fz:Nat → Prop} {σ σ':St},bO aY w0 aX N bs Fz κ σ a w → aN Fz κ w xs vs → rz gv σ xs = some (ys,σ') → ∀ b,sK gv κ xs b → b < w.heap.size
 | [],ys,[],bs,Fz,σ,σ',h,_,hs,b,⟨_,k,n,hm,_⟩=>by simp at hm
 | x :: xs,ys,v :: vs,bs,Fz,σ,σ',h,hx,hs,b,⟨hg,k,n,hm,hb⟩=>by
  obtain ⟨p,h1,h2⟩:=zbm hs
  obtain ⟨r,h3,h4⟩:=zmm h2
  rcases aiD.mp hm with hm | hm
  ·exact Li h h1 b ⟨hg,k,n,by simp [hm],hb⟩
  ·obtain ⟨F1,b1,e1,e2,e3⟩:=Fw h hx.1 h1
   exact Hg e1 (aN.mono e2 (fun _ _=>rfl) xs (fun _ _=>rfl) vs hx.2) h3 b ⟨hg,k,n,hm,hb⟩
 | [],_,_ :: _,_,_,_,_,_,h,_,_,_=>h.elim
 | _ :: _,_,[],_,_,_,_,_,h,_,_,_=>h.elim
theorem UU {gv:Bool} (h:bO aY w0 aX N bs Fz κ σ a w) {x:CV} {y:AV} {v:Value} (hx:fP Fz κ w x v) (hs:Kz gv σ x = some (y,σ')):∀ b,sK gv κ (Ev.cells x) b → b < w.heap.size:=by
 cases x with
 | one x =>
  obtain ⟨p,h1,h2⟩:=zmm hs
  exact Li h h1
 | agg xs =>
  obtain ⟨p,h1,h2⟩:=zmm hs
  obtain ⟨cs,rfl,hx⟩:=hx
  exact Hg h hx h1
theorem Hl {gv:Bool}:∀ {xs:List CV} {ys:List AV} {vs:List Value} {bs:List Nat} {Fz:Nat → Prop} {σ σ':St},bO aY w0 aX N bs Fz κ σ a w → dL Fz κ w xs vs → rW gv σ xs = some (ys,σ') → ∀ b,sK gv κ (xs.flatMap Ev.cells) b → b < w.heap.size
 | [],ys,[],bs,Fz,σ,σ',h,_,hs,b,⟨_,k,n,hm,_⟩=>by simp at hm
 | x :: xs,ys,v :: vs,bs,Fz,σ,σ',h,hx,hs,b,⟨hg,k,n,hm,hb⟩=>by
  obtain ⟨p,h1,h2⟩:=zbm hs
  obtain ⟨r,h3,h4⟩:=zmm h2
  rw [ajZ] at hm
  rcases aiN.mp hm with hm | hm
  ·exact UU h hx.1 h1 b ⟨hg,k,n,hm,hb⟩
  ·obtain ⟨F1,b1,e1,e2,e3⟩:=Ld h hx.1 h1
   exact Hl e1 (dL.mono e2 (fun _ _=>rfl) xs (fun _ _=>rfl) vs hx.2) h3 b ⟨hg,k,n,hm,hb⟩
 | [],_,_ :: _,_,_,_,_,_,h,_,_,_=>h.elim
 | _ :: _,_,[],_,_,_,_,_,h,_,_,_=>h.elim
theorem bO.sub {b1 b2:List Nat} (h:bO aY w0 aX N (b1 ++ b2) Fz κ σ a w):bO aY w0 aX N b2 Fz κ σ a w:=⟨h.rel,(ajM.mp h.lV).2.1,fun b hb=>h.ap b (List.mem_append_right _ hb)⟩
theorem Jq {base:Nat} {xs:List PL} (hb:base % 2 = 0) (c:Nat):Jk base xs c % 2 = 0:=by
 unfold Jk
 split
 ·split
  ·assumption
  ·omega
 ·split
  ·assumption
  ·omega
 ·omega
theorem Lj {fG:St} {base:Nat} (hb:base % 2 = 0) {x:PL} {y:TV} {v:Value} {bx:List Nat} {pend:List PL} {jB:List Value} (h:bO aY w0 aX N (bx ++ bs) Fz κ σ a w) (hy:mR Fz w y v bx) (hp:aN Fz κ w pend jB) (hsub:∀ κ,aN Fz κ w pend jB → eB Fz κ w x v) (hs:Df fG pend base σ x y = some σ') :
  ∃ eU,bO aY w0 aX N bs Fz eU σ' a w ∧ aN Fz eU w pend jB ∧ ∀ k,k % 2 = 1 → eU k = κ k:=by
 have plain:bx = [] → some σ = some σ' → ∃ eU,bO aY w0 aX N bs Fz eU σ' a w ∧ aN Fz eU w pend jB ∧ ∀ k,k % 2 = 1 → eU k = κ k:=by
  intro hb hs
  cases hs
  subst hb
  exact ⟨κ,h,hp,fun _ _=>rfl⟩
 cases y with
 | ptr cs =>
  cases x with
  | ptr key off =>
   simp only [Df] at hs
   split at hs
   ·rename_i xs fQ
    obtain ⟨p,h1,h2⟩:=zmm hs
    cases h2
    obtain ⟨b,vals,e,ms,hv,hh,hcs,rfl⟩:=hy
    obtain ⟨zA,e1,e2,e3,e4⟩:=sM (Kp:=fun k=>k % 2 = 0) (fun k hk=>by omega) (Jq hb) (bs:=b :: bs) (h.perm (by simpa using (List.perm_middle (l₁:=ms) (l₂:=bs) (a:=b)).symm)) hcs hp h1
    obtain ⟨b',g1,g2⟩:=hsub zA e3
    rw [hv] at g2
    cases g2
    exact ⟨zA,e1.back (by rw [g1];rfl) ⟨b,vals,e,g1,hh,e2⟩,e3,fun k hk=>e4 k (by omega)⟩
   ·cases hs
  | _=>cases hs
 | mp sh ents =>
  cases x with
  | mp key =>
   cases hs
   obtain ⟨b,hv,hM,rfl⟩:=hy
   have hk:=(hsub κ hp).1
   rw [hv] at hk
   exact ⟨κ,h.back (b:=b) (by rw [← hk];rfl) ⟨b,hk.symm,hM⟩,hp,fun _ _=>rfl⟩
  | _=>cases hs
 | own sz rows =>
  have g:∃ eU,bO aY w0 aX N bs Fz eU σ a w ∧ aN Fz eU w pend jB ∧ ∀ k,k % 2 = 1 → eU k = κ k:=⟨κ,h.sub,hp,fun _ _=>rfl⟩
  cases x with
  | own key n =>
   cases hs
   have hk:=(hsub κ hp).1
   obtain ⟨o0,e,inner,A,c,o1,o2,o3,o4⟩:=hy
   rw [hk] at o1 o2 o4
   rw [o4] at h
   exact ⟨κ,h.YQ ⟨o0,e,inner,A,c,o1,o2,o3⟩,hp,fun _ _=>rfl⟩
  | _=>first | (cases hs;exact g) | cases hs
 | fp cs=>cases x <;> first | exact plain hy.2 hs | cases hs
 | fn f cs=>cases x <;> first | exact plain hy.2 hs | cases hs
 | any=>cases x <;> first | exact plain hy hs | cases hs
 | f y=>cases x <;> first | exact plain hy.2 hs | cases hs
 | iI=>cases x <;> first | exact plain hy.2 hs | cases hs
 | fq=>cases x <;> first | exact plain hy.2 hs | cases hs
theorem Ho {fG:St} {pend:List PL} {jB:List Value}:∀ {xs:List PL} {ys:List TV} {vs:List Value} {bx bs:List Nat} {base:Nat} {κ:Nat → Value} {σ σ':St},base % 2 = 0 → bO aY w0 aX N (bx ++ bs) Fz κ σ a w → kI Fz w ys vs bx → aN Fz κ w pend jB → (∀ κ,aN Fz κ w pend jB → aN Fz κ w xs vs) → Bp fG pend base σ xs ys = some σ' →
  ∃ eU,bO aY w0 aX N bs Fz eU σ' a w ∧ aN Fz eU w pend jB ∧ ∀ k,k % 2 = 1 → eU k = κ k
 | [],[],[],bx,bs,base,κ,σ,σ',hb,h,hy,hp,hsub,hs=>by cases hs;cases hy;exact ⟨κ,h,hp,fun _ _=>rfl⟩
 | x :: xs,y :: ys,v :: vs,bx,bs,base,κ,σ,σ',hb,h,hy,hp,hsub,hs=>by
  obtain ⟨s,h1,h2⟩:=zbm hs
  obtain ⟨b1,b2,g1,g2,rfl⟩:=hy
  obtain ⟨zA,e1,e2,e3⟩:=Lj hb (bs:=b2 ++ bs) (by rw [← ajc];exact h) g1 hp (fun κ hk=>(hsub κ hk).1) h1
  obtain ⟨Fx,e4,e5,e6⟩:=Ho (by omega) e1 g2 e2 (fun κ hk=>(hsub κ hk).2) h2
  exact ⟨Fx,e4,e5,fun k hk=>(e6 k hk).trans (e3 k hk)⟩
 | [],[],_ :: _,_,_,_,_,_,_,_,_,hy,_,_,_=>hy.elim
 | _ :: _,_ :: _,[],_,_,_,_,_,_,_,_,hy,_,_,_=>hy.elim
 | [],_ :: _,_,_,_,_,_,_,_,_,_,_,_,_,hs=>by cases hs
 | _ :: _,[],_,_,_,_,_,_,_,_,_,_,_,_,hs=>by cases hs
theorem UW {fG:St} {base:Nat} (hb:base % 2 = 0) {x:CV} {y:AV} {v:Value} {bx:List Nat} {pend:List PL} {jB:List Value} (h:bO aY w0 aX N (bx ++ bs) Fz κ σ a w) (hy:oL Fz w y v bx) (hp:aN Fz κ w pend jB) (hsub:∀ κ,aN Fz κ w pend jB → aN Fz κ w (Ev.cells x) (Dz x v)) (hs:Yt fG pend base σ x y = some σ') :
  ∃ eU,bO aY w0 aX N bs Fz eU σ' a w ∧ aN Fz eU w pend jB ∧ ∀ k,k % 2 = 1 → eU k = κ k:=by
 cases x with
 | one x =>
  cases y with
  | one y=>exact Lj hb h hy hp (fun κ hk=>(hsub κ hk).1) hs
  | agg ys=>cases hs
 | agg xs =>
  cases y with
  | one y=>cases hs
  | agg ys =>
   obtain ⟨cs,rfl,hy⟩:=hy
   exact Ho hb h hy hp hsub hs
theorem Hq {fG:St} {pend:List PL} {jB:List Value}:∀ {xs:List CV} {ys:List AV} {vs:List Value} {bx bs:List Nat} {base:Nat} {κ:Nat → Value} {σ σ':St},base % 2 = 0 → bO aY w0 aX N (bx ++ bs) Fz κ σ a w → fB Fz w ys vs bx → aN Fz κ w pend jB → (∀ κ,aN Fz κ w pend jB → dL Fz κ w xs vs) → zo fG pend base σ xs ys = some σ' →
  ∃ eU,bO aY w0 aX N bs Fz eU σ' a w ∧ aN Fz eU w pend jB ∧ ∀ k,k % 2 = 1 → eU k = κ k
 | [],[],[],bx,bs,base,κ,σ,σ',hb,h,hy,hp,hsub,hs=>by cases hs;cases hy;exact ⟨κ,h,hp,fun _ _=>rfl⟩
 | x :: xs,y :: ys,v :: vs,bx,bs,base,κ,σ,σ',hb,h,hy,hp,hsub,hs=>by
  obtain ⟨s,h1,h2⟩:=zbm hs
  obtain ⟨b1,b2,g1,g2,rfl⟩:=hy
  obtain ⟨zA,e1,e2,e3⟩:=UW hb (bs:=b2 ++ bs) (by rw [← ajc];exact h) g1 hp (fun κ hk=>(hsub κ hk).1.Dz) h1
  obtain ⟨Fx,e4,e5,e6⟩:=Hq (by omega) e1 g2 e2 (fun κ hk=>(hsub κ hk).2) h2
  exact ⟨Fx,e4,e5,fun k hk=>(e6 k hk).trans (e3 k hk)⟩
 | [],[],_ :: _,_,_,_,_,_,_,_,_,hy,_,_,_=>hy.elim
 | _ :: _,_ :: _,[],_,_,_,_,_,_,_,_,hy,_,_,_=>hy.elim
 | [],_ :: _,_,_,_,_,_,_,_,_,_,_,_,_,hs=>by cases hs
 | _ :: _,[],_,_,_,_,_,_,_,_,_,_,_,_,hs=>by cases hs
def ret : List Value → Value
 | [x]=>x
 | xs=>.tuple xs.toArray
structure Post (Fz:Nat → Prop) (w:World) (vals:List Value) (bs:List Nat) (rs pq:List AV) (bA:Nat → Prop) (w':World) (sN:List Value) (b1 b2:List Nat):Prop where
 f1:∀ b,Fz b → bA b
 f2:∀ b,bA b → b < w'.heap.size ∧ (Fz b ∨ b ∈ bs ∨ w.heap.size ≤ b)
 big:w.heap.size ≤ w'.heap.size
 ext:∀ b,b < w.heap.size → b ∉ bs → w'.heap[b]? = w.heap[b]?
 kp:Kp w w'
 bk:fB bA w' pq vals b1
 rs:fB bA w' rs sN b2
 lV:(b1 ++ b2).Nodup
 ap:∀ b ∈ b1 ++ b2,¬ bA b ∧ b < w'.heap.size ∧ (b ∈ bs ∨ w.heap.size ≤ b)
def Sat (P:Program) (f:FuncId) (g:List AV → Option (List AV × List AV)):Prop :=
 ∀ d9 rs pq,g d9 = some (rs,pq) → ∀ (Fz:Nat → Prop) (w:World) (vals:List Value) (bs:List Nat),fB Fz w d9 vals bs → bs.Nodup → (∀ b ∈ bs,¬ Fz b ∧ b < w.heap.size) → (∀ b,Fz b → b < w.heap.size) →
  Calls P f vals.toArray w fun e w'=>∃ bA sN b1 b2,e = .returned (ret sN) ∧ Post Fz w vals bs rs pq bA w' sN b1 b2
def gW (P:Program) (Γ:Env):Prop:=∀ f,Sat P f (Γ f)
theorem bO.called (h:bO aY w0 aX N bs Fz κ σ a w) {vals sN:List Value} {rs pq:List AV} {b1 b2:List Nat} (hp:Post Fz w vals bs rs pq bA w' sN b1 b2):bO aY w0 aX N (b1 ++ b2) bA κ σ a w':=by
 have hap:∀ b ∈ bs,_:=h.ap
 have hfz:∀ b,Fz b → w'.heap[b]? = w.heap[b]?:=fun b hb=>hp.ext b (h.rel.fz b hb).1 (fun hm=>(hap b hm).1 hb)
 have fQ:∀ p ∈ σ.ob,∀ b,blk (κ p.1) = some b → w'.heap[b]? = w.heap[b]?:=fun p hp' b hb=>hp.ext b (h.rel.pos p hp' b hb).2.1 (fun hm=>(hap b hm).2.2.2 p hp' hb)
 refine ⟨⟨fun p hp'=>iC.mono hp.f1 hfz (fun _ _=>rfl) (h.rel.tm p hp'),h.rel.sz,h.rel.lV,h.rel.fs,fun p hp'=>iF.mono hp.f1 hfz (fun _ _=>rfl) (fQ p hp') (h.rel.ob p hp'),h.rel.uE,fun p hp' b hb=>?_,fun b hb=>?_,fun b hb=>hp.f1 b (h.rel.zh b hb),aiH h.rel.big hp.big,fun b h1 h2=>?_,?_⟩,hp.lV,fun b hb=>?_⟩
 ·have:=h.rel.pos p hp' b hb
  refine ⟨fun hf=>?_,aiX this.2.1 hp.big,this.2.2⟩
  rcases (hp.f2 b hf).2 with h1 | h1 | h1
  ·exact this.1 h1
  ·exact (hap b h1).2.2.2 p hp' hb
  ·omega
 ·have:=hp.f2 b hb
  refine ⟨this.1,?_⟩
  rcases this.2 with h1 | h1 | h1
  ·exact (h.rel.fz b h1).2
  ·exact .inr (hap b h1).2.2.1
  ·exact .inr (.inr (aiH h.rel.big h1))
 ·rw [hp.ext b (aiX h1 h.rel.big) (fun hm=>?_)]
  ·exact h.rel.ext b h1 h2
  ·rcases (hap b hm).2.2.1 with h3 | h3
   ·exact h2 h3
   ·omega
 ·exact h.rel.kp.trans hp.kp
 ·obtain ⟨h1,h2,h3⟩:=hp.ap b hb
  refine ⟨h1,h2,?_,fun p hp' e=>?_⟩
  ·rcases h3 with h3 | h3
   ·exact (hap b h3).2.2.1
   ·exact .inr (aiH h.rel.big h3)
  ·rcases h3 with h3 | h3
   ·exact (hap b h3).2.2.2 p hp' e
   ·have:=(h.rel.pos p hp' b e).2.1
    omega
theorem DC {x:TV} {v:Value} {bx:List Nat} (h:mR Fz w x v bx) (hp:plain x = true):bx = []:=by
 cases x <;> first | exact h.2 | exact h | cases hp
theorem z8 : ∀ {xs:List TV} {vs:List Value} {bx:List Nat},kI Fz w xs vs bx → xs.all plain = true → bx = []
 | [],[],_,h,_=>h
 | x :: xs,v :: vs,_,⟨b1,b2,h1,h2,e⟩,hp=>by
  rw [List.all_cons,aiw] at hp
  rw [e,DC h1 hp.1,z8 h2 hp.2];rfl
 | [],_ :: _,_,h,_=>h.elim
 | _ :: _,[],_,h,_=>h.elim
theorem Fy {x:AV} {v:Value} {bx:List Nat} (h:oL Fz w x v bx) (hp:fH x = true):bx = []:=by
 cases x with
 | one x=>exact DC h hp
 | agg xs=>obtain ⟨cs,rfl,h⟩:=h;exact z8 h hp
theorem pz : ∀ {xs:List AV} {vs:List Value} {bx:List Nat},fB Fz w xs vs bx → xs.all fH = true → bx = []
 | [],[],_,h,_=>h
 | x :: xs,v :: vs,_,⟨b1,b2,h1,h2,e⟩,hp=>by
  rw [List.all_cons,aiw] at hp
  rw [e,Fy h1 hp.1,pz h2 hp.2];rfl
 | [],_ :: _,_,h,_=>h.elim
 | _ :: _,[],_,h,_=>h.elim
theorem Hr {x:TV} {v:Value} {bx:List Nat} (h:mR Fz w x v bx) (hp:KL x = false):mR bA w' x v [] ∧ bx = []:=by
 cases x with
 | f x =>
  obtain ⟨h1,h2⟩:=h
  refine ⟨⟨?_,rfl⟩,h2⟩
  cases x with
  | sl rows=>cases hp
  | _=>exact h1
 | _=>cases hp
theorem DF : ∀ {xs:List TV} {vs:List Value} {bx:List Nat},kI Fz w xs vs bx → xs.any KL = false → kI bA w' xs vs [] ∧ bx = []
 | [],[],_,h,_=>⟨rfl,h⟩
 | x :: xs,v :: vs,_,⟨b1,b2,h1,h2,e⟩,hp=>by
  rw [List.any_cons,aj4] at hp
  obtain ⟨g1,rfl⟩:=Hr h1 hp.1
  obtain ⟨g2,rfl⟩:=DF h2 hp.2
  exact ⟨⟨[],[],g1,g2,rfl⟩,e⟩
 | [],_ :: _,_,h,_=>h.elim
 | _ :: _,[],_,h,_=>h.elim
theorem Jr {x:AV} {v:Value} {bx:List Nat} (h:oL Fz w x v bx) (hp:vV x = false):oL bA w' x v [] ∧ bx = []:=by
 cases x with
 | one x=>exact Hr h hp
 | agg xs =>
  obtain ⟨cs,rfl,h⟩:=h
  obtain ⟨g1,g2⟩:=DF (bA:=bA) (w':=w') h hp
  exact ⟨⟨cs,rfl,g1⟩,g2⟩
theorem xB : ∀ {xs:List AV} {vs:List Value} {bx:List Nat},fB Fz w xs vs bx → xs.any vV = false → fB bA w' xs vs [] ∧ bx = []
 | [],[],_,h,_=>⟨rfl,h⟩
 | x :: xs,v :: vs,_,⟨b1,b2,h1,h2,e⟩,hp=>by
  rw [List.any_cons,aj4] at hp
  obtain ⟨g1,rfl⟩:=Jr h1 hp.1
  obtain ⟨g2,rfl⟩:=xB h2 hp.2
  exact ⟨⟨[],[],g1,g2,rfl⟩,e⟩
 | [],_ :: _,_,h,_=>h.elim
 | _ :: _,[],_,h,_=>h.elim
end
end
section
open Go
section
variable {P : Program} {Γ:Env} {aY Fz bA:Nat → Prop} {w0 w w':World} {aX bs YP:List Nat} {N:Fr} {d:Nat} {q:Bool} {κ eU:Nat → Value} {σ σ1 σ':St} {a:Act} {pv:PV} {o:Oper}
theorem sO (h:Rel aY w0 aX N Fz κ σ a w):∀ {xs:List Operand} {ys:List dH} {l:List CV},Bw xs = some ys → ji σ ys = some l → dL Fz κ w l (xs.map a.eval)
 | [],ys,l,hx,hv=>by cases hx;cases hv;trivial
 | x :: xs,ys,l,hx,hv=>by
  obtain ⟨y,h1,h2⟩:=zbm hx
  obtain ⟨m,h3,rfl⟩:=zmm h2
  obtain ⟨v,h4,h5⟩:=zbm hv
  obtain ⟨n,h6,rfl⟩:=zmm h5
  exact ⟨h.eval h1 h4,sO h h3 h6⟩
theorem dL.Dz : ∀ {xs:List CV} {vs:List Value},dL Fz κ w xs vs → ∃ jB,aN Fz κ w (xs.flatMap Ev.cells) jB ∧ ∀ (bA:Nat → Prop) (w':World) eU,aN bA eU w' (xs.flatMap Ev.cells) jB → dL bA eU w' xs vs
 | [],[],_=>⟨[],trivial,fun _ _ _ _=>trivial⟩
 | x :: xs,v :: vs,h=>by
  obtain ⟨jB,h1,h2⟩:=dL.Dz h.2
  refine ⟨Ev.Dz x v ++ jB,by rw [ajZ];exact h.1.Dz.app h1,fun F' w' eU hr=>?_⟩
  rw [ajZ] at hr
  obtain ⟨g1,g2⟩:=hr.BQ (by have:=h.1.Dz.length;omega)
  exact ⟨fP.Lh (fun ys hy=>by have:=h.1;rw [hy] at this;obtain ⟨cs,h,_⟩:=this;exact ⟨cs,h⟩) g1,h2 F' w' eU g2⟩
 | [],_ :: _,h=>h.elim
 | _ :: _,[],h=>h.elim
theorem Ht {xs:List CV} {vs:List Value} (h:dL Fz κ w xs vs):iC Fz κ w (Jl xs) (ret vs):=by
 match xs,vs,h with
 | [],[],h=>exact ⟨_,rfl,h⟩
 | [x],[v],h=>exact h.1
 | x :: y :: xs,v :: u :: vs,h=>exact ⟨_,rfl,h⟩
theorem Ll {gv:Bool} {xs:List CV} (h:xs.any (fun x=>(Ev.cells x).any fZ) = false) (b:Nat):¬ sK gv κ (xs.flatMap Ev.cells) b:=by
 rintro ⟨_,k,n,hm,_⟩
 obtain ⟨x,hx,hm⟩:=List.mem_flatMap.mp hm
 have:xs.any (fun x=>(Ev.cells x).any fZ) = true:=ajk.mpr ⟨x,hx,ajk.mpr ⟨_,hm,rfl⟩⟩
 rw [h] at this;cases this
theorem jg.fz {sz:Nat} {rows:List (List FV)} {v:Value} {bx:List Nat} (h:jg Fz w sz rows v bx) (hf:∀ b,Fz b → bA b) (hb:∀ b ∈ bx,bA b):fu bA w (.sl rows) v:=by
 have hrow:=jg.row (κ:=fun _=>undef) (key:=0) (B:=0) rfl h
 have hbx:bx = oK v:=h.2.choose_spec.choose_spec.choose_spec.choose_spec.2.2.2
 have:=rA (bA:=bA) hf (fun b hk=>hb b (by rw [bL] at hk;rw [hbx,oK,hk];simp)) hrow
 rwa [bL] at this
theorem fB.fz : ∀ {xs:List AV} {vs:List Value} {bs:List Nat},fB Fz w xs vs bs → ∃ bf bk:List Nat,bk.Sublist bs ∧ (∀ b ∈ bf,b ∈ bs) ∧ (bs.Nodup → ∀ b ∈ bf,b ∉ bk) ∧ ∀ bA:Nat → Prop,(∀ b,Fz b → bA b) → (∀ b ∈ bf,bA b) → fB bA w (xs.map O5) vs bk
 | [],[],_,h=>⟨[],[],by cases h;exact aj3 _,by simp,by simp,fun _ _ _=>rfl⟩
 | x :: xs,v :: vs,bs,⟨b1,b2,h1,h2,e⟩=>by
  subst e
  obtain ⟨bf,bk,g1,g2,g3,g4⟩:=fB.fz h2
  by_cases hx:∃ sz rows,x = .one (.own sz rows)
  ·obtain ⟨sz,rows,rfl⟩:=hx
   refine ⟨b1 ++ bf,bk,g1.trans (List.sublist_append_right _ _),fun b hb=>?_,fun hn b hb hk=>?_,fun F hf hbf=>⟨[],bk,⟨jg.fz h1 hf fun b hb=>hbf b (by simp [hb]),rfl⟩,g4 F hf fun b hb=>hbf b (by simp [hb]),rfl⟩⟩
   ·rcases aiN.mp hb with hb | hb
    ·simp [hb]
    ·simp [g2 b hb]
   ·have hn':=ajM.mp hn
    rcases aiN.mp hb with hb | hb
    ·exact hn'.2.2 b hb b (g1.subset hk) rfl
    ·exact g3 hn'.2.1 b hb hk
  ·have hfz:O5 x = x:=by
    cases x with
    | one y=>cases y <;> first | rfl | exact absurd ⟨_,_,rfl⟩ hx
    | agg _=>rfl
   refine ⟨bf,b1 ++ bk,List.Sublist.append (aj3 _) g1,fun b hb=>by simp [g2 b hb],fun hn b hb hk=>?_,fun F hf hbf=>⟨b1,bk,?_,g4 F hf hbf,rfl⟩⟩
   ·have hn':=ajM.mp hn
    rcases aiN.mp hk with hk | hk
    ·exact hn'.2.2 b hk b (g2 b hb) rfl
    ·exact g3 hn'.2.1 b hb hk
   ·rw [hfz];exact h1.mono hf (fun _ _=>rfl) (fun _ _=>rfl)
 | [],_ :: _,_,h=>h.elim
 | _ :: _,[],_,h=>h.elim
theorem Sat.Uu {f:FuncId} {g:List AV → Option (List AV × List AV)} (h:Sat P f g):Sat P f (fun d9=>(g d9).map (Ev.Uu q)):=by
 cases q with
 | false =>
  intro d9 rs pq hg
  obtain ⟨r,h1,h2⟩:=zmm hg
  have:r = (rs,pq):=h2
  subst this
  exact h d9 rs pq h1
 | true =>
  intro d9 rs pq hg Fz w vals bs ha hn hb hf
  obtain ⟨r,h1,h2⟩:=zmm hg
  have e1:r.1.map O5 = rs:=aiK Prod.fst h2
  have e2:r.2 = pq:=aiK Prod.snd h2
  subst e1;subst e2
  refine Calls.mono (h d9 r.1 r.2 h1 Fz w vals bs ha hn hb hf) ?_
  rintro e w' ⟨bA,sN,b1,b2,rfl,hp⟩
  obtain ⟨bf,bk,g1,g2,g3,g4⟩:=fB.fz hp.rs
  have hnd:=ajM.mp hp.lV
  refine ⟨fun b=>bA b ∨ b ∈ bf,sN,b1,bk,rfl,fun b hb=>.inl (hp.f1 b hb),fun b hb=>?_,hp.big,hp.ext,hp.kp,hp.bk.mono (fun b hb=>.inl hb) (fun _ _=>rfl) (fun _ _=>rfl),g4 _ (fun b hb=>.inl hb) (fun b hb=>.inr hb),List.Sublist.nodup (List.Sublist.append (aj3 _) g1) hp.lV,fun b hb=>?_⟩
  ·rcases hb with hb | hb
   ·exact hp.f2 b hb
   ·have:=hp.ap b (by simp [g2 b hb])
    exact ⟨this.2.1,.inr this.2.2⟩
  ·have hm:b ∈ b1 ++ b2:=by
    rcases aiN.mp hb with hb | hb
    ·simp [hb]
    ·simp [g1.subset hb]
   have:=hp.ap b hm
   refine ⟨fun hor=>?_,this.2⟩
   rcases hor with h1 | h1
   ·exact this.1 h1
   ·rcases aiN.mp hb with hb | hb
    ·exact hnd.2.2 b hb b (g2 b h1) rfl
    ·exact g3 hnd.2.1 b h1 hb
theorem Aa {gv:Bool} (kJ:gW P Γ) (h:Rel aY w0 aX N Fz κ σ a w) {f:FuncId} {mP:List CV} {vals:List Value} (hv:dL Fz κ w mP vals) (hE:kL Γ gv q σ d f mP = some (pv,σ')) :
  Calls P f vals.toArray w fun e w'=>∃ v bA eU,e = .returned v ∧ Good aY w0 aX N q d Fz κ σ a w bA eU σ' w' pv v:=by
 unfold kL at hE
 obtain ⟨p,h1,hE⟩:=zbm hE
 obtain ⟨r,h2,hE⟩:=zbm hE
 split at hE
 ·cases hE
 split at hE
 ·cases hE
 rename_i hq1 hq2
 obtain ⟨s1,h3,hE⟩:=zbm hE
 obtain ⟨s2,h4,hE⟩:=zbm hE
 obtain ⟨u,h5,h6⟩:=zmm hE
 cases h6
 obtain ⟨F1,bx,e1,e2,e3⟩:=BN h.x hv h1
 rw [ajm] at e1
 have elt:=Hl h.x hv h1
 obtain ⟨jB,l1,l2⟩:=hv.Dz
 have YR:=(Sat.Uu (q:=q) (kJ f)) p.1 r.1 r.2 h2
 have fin:∀ {F2:Nat → Prop} {w':World} {sN:List Value} {b1 b2:List Nat},(∀ b,Fz b → F2 b) → (∀ b,Fz b → w'.heap[b]? = w.heap[b]?) → bO aY w0 aX N (b1 ++ b2) F2 κ s1 a w' → fB F2 w' r.2 vals b1 → fB F2 w' r.1 sN b2 →
   ∃ v bA eU,Ending.returned (ret sN) = .returned v ∧ Good aY w0 aX N q d Fz κ σ a w bA eU u.2 w' (Jl u.1) v:=by
  intro F2 w' sN b1 b2 hf hw hx hb hr
  have YS:aN F2 κ w' (mP.flatMap Ev.cells) jB:=aN.mono hf hw _ (fun _ _=>rfl) _ l1
  have key:∃ zA,bO aY w0 aX N (b2 ++ []) F2 zA s2 a w' ∧ ∀ k,k % 2 = 1 → zA k = κ k:=by
   rw [ajm]
   split at h4
   ·cases h4
    exact ⟨κ,hx.sub,fun _ _=>rfl⟩
   ·obtain ⟨zA,g1,g2,g3⟩:=Hq (by unfold dx;omega) hx hb YS (fun eU hk=>l2 F2 w' eU hk) h4
    exact ⟨zA,g1,g3⟩
  obtain ⟨zA,g1,g2⟩:=key
  obtain ⟨Fx,g3,g4,_,g5⟩:=BR (Kp:=fun k=>k % 2 = 0) (fun k hk=>by omega) (fun k c hk=>by omega) (by unfold dx;omega) g1 hr (show aN F2 zA w' [] [] from trivial) h5
  exact ⟨_,F2,Fx,rfl,g3.rel,Ht g4,hf,fun k hk=>(g5 k (by omega)).trans (g2 k hk)⟩
 have call:∀ {F2:Nat → Prop},(∀ b,F1 b → F2 b) → bO aY w0 aX N bx F2 κ s1 a w → fB F2 w p.1 vals bx → Calls P f vals.toArray w fun e w'=>∃ v bA eU,e = .returned v ∧ Good aY w0 aX N q d Fz κ σ a w bA eU u.2 w' (Jl u.1) v:=by
  intro F2 hf hx ha
  refine Calls.mono (YR F2 w vals bx ha hx.lV (fun b hb=>⟨(hx.ap b hb).1,(hx.ap b hb).2.1⟩) (fun b hb=>(hx.rel.fz b hb).1)) ?_
  rintro e w' ⟨F3,sN,b1,b2,rfl,hp⟩
  refine fin (fun b hb=>hp.f1 b (hf b (e2 b hb))) (fun b hb=>?_) (hx.called hp) hp.bk hp.rs
  exact hp.ext b (h.fz b hb).1 (fun hm=>(hx.ap b hm).1 (hf b (e2 b hb)))
 cases gv with
 | true =>
  rw [ajQ,Bool.false_and,ain (by decide)] at h3
  cases h3
  exact call (fun _ h=>h) e1 (e3.mono (fun b hb=>hb.resolve_right (fun hl=>by cases hl.1)) (fun _ _=>rfl) (fun _ _=>rfl))
 | false =>
 rw [Bool.not_false,Bool.true_and] at h3
 split at h3
 ·obtain ⟨F2,g1,g2,g3⟩:=Dy e1 h3
  refine call g2 g1 (e3.mono (fun b hb=>?_) (fun _ _=>rfl) (fun _ _=>rfl))
  rcases hb with hb | hb
  ·exact g2 b hb
  ·exact g3 b hb
 ·rename_i hfr
  cases h3
  rw [aiw,Decidable.not_and_iff_or_not] at hfr
  by_cases hown:mP.any (fun x=>(Ev.cells x).any fZ) = true
  ·rcases hfr with hfr | hfr
   ·rw [ajh,not_or] at hfr
    have ad6:r.1.any vV = false:=any_false hfr.1
    have hpl:p.1.all fH = true:=by simpa using hfr.2
    have hbx:=pz e3 hpl
    subst hbx
    refine Calls.mono (YR (fun b=>F1 b ∨ sK false κ (mP.flatMap Ev.cells) b) w vals [] e3 ajY (fun b hb=>by simp at hb) (fun b hb=>?_)) ?_
    ·rcases hb with hb | hb
     ·exact (e1.rel.fz b hb).1
     ·exact elt b hb
    ·rintro e w' ⟨F3,sN,b1,b2,rfl,hp⟩
     have hg:=e1.rel.grow hp.big (fun b hb=>hp.ext b hb (by simp)) hp.kp
     obtain ⟨n1,_⟩:=xB (bA:=F1) (w':=w') hp.rs ad6
     rw [ail hpl] at h4
     cases h4
     obtain ⟨Fx,g3,g4,_,g5⟩:=BR (Kp:=fun k=>k % 2 = 0) (fun k hk=>by omega) (fun k c hk=>by omega) (by unfold dx;omega) (bx:=[]) (bs:=[]) hg.x n1 (show aN F1 κ w' [] [] from trivial) h5
     exact ⟨_,F1,Fx,rfl,g3.rel,Ht g4,e2,fun k hk=>g5 k (by omega)⟩
   ·exact absurd hown hfr
  ·have hno:mP.any (fun x=>(Ev.cells x).any fZ) = false:=any_false hown
   exact call (fun _ h=>h) e1 (e3.mono (fun b hb=>hb.resolve_right (Ll hno b)) (fun _ _=>rfl) (fun _ _=>rfl))
theorem Lm {x:PL} {y:TV} {gv:Bool} (h:avT x = some y):ru gv σ x = some (y,σ) ∧ plain y = true ∧ fZ x = false:=by
 cases x <;> first | (cases h;exact ⟨rfl,rfl,rfl⟩) | cases h
theorem Hu {gv:Bool}:∀ {xs:List PL} {ys:List TV},O6 xs = some ys → rz gv σ xs = some (ys,σ) ∧ ys.all plain = true ∧ xs.any fZ = false
 | [],ys,h=>by cases h;exact ⟨rfl,rfl,rfl⟩
 | x :: xs,ys,h=>by
  obtain ⟨y,h1,h2⟩:=zbm h
  obtain ⟨l,h3,rfl⟩:=zmm h2
  obtain ⟨e1,e2,e3⟩:=Lm (σ:=σ) (gv:=gv) h1
  obtain ⟨g1,g2,g3⟩:=Hu (gv:=gv) h3
  exact ⟨by unfold rz;rw [e1];simp only [Option.bind_some,g1,Option.map_some],by simp only [List.all_cons,e2,g2,Bool.and_self],by simp only [List.any_cons,e3,g3,Bool.or_self]⟩
theorem Hw {gv:Bool}:∀ {xs:List CV} {ys:List AV},KM xs = some ys → rW gv σ xs = some (ys,σ) ∧ ys.all fH = true ∧ xs.any (fun x=>(Ev.cells x).any fZ) = false
 | [],ys,h=>by cases h;exact ⟨rfl,rfl,rfl⟩
 | x :: xs,ys,h=>by
  obtain ⟨y,h1,h2⟩:=zbm h
  obtain ⟨l,h3,rfl⟩:=zmm h2
  have key:Kz gv σ x = some (y,σ) ∧ fH y = true ∧ (Ev.cells x).any fZ = false:=by
   cases x with
   | one x =>
    obtain ⟨z,h4,rfl⟩:=zmm h1
    obtain ⟨e1,e2,e3⟩:=Lm (σ:=σ) (gv:=gv) h4
    exact ⟨by show Option.map _ (ru gv σ x) = _;rw [e1];rfl,e2,by simp only [Ev.cells,List.any_cons,e3,List.any_nil,Bool.or_self]⟩
   | agg xs =>
    obtain ⟨z,h4,rfl⟩:=zmm h1
    obtain ⟨e1,e2,e3⟩:=Hu (σ:=σ) (gv:=gv) h4
    exact ⟨by show Option.map _ (rz gv σ xs) = _;rw [e1];rfl,e2,e3⟩
  obtain ⟨e1,e2,e3⟩:=key
  obtain ⟨g1,g2,g3⟩:=Hw (gv:=gv) h3
  exact ⟨by unfold rW;rw [e1];simp only [Option.bind_some,g1,Option.map_some],by simp only [List.all_cons,e2,g2,Bool.and_self],by simp only [List.any_cons,e3,g3,Bool.or_self]⟩
theorem FB (kJ:gW P Γ) (h:Rel aY w0 aX N Fz κ σ a w) {f:FuncId} {mP:List CV} {vals:List Value} (hv:dL Fz κ w mP vals) (hE:rY Γ σ d f mP = some (pv,σ')) :
  Calls P f vals.toArray w fun e w'=>∃ v bA eU,e = .returned v ∧ Good aY w0 aX N q d Fz κ σ a w bA eU σ' w' pv v:=by
 unfold rY at hE
 obtain ⟨d9,h1,hE⟩:=zbm hE
 obtain ⟨r,h2,hE⟩:=zbm hE
 obtain ⟨p,h3,hE⟩:=zbm hE
 obtain ⟨s',h4,h5⟩:=zmm hE
 obtain ⟨rfl,rfl⟩:=Prod.mk.inj h5
 obtain ⟨g1,g2,g3⟩:=Hw (σ:=σ) (gv:=false) h1
 obtain ⟨F1,bx,e1,e2,e3⟩:=BN h.x hv g1
 rw [ajm] at e1
 have hbx:=pz e3 g2
 subst hbx
 have ha:fB F1 w d9 vals []:=e3.mono (fun b hb=>hb.resolve_right (Ll g3 b)) (fun _ _=>rfl) (fun _ _=>rfl)
 refine Calls.mono (kJ f d9 r.1 r.2 h2 F1 w vals [] ha ajY (fun b hb=>by simp at hb) (fun b hb=>(e1.rel.fz b hb).1)) ?_
 rintro e w' ⟨F3,sN,b1,b2,rfl,hp⟩
 have hx:=e1.called hp
 obtain ⟨rs,bk⟩:=r
 have hr:=hp.rs
 simp only at h3 hr
 match rs,h3 with
 | [.one (.own sz rows)],h3 =>
  cases h3
  match sN,hr with
  | [v],⟨c1,c2,k1,k2,k3⟩ =>
   have:c2 = []:=k2
   subst this
   rw [ajm] at k3
   subst k3
   obtain ⟨m1,m2,m3⟩:=bO.Le (bs:=[]) (pend:=[]) (jB:=[]) (by rw [ajm];exact hx.sub) (show aN F3 κ w' [] [] from trivial) (show newP [] σ (dx d) (.row sz rows) = some s' from h4) k1
   exact ⟨v,F3,oP κ (dx d) v,rfl,m1.rel,m3,fun b hb=>hp.f1 b (e2 b hb),fun k hk=>eF (by unfold dx;omega) _⟩
theorem oI {f:FuncId} {fn:Func} {args:Array Value} (hf:P.funcs[f]? = some fn) (hn:(fn.name == "runtime.NumGoroutine") = false) (hb:fn.body.isSome = true):(callFunc f args).run P w = .ok (.enter f args) w:=by
 unfold callFunc
 have hb':fn.body.isNone = false:=by cases h:fn.body <;> simp_all
 rw [Sem.run_bind,show (program:Sem Program).run P w = .ok P w from rfl]
 simp only [Result.andThen_ok,hf,hn,hb',aiO,aiJ]
 rfl
theorem Js {X:Hx} {i:I} (hc:sF P X o = some i):∃ c l,o.op = .call c ∧ Bw c.args.toList = some l ∧
  ((∃ fn f,(i = .call (X.gv.contains f) f l ∨ i = .zl f l) ∧ c.callee = .value (.func f) ∧ P.funcs[f]? = some fn ∧ (fn.name == "runtime.NumGoroutine") = false ∧ fn.body.isSome = true) ∨ ∃ t,i = .dyn (.t t) l ∧ c.callee = .value (.tmp t)):=by
 unfold sF at hc
 split at hc
 ·rename_i c ho
  split at hc
  ·rename_i f nY
   split at hc
   ·rename_i fn hf
    split at hc
    ·rename_i hh
     obtain ⟨l,h1,rfl⟩:=zmm hc
     refine ⟨c,l,ho,h1,.inl ⟨fn,f,?_,nY,hf,hh.1,hh.2⟩⟩
     split
     ·exact .inr rfl
     ·exact .inl rfl
    ·cases hc
   ·cases hc
  ·rename_i t nY
   obtain ⟨l,h1,rfl⟩:=zmm hc
   exact ⟨c,l,ho,h1,.inr ⟨t,rfl,nY⟩⟩
  ·cases hc
 ·cases hc
def dI (P:Program) (Γ:Env):Prop:=∀ f d9 r,Γ f d9 = some r → ∃ fn,P.funcs[f]? = some fn ∧ (fn.name == "runtime.NumGoroutine") = false ∧ fn.body.isSome = true
theorem nC.K4 : ∀ {caps:List (List FV)} {cs:List Value},nC Fz w caps cs → dL Fz κ w (caps.map fun c=>CV.one (.fp c)) cs
 | [],[],_=>trivial
 | c :: caps,v :: cs,h=>⟨h.1,nC.K4 h.2⟩
 | [],_ :: _,h=>h.elim
 | _ :: _,[],h=>h.elim
theorem dL.app : ∀ {xs ys:List CV} {us vs:List Value},dL Fz κ w xs us → dL Fz κ w ys vs → dL Fz κ w (xs ++ ys) (us ++ vs)
 | [],ys,[],vs,_,h=>h
 | x :: xs,ys,u :: us,vs,h,h'=>⟨h.1,dL.app h.2 h'⟩
 | [],_,_ :: _,_,h,_=>h.elim
 | _ :: _,_,[],_,h,_=>h.elim
theorem vX {gv:Bool} (hC:dI P Γ) {f:FuncId} {mP:List CV} (hE:kL Γ gv q σ d f mP = some (pv,σ')):∃ fn,P.funcs[f]? = some fn ∧ (fn.name == "runtime.NumGoroutine") = false ∧ fn.body.isSome = true:=by
 unfold kL at hE
 obtain ⟨p,h1,hE⟩:=zbm hE
 obtain ⟨r,h2,hE⟩:=zbm hE
 obtain ⟨r',h2,_⟩:=zmm h2
 exact hC f _ _ h2
theorem YT {X:Hx} (heq:∀ t ∈ X.eqs,lg P t) (kJ:gW P Γ) (hC:dI P Γ) (h:Rel aY w0 aX N Fz κ σ a w) {i:I} (hc:sG P X o = some i) (hE:bV Γ q σ d i = some (pv,σ')) {K:Act → World → Prop} {Q:Exit → Act → World → Prop}
  (hK:∀ v bA eU w',Good aY w0 aX N q d Fz κ σ a w bA eU σ' w' pv v → K (a.put o.dst v) w'):o.wp P a w K Q:=by
 unfold sG at hc
 split at hc
 ·rename_i i' hcc
  cases hc
  have SC:∀ c:Call,c.args.map a.eval = (c.args.toList.map a.eval).toArray:=fun c=>by rw [← ajz,Array.toArray_toList]
  have fin:∀ {f:FuncId} {fn:Func} {vals:List Value},P.funcs[f]? = some fn → (fn.name == "runtime.NumGoroutine") = false → fn.body.isSome = true → (Calls P f vals.toArray w fun e w'=>∃ v bA eU,e = .returned v ∧ Good aY w0 aX N q d Fz κ σ a w bA eU σ' w' pv v) → (execOp a.eval o).run P w = (callFunc f vals.toArray).run P w → o.wp P a w K Q:=by
   intro f fn vals hf hn hb FD hrun
   unfold Oper.wp
   rw [hrun,oI hf hn hb,Oper.upon_enter]
   refine Calls.mono FD ?_
   rintro e w' ⟨v,bA,eU,rfl,hg⟩
   exact hK v bA eU w' hg
  obtain ⟨c,l,ho,hargs,⟨fn,f,hi,nY,hf,hn,hb⟩ | ⟨t,rfl,nY⟩⟩:=Js hcc
  ·have FD:Calls P f (c.args.toList.map a.eval).toArray w fun e w'=>∃ v bA eU,e = .returned v ∧ Good aY w0 aX N q d Fz κ σ a w bA eU σ' w' pv v:=by
    rcases hi with rfl | rfl
    ·obtain ⟨mP,h1,h2⟩:=zbm hE
     exact Aa kJ h (sO h hargs h1) h2
    ·obtain ⟨mP,h1,h2⟩:=zbm hE
     exact FB kJ h (sO h hargs h1) h2
   refine fin hf hn hb FD ?_
   unfold execOp resolve
   simp only [ho,nY,SC,Sem.run_bind]
   show (do let d ← Deferred.ofValue (a.eval (.func f)) (c.args.toList.map a.eval).toArray;invoke d.target d.args:Sem Next).run P w = _
   have hd:Deferred.ofValue (a.eval (.func f)) (c.args.toList.map a.eval).toArray = pure { target:=.fn (.func f) #[],args:=#[] ++ (c.args.toList.map a.eval).toArray }:=rfl
   rw [hd]
   simp only [Sem.run_bind,Sem.run_pure,Result.andThen_ok,invoke,Array.empty_append,Array.append_empty]
  ·obtain ⟨v,h1,h2⟩:=zbm hE
   have hv:=h.eval (x:=.tmp t) rfl h1
   split at h2
   ·rename_i f caps
    obtain ⟨mP,h3,h4⟩:=zbm h2
    obtain ⟨cs,e1,e2⟩:=hv
    obtain ⟨fn,hf,hn,hb⟩:=vX hC h4
    refine fin hf hn hb (Aa kJ h ((sO h hargs h3).app e2.K4) h4) ?_
    unfold execOp resolve
    simp only [ho,nY,SC,Sem.run_bind]
    rw [e1]
    have hd:Deferred.ofValue (.func (.func f) #[] cs.toArray) (c.args.toList.map a.eval).toArray = pure { target:=.fn (.func f) cs.toArray,args:=#[] ++ (c.args.toList.map a.eval).toArray }:=rfl
    rw [hd]
    simp only [Sem.run_bind,Sem.run_pure,Result.andThen_ok,invoke,Array.empty_append,List.append_toArray,List.nil_append]
   ·cases h2
 ·split at hc
  ·rename_i i' hc0
   split at hc
   ·cases hc
   ·rename_i hi
    cases hc
    obtain ⟨r,w',eU,bA,v,h1,h2,h3⟩:=Lc heq h hc0 (ai6.mpr hi) hE
    unfold Oper.wp
    rw [h1]
    rcases h2 with rfl | ⟨rfl,rfl⟩
    ·exact hK v bA eU w' h3
    ·exact hK undef bA eU w' h3
  ·cases hc
end
end
section
open Go
def Ok (aY:Nat → Prop) (w0:World) (aX:List Nat) (N:Fr) (iJ:Nat → Value) (σ:St) (a:Act) (w:World):Prop:=∃ Fz κ,Rel aY w0 aX N Fz κ σ a w ∧ ∀ k,k % 2 = 1 → κ k = iJ k
section
variable {P : Program} {Γ:Env} {aY:Nat → Prop} {w0 w w':World} {aX:List Nat} {N:Fr} {d:Nat} {q:Bool} {iJ:Nat → Value} {σ σ1 σ':St} {a:Act} {pv:PV} {o:Oper} {X:Hx} {ops:Array Oper}
theorem DI {Fz:Nat → Prop} {κ:Nat → Value} (h:Rel aY w0 aX N Fz κ σ a w) {t:Bool} (hg:zq σ (o.guard.map fun p=>((ops[p.1]?).bind (·.dst),p.2)) = some t):Region.wanted o (yielded ops a.tmps) = t:=by
 unfold Region.wanted
 cases hgu:o.guard with
 | none=>rw [hgu] at hg;cases hg;rfl
 | some p =>
  obtain ⟨j,want⟩:=p
  rw [hgu] at hg
  simp only [Option.map_some] at hg
  simp only [yielded]
  cases hd:(ops[j]?).bind (·.dst) with
  | none=>rw [hd] at hg;cases hg;rfl
  | some s =>
   rw [hd] at hg
   simp only [Option.bind_some]
   simp only [zq] at hg
   split at hg
   ·rename_i b hb
    cases hg
    have hv:a.tmps.getD s undef = .bool b:=h.val hb
    rw [ai5] at hv
    cases ht:a.tmps[s]? with
    | none=>rw [ht] at hv;cases hv
    | some v =>
     rw [ht] at hv
     simp only [Option.getD_some] at hv
     subst hv
     cases b <;> cases want <;> rfl
   ·rename_i hb
    cases hg
    have hv:a.tmps.getD s undef = undef:=h.val hb
    rw [ai5] at hv
    cases ht:a.tmps[s]? with
    | none=>rfl
    | some v =>
     rw [ht] at hv
     simp only [Option.getD_some] at hv
     subst hv
     rfl
   ·cases hg
theorem wF (heq:∀ t ∈ X.eqs,lg P t) (kJ:gW P Γ) (hC:dI P Γ) {g:G} (hg:sH P X ops N.ok o = some g) (h:Ok aY w0 aX N iJ σ a w) (hE:l6 Γ q σ g = some (pv,σ')) {K:Act → World → Prop} {Q:Exit → Act → World → Prop}
  (hK:∀ a' w',Ok aY w0 aX N iJ (qI σ' g.dst pv) a' w' → K a' w'):if Region.wanted o (yielded ops a.tmps) then o.wp P a w K Q ∨ (o.asks P a w ∧ LetsOut Q) else K (a.put o.dst undef) w:=by
 obtain ⟨Fz,κ,h,hk⟩:=h
 obtain ⟨i,h1,h2⟩:=zbm hg
 split at h2
 ·rename_i hd
  cases h2
  obtain ⟨t,h3,h4⟩:=zbm hE
  have hput:∀ {bA eU w' pv v s},Rel aY w0 aX N bA eU s a w' → iC bA eU w' pv v → Rel aY w0 aX N bA eU (qI s o.dst pv) (a.put o.dst v) w':=by
   intro bA eU w' pv v s hr hv
   cases hdst:o.dst with
   | none=>exact hr.KT v
   | some d =>
    rw [hdst] at hd
    exact hr.put (by simpa using hd) hv
  rw [DI h h3]
  cases t with
  | true =>
   rw [ail rfl]
   left
   rw [ail rfl] at h4
   refine YT heq kJ hC h h1 h4 ?_
   intro v bA eU w' hg
   exact hK _ _ ⟨bA,eU,hput hg.rel hg.val,fun k hk'=>(hg.e6 k hk').trans (hk k hk')⟩
  | false =>
   rw [ain (by decide)]
   rw [ain (by decide)] at h4
   cases h4
   exact hK _ _ ⟨Fz,κ,hput h rfl,hk⟩
 ·cases h2
theorem BS (heq:∀ t ∈ X.eqs,lg P t) (kJ:gW P Γ) (hC:dI P Γ) {g:G} (hg:sH P X ops N.ok o = some g) (h:Ok aY w0 aX N iJ σ a w) (hE:OQ Γ q σ g = some σ') {K:Act → World → Prop} {Q:Exit → Act → World → Prop}
  (hK:∀ a' w',Ok aY w0 aX N iJ σ' a' w' → K a' w'):if Region.wanted o (yielded ops a.tmps) then o.wp P a w K Q ∨ (o.asks P a w ∧ LetsOut Q) else K (a.put o.dst undef) w:=by
 obtain ⟨p,h1,h2⟩:=zmm hE
 subst h2
 exact wF heq kJ hC hg h h1 hK
theorem Lp (heq:∀ t ∈ X.eqs,lg P t) (kJ:gW P Γ) (hC:dI P Γ) {Q:Exit → Act → World → Prop}:∀ {l:List Oper} {gs:List G} {σ:St} {a:Act} {w:World},jW P X ops N.ok l = some gs → Ok aY w0 aX N iJ σ a w → vW Γ q gs σ = some σ' → (∀ a' w',Ok aY w0 aX N iJ σ' a' w' → Q .normal a' w') → wpList P ops Q l a w
 | [],gs,σ,a,w,hc,h,hE,hQ=>by cases hc;cases hE;exact hQ a w h
 | o :: l,gs,σ,a,w,hc,h,hE,hQ=>by
  obtain ⟨g,h1,h2⟩:=zbm hc
  obtain ⟨r,h3,rfl⟩:=zmm h2
  obtain ⟨s,h4,h5⟩:=zbm hE
  exact BS heq kJ hC h1 h h4 (fun a' w' h'=>Lp heq kJ hC h3 h' h5 hQ)
end
end
section
open Go
def Pv : I → Bool
 | .alloc _ _=>false
 | .box _ _=>false
 | .wK _ _ _ _ _=>false
 | .OP _ _ _ _ _=>false
 | .zl _ _=>false
 | .store _ _ _=>false
 | .oQ _=>false
 | .wM _ _ _ _=>false
 | .del _ _ _=>false
 | .app _ _ _ _ _=>false
 | .Sn _ _ _=>false
 | _=>true
def jo : dH → List Nat
 | .t i=>[i]
 | .k _=>[]
def FE : Option dH → List Nat
 | none=>[]
 | some x=>jo x
def YU (ps:List (Nat × Nat × dH)):List Nat:=ps.flatMap fun p=>jo p.2.2
def mY : I → List Nat
 | .mv x=>jo x
 | .pick c x y=>jo c ++ jo x ++ jo y
 | .alloc _ _=>[]
 | .box _ x=>jo x
 | .build _ ps=>YU ps
 | .wK _ _ _ _ ps=>YU ps
 | .OP _ _ _ _ ps=>YU ps
 | .load _ _ x=>jo x
 | .store _ x v=>jo x ++ jo v
 | .gP x=>jo x
 | .wL _ x=>jo x
 | .ar _ x y=>jo x ++ jo y
 | .cmp _ x y=>jo x ++ jo y
 | .q9 _ _ x y=>jo x ++ jo y
 | .cat x y=>jo x ++ jo y
 | .no x=>jo x
 | .ci _ x=>jo x
 | .mP x=>jo x
 | .oQ _=>[]
 | .Jg x lo hi=>jo x ++ FE lo ++ FE hi
 | .cut _ x lo hi=>jo x ++ FE lo ++ FE hi
 | .fa _ x=>jo x
 | .Xl _ _ _ x=>jo x
 | .ia _ x i=>jo x ++ jo i
 | .idx _ _ _ x i=>jo x ++ jo i
 | .chr x i=>jo x ++ jo i
 | .look _ _ _ x k=>jo x ++ jo k
 | .wM _ x k v=>jo x ++ jo k ++ jo v
 | .del _ x k=>jo x ++ jo k
 | .ext x _=>jo x
 | .wN x=>jo x
 | .gQ x=>jo x
 | .Jh x=>jo x
 | .app _ _ _ x y=>jo x ++ jo y
 | .mn x y=>jo x ++ jo y
 | .mx x y=>jo x ++ jo y
 | .call _ _ xs=>xs.flatMap jo
 | .zl _ xs=>xs.flatMap jo
 | .zm _ x=>jo x
 | .bit _ x y=>jo x ++ jo y
 | .Us _ x y=>jo x ++ jo y
 | .OZ _ xs=>xs.flatMap jo
 | .dyn x xs=>jo x ++ xs.flatMap jo
 | .Dk _ x y=>jo x ++ jo y
 | .cutV _ x y=>jo x ++ jo y
 | .Sn _ _ x=>jo x
 | .Xm x=>jo x
section
variable {Γ : Env} {d:Nat} {σ σ2 σ':St} {pv:PV}
def Same (l:List Nat) (σ σ2:St):Prop:=∀ s ∈ l,get σ2.tm s = get σ.tm s
theorem Same.l {l m:List Nat} (h:Same (l ++ m) σ σ2):Same l σ σ2:=fun s hs=>h s (by simp [hs])
theorem Same.r {l m:List Nat} (h:Same (l ++ m) σ σ2):Same m σ σ2:=fun s hs=>h s (by simp [hs])
theorem Same.val {x:dH} (h:Same (jo x) σ σ2):Ev.val σ2 x = Ev.val σ x:=by
 cases x with
 | t i=>simp only [Ev.val];rw [h i (by simp [jo])]
 | k x=>rfl
theorem Same.rZ {x:dH} (h:Same (jo x) σ σ2):Ev.rZ σ2 x = Ev.rZ σ x:=by
 cases x with
 | t i=>simp only [Ev.rZ];rw [h i (by simp [jo])]
 | k x=>rfl
theorem Same.vals : ∀ {ps:List (Nat × Nat × dH)},Same (YU ps) σ σ2 → Ev.vals σ2 ps = Ev.vals σ ps
 | [],_=>rfl
 | (o,n,x) :: ps,h=>by
  unfold YU at h
  rw [ajZ] at h
  unfold Ev.vals
  rw [h.l.val,Same.vals h.r]
theorem Same.ji : ∀ {xs:List dH},Same (xs.flatMap jo) σ σ2 → Ev.ji σ2 xs = Ev.ji σ xs
 | [],_=>rfl
 | x :: xs,h=>by
  rw [ajZ] at h
  unfold Ev.ji
  rw [h.l.val,Same.ji h.r]
theorem Same.bnd {x:Option dH} {n m:Nat} (h:Same (FE x) σ σ2):Ev.bnd σ2 n x m = Ev.bnd σ n x m:=by
 cases x with
 | none=>rfl
 | some x=>simp only [Ev.bnd];rw [Same.val h]
theorem Same.rng {lo hi:Option dH} {n:Nat} (hl:Same (FE lo) σ σ2) (hh:Same (FE hi) σ σ2):Ev.rng n σ2 lo hi = Ev.rng n σ lo hi:=by
 unfold Ev.rng
 rw [hh.bnd]
 congr 1
 funext h
 rw [hl.bnd]
theorem Ab {gv:Bool} {x:PL} {y:TV} (ho:∀ k o,get σ.ob k = some o → get σ2.ob k = some o) (h:ru gv σ x = some (y,σ')) (hp:plain y = true):σ' = σ ∧ ru gv σ2 x = some (y,σ2):=by
 cases x with
 | f x=>cases h;exact ⟨rfl,rfl⟩
 | bP=>cases h;exact ⟨rfl,rfl⟩
 | iI=>cases h;exact ⟨rfl,rfl⟩
 | fq=>cases h;exact ⟨rfl,rfl⟩
 | own k n =>
  simp only [ru] at h ⊢
  split at h
  ·rename_i hk
   split at h
   ·cases h;cases hp
   ·rename_i hg;cases h;rw [ho _ _ hk];simp only [ain hg];exact ⟨trivial,trivial⟩
  ·cases h
 | fp cs=>cases h;exact ⟨rfl,rfl⟩
 | fn f cs=>cases h;exact ⟨rfl,rfl⟩
 | mp k =>
  simp only [ru] at h
  split at h
  ·cases h;cases hp
  ·cases h
 | ptr k o =>
  cases o with
  | succ n=>cases h
  | zero =>
   simp only [ru] at h
   split at h
   ·obtain ⟨p,_,h2⟩:=zmm h;cases h2;cases hp
   ·cases h
 | _=>cases h
theorem xC {gv:Bool} (ho:∀ k o,get σ.ob k = some o → get σ2.ob k = some o):∀ {xs:List PL} {ys:List TV} {σ':St},rz gv σ xs = some (ys,σ') → ys.all plain = true → σ' = σ ∧ rz gv σ2 xs = some (ys,σ2)
 | [],ys,σ',h,_=>by cases h;exact ⟨rfl,rfl⟩
 | x :: xs,ys,σ',h,hp=>by
  obtain ⟨p,h1,h2⟩:=zbm h
  obtain ⟨r,h3,h4⟩:=zmm h2
  cases h4
  rw [List.all_cons,aiw] at hp
  obtain ⟨e1,e2⟩:=Ab ho h1 hp.1
  rw [e1] at h3
  obtain ⟨e3,e4⟩:=xC ho h3 hp.2
  exact ⟨e3,by unfold rz;rw [e2];simp only [Option.bind_some];rw [e4];rfl⟩
theorem xD {gv:Bool} (ho:∀ k o,get σ.ob k = some o → get σ2.ob k = some o):∀ {xs:List CV} {ys:List AV} {σ':St},rW gv σ xs = some (ys,σ') → ys.all fH = true → σ' = σ ∧ rW gv σ2 xs = some (ys,σ2)
 | [],ys,σ',h,_=>by cases h;exact ⟨rfl,rfl⟩
 | x :: xs,ys,σ',h,hp=>by
  obtain ⟨p,h1,h2⟩:=zbm h
  obtain ⟨r,h3,h4⟩:=zmm h2
  cases h4
  rw [List.all_cons,aiw] at hp
  have key:p.2 = σ ∧ Kz gv σ2 x = some (p.1,σ2):=by
   cases x with
   | one x =>
    obtain ⟨u,g1,g2⟩:=zmm h1
    obtain ⟨e1,e2⟩:=Ab ho g1 (by rw [← g2] at hp;exact hp.1)
    exact ⟨by rw [← g2];exact e1,by simp only [Kz];rw [e2,← g2];rfl⟩
   | agg xs =>
    obtain ⟨u,g1,g2⟩:=zmm h1
    obtain ⟨e1,e2⟩:=xC ho g1 (by rw [← g2] at hp;exact hp.1)
    exact ⟨by rw [← g2];exact e1,by simp only [Kz];rw [e2,← g2];rfl⟩
  rw [key.1] at h3
  obtain ⟨e3,e4⟩:=xD ho h3 hp.2
  exact ⟨e3,by unfold rW;rw [key.2];simp only [Option.bind_some];rw [e4];rfl⟩
theorem Ac {key:Nat} {pend:List PL} {x:TV} (hp:plain x = true):∃ l,∀ σ,Dc key pend σ x = some (l,σ):=by
 cases x with
 | f x=>exact ⟨_,fun _=>rfl⟩
 | iI=>exact ⟨_,fun _=>rfl⟩
 | fq=>exact ⟨_,fun _=>rfl⟩
 | fp cs=>exact ⟨_,fun _=>rfl⟩
 | fn f cs=>exact ⟨_,fun _=>rfl⟩
 | any=>exact ⟨_,fun _=>rfl⟩
 | _=>cases hp
theorem xE {base:Nat}:∀ {xs:List TV} {j:Nat} {pend:List PL},xs.all plain = true → ∃ l,∀ σ,wS base j pend σ xs = some (l,σ)
 | [],_,_,_=>⟨[],fun _=>rfl⟩
 | x :: xs,j,pend,hp=>by
  rw [List.all_cons,aiw] at hp
  obtain ⟨l,h1⟩:=Ac (key:=base + 200 * (j + 1)) (pend:=pend) hp.1
  obtain ⟨m,h2⟩:=xE (base:=base) (j:=j + 1) (pend:=l :: pend) hp.2
  exact ⟨l :: m,fun σ=>by unfold wS;rw [h1];simp only [Option.bind_some];rw [h2];rfl⟩
theorem xG {base:Nat}:∀ {xs:List AV} {i:Nat} {pend:List PL},xs.all fH = true → ∃ l,∀ σ,wT base i pend σ xs = some (l,σ)
 | [],_,_,_=>⟨[],fun _=>rfl⟩
 | x :: xs,i,pend,hp=>by
  rw [List.all_cons,aiw] at hp
  have key:∃ l,∀ σ,KA (base + 2000 * i) pend σ x = some (l,σ):=by
   cases x with
   | one x=>obtain ⟨l,h⟩:=Ac (key:=base + 2000 * i + 200) (pend:=pend) hp.1;exact ⟨.one l,fun σ=>by simp only [KA];rw [h];rfl⟩
   | agg xs=>obtain ⟨l,h⟩:=xE (base:=base + 2000 * i) (j:=0) (pend:=pend) hp.1;exact ⟨.agg l,fun σ=>by simp only [KA];rw [h];rfl⟩
  obtain ⟨l,h1⟩:=key
  obtain ⟨m,h2⟩:=xG (base:=base) (i:=i + 1) (pend:=cells l ++ pend) hp.2
  exact ⟨l :: m,fun σ=>by unfold wT;rw [h1];simp only [Option.bind_some];rw [h2];rfl⟩
theorem xH {gv:Bool} (ho:∀ k o,get σ.ob k = some o → get σ2.ob k = some o) {f:FuncId} {args:List CV} (hE:kL Γ gv true σ d f args = some (pv,σ')):σ' = σ ∧ kL Γ gv true σ2 d f args = some (pv,σ2):=by
 unfold kL at hE ⊢
 obtain ⟨p,h1,hE⟩:=zbm hE
 obtain ⟨r,h2,hE⟩:=zbm hE
 split at hE
 ·cases hE
 rename_i hq1
 split at hE
 ·cases hE
 rename_i hq2
 have hpl:p.1.all fH = true ∧ r.1.all fH = true:=by simpa using hq1
 obtain ⟨e1,e2⟩:=xD ho h1 hpl.1
 obtain ⟨l,hl⟩:=xG (base:=dx d) (i:=0) (pend:=[]) hpl.2
 have hfr:((r.1.any vV || !p.1.all fH) && args.any (fun x=>(cells x).any fZ)) = false:=by
  cases hc:((r.1.any vV || !p.1.all fH) && args.any (fun x=>(cells x).any fZ)) with
  | false=>rfl
  | true=>rw [hc] at hq2;exact absurd rfl hq2
 have h3:(r.1.any vV && args.any (fun x=>(cells x).any fZ)) = false:=by simpa [hpl.1] using hfr
 simp only [hpl.1,hpl.2,ajQ,Bool.or_false,h3,aiO,aiJ,aiV,Option.bind_some,hl,Option.map_some,Bool.and_false,Bool.and_self,aiz,aiE] at hE
 simp only [e2,Option.bind_some,h2,hpl.1,hpl.2,ajQ,Bool.or_false,h3,aiO,aiJ,aiV,hl,Option.map_some,Bool.and_false,Bool.and_self]
 exact ⟨by rw [← hE.2];exact e1,by rw [hE.1]⟩
end
end
end Go.Proofs.YtfokaoeinpnagaaGreat.Ev

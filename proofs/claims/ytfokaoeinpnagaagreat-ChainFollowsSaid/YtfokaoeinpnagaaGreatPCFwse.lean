/- A part of the proof of ChainFollows: cut, joined and given short names by a program of this session (wip/tools/pack.py); Lean checks it. No condition. -/
import Derived.Test.YtfokaoeinpnagaaGreatPCFwsd
import Derived.Laws.Cover3
import Derived.WalkSpells
import Derived.Laws.BytesString
import Derived.Lib.SliceRun
import Derived.Lib.BufferMore
import Derived.Laws.Pointers
import Derived.Calls
import Derived.LoopN
import Derived.Tactics
set_option linter.unusedSectionVars false
set_option linter.unusedSimpArgs false
set_option linter.unusedVariables false
set_option maxHeartbeats 16000000
set_option maxRecDepth 100000
namespace Go.Proofs.YtfokaoeinpnagaaGreat.Ev
section
open Go
section
variable {P : Program} {Γ:Env} {bK Fz bR:Nat → Prop} {w0 w w':World} {bJ:List Nat} {N:Fr} {d:Nat} {q:Bool} {κ gq:Nat → Value} {σ σ1 σ':St} {a:Act} {pv:PV} {o:Oper}
theorem fF.all {sz:Nat}:∀ {rows:List (List FV)} {vs:List Value},fF Fz w sz rows vs → rows.all (fun r=>r.length == sz) = true
 | [],_,_=>rfl
 | r :: rs,vs,h=>by rw [List.all_cons,fF.all h.2.2,h.1];simp
theorem aaR (h:Rel bK w0 bJ N Fz κ σ a w) {t e:TypeId} {sz:Nat} {x:Operand} {lo hi:Option Operand} {x':eX} {lo' hi':Option eX} (hu:P.underlying t = some (.slice e)) (hn:mU P e = some sz) (hx:gD x = some x') (hlo:zm lo = some lo') (hhi:zm hi = some hi') (hE:dL Γ q σ d (.cut sz x' lo' hi') = some (pv,σ')) :
  Does P bK w0 bJ N q d Fz κ σ a w (do let v ← Instr.sliceAt t (a.eval x) (lo.map a.eval) (hi.map a.eval) none;Pure.pure (.value v)) σ' pv:=by
 obtain ⟨v,h1,h2⟩:=zbm hE
 have hv:=h.eval hx h1
 split at h2
 ·rename_i rows
  split at h2
  ·cases h2
  ·rename_i hall
   obtain ⟨p,h3,h4⟩:=zbm h2
   cases h4
   obtain ⟨A,c,e1,e2,e2',e3⟩:=(show ∃ A c,a.eval x = .slice A rows.length c ∧ rows.length ≤ c ∧ rows.length ≤ 9223372036854775807 ∧ (rows = [] ∨ ∃ b o sz,A = some ⟨b,o,none⟩ ∧ Fz b ∧ dO Fz w sz b o rows) by simpa only [gX,fD,fU] using hv)
   obtain ⟨f1,f2,f3⟩:=Dx (P:=P) h hlo hhi h3
   have hrun:=qX (P:=P) (A:=A) hu hn (f3 true c e2)
   refine Does.pure h (v:=_) (by rw [e1];exact hrun) ?_
   exact Dy e2 e2' e3 (by simpa using hall) f1 f2
 ·obtain ⟨p,h3,h4⟩:=zbm h2
  cases h4
  obtain ⟨f1,f2,f3⟩:=Dx (P:=P) h hlo hhi h3
  have hrun:=qX (P:=P) (A:=none) hu hn (f3 true 0 (alC _))
  refine Does.pure h (v:=_) (by rw [show a.eval x = .slice none 0 0 from hv];exact hrun) ?_
  have:=Dy (Fz:=Fz) (w:=w) (sz:=sz) (rows:=[]) (A:=none) (c:=0) (l:=p.1) (r:=p.2) (alC _) (by simp) (.inl rfl) rfl f1 f2
  show fU Fz w (.sl []) _
  simpa using this
 ·rename_i key n
  split at h2
  ·rename_i sz' rows gY
   split at h2
   ·cases h2
   ·rename_i hsz
    have hsz':sz' = sz:=aml.mp hsz
    subst hsz'
    obtain ⟨p,h3,h4⟩:=zbm h2
    split at h4
    ·cases h4
    ·rename_i hq
     obtain ⟨s,h5,h6⟩:=zbm h4
     cases h6
     obtain ⟨f1,f2,f3⟩:=Dx (P:=P) h hlo hhi h3
     have hall:rows.all (fun r=>r.length == sz') = true:=by obtain ⟨_,_,inner,_,_,_,_,o4⟩:=h.obj gY;exact o4.all
     obtain ⟨bR,g1,g2,g3⟩:=h.Bb gY h5
     obtain ⟨A,c,e1,e2,e2',e3⟩:=(show ∃ A c,κ key = .slice A rows.length c ∧ rows.length ≤ c ∧ rows.length ≤ 9223372036854775807 ∧ (rows = [] ∨ ∃ b o sz,A = some ⟨b,o,none⟩ ∧ bR b ∧ dO bR w sz b o rows) by simpa only [fU] using g3)
     have hrun:=qX (P:=P) (A:=A) hu hn (f3 true c e2)
     have hk:∀ p ∈ σ'.ob,∃ p' ∈ σ.ob,p'.1 = p.1:=(EY (σ:=σ) (x:=.own key n) (y:=.sl rows) (by simp only [Ev.y9,gY,h5,Option.map_some])).1
     refine Does.after g2 (fun hqt=>absurd hqt hq) hk (Does.pure g1 (v:=_) (by rw [show a.eval x = κ key from hv.1,e1];exact hrun) ?_)
     exact Dy e2 e2' e3 hall f1 f2
  ·cases h2
 ·cases h2
theorem RJ (h:Rel bK w0 bJ N Fz κ σ a w) {t:TypeId} {sh:KS} (hE:dL Γ q σ d (.qR sh) = some (pv,σ')):Does P bK w0 bJ N q d Fz κ σ a w (do let v ← Instr.makeMap t none;Pure.pure (.value v)) σ' pv:=by
 obtain ⟨s,h1,h2⟩:=zmm hE
 cases h2
 obtain ⟨a1,a2,a3⟩:=nM w (.map #[] 0)
 refine ⟨_,_,_,_,_,by rw [Sem.run_bind,show (Instr.makeMap t none).run P w = .ok (.map (some w.heap.size)) (w.alloc (.map #[] 0)) from rfl];rfl,.inl rfl,Good.new (pl:=.mp (dY d)) h h1 (by omega) a2 (fun b hb=>by cases hb;exact ⟨alC _,by show w.heap.size < _;omega⟩) ⟨rfl,rfl⟩ ⟨w.heap.size,by rw [cK],[],Mq.At.made w,trivial,by simp⟩ ⟨by rw [cK],_,rfl⟩⟩
theorem je.keys : ∀ {l:List (KV × FC)} {m:List (KV × Value)},je Fz w l m → l.map (·.1) = m.map (·.1)
 | [],[],_=>rfl
 | p :: l,r :: m,h=>by rw [alD,alD,h.1,je.keys h.2.2]
 | [],_ :: _,h=>h.elim
 | _ :: _,[],h=>h.elim
theorem je.idx {l:List (KV × FC)} {m:List (KV × Value)} (h:je Fz w l m) (k:KV):yA l k = Mq.idx m k:=by unfold yA Mq.idx;rw [h.keys]
theorem je.at : ∀ {l:List (KV × FC)} {m:List (KV × Value)} {i:Nat},je Fz w l m → (∀ p,l[i]? = some p → ∃ r,m[i]? = some r ∧ p.1 = r.1 ∧ nu Fz w p.2 r.2) ∧ (l[i]? = none → m[i]? = none)
 | [],[],i,_=>⟨fun p h=>by simp at h,fun _=>by simp⟩
 | p :: l,r :: m,0,h=>⟨fun q hq=>by cases hq;exact ⟨r,rfl,h.1,h.2.1⟩,fun hn=>by simp at hn⟩
 | p :: l,r :: m,i + 1,h=>by simpa using je.at (i:=i) h.2.2
 | [],_ :: _,_,h=>h.elim
 | _ :: _,[],_,h=>h.elim
theorem je.uT {l:List (KV × FC)} {m:List (KV × Value)} (h:je Fz w l m) (k:KV):(∀ x,ug l k = some x → ∃ v,Mq.uT m k = some v ∧ nu Fz w x v) ∧ (ug l k = none → Mq.uT m k = none):=by
 unfold ug Mq.uT
 rw [h.idx k]
 cases Mq.idx m k with
 | none=>exact ⟨fun x hx=>by simp at hx,fun _=>rfl⟩
 | some i =>
  simp only [Option.bind_some]
  refine ⟨fun x hx=>?_,fun hx=>?_⟩
  ·obtain ⟨p,hp,rfl⟩:=zmm hx
   obtain ⟨r,h1,h2,h3⟩:=(h.at (i:=i)).1 p hp
   exact ⟨r.2,by rw [h1];rfl,h3⟩
  ·rw [Option.map_eq_none_iff] at hx
   rw [(h.at (i:=i)).2 hx];rfl
theorem je.setAt {k:KV} {x:FC} {v:Value} (hv:nu Fz w x v):∀ {l:List (KV × FC)} {m:List (KV × Value)} {i:Nat},je Fz w l m → je Fz w (l.set i (k,x)) (m.set i (k,v))
 | [],[],_,_=>trivial
 | p :: l,r :: m,0,h=>⟨rfl,hv,h.2.2⟩
 | p :: l,r :: m,i + 1,h=>⟨h.1,h.2.1,je.setAt hv h.2.2⟩
 | [],_ :: _,_,h=>h.elim
 | _ :: _,[],_,h=>h.elim
theorem je.push {k:KV} {x:FC} {v:Value} (hv:nu Fz w x v):∀ {l:List (KV × FC)} {m:List (KV × Value)},je Fz w l m → je Fz w (l ++ [(k,x)]) (m ++ [(k,v)])
 | [],[],_=>⟨rfl,hv,trivial⟩
 | p :: l,r :: m,h=>⟨h.1,h.2.1,je.push hv h.2.2⟩
 | [],_ :: _,h=>h.elim
 | _ :: _,[],h=>h.elim
theorem je.erase : ∀ {l:List (KV × FC)} {m:List (KV × Value)} {i:Nat},je Fz w l m → je Fz w (l.eraseIdx i) (m.eraseIdx i)
 | [],[],_,_=>trivial
 | p :: l,r :: m,0,h=>h.2.2
 | p :: l,r :: m,i + 1,h=>⟨h.1,h.2.1,je.erase h.2.2⟩
 | [],_ :: _,_,h=>h.elim
 | _ :: _,[],_,h=>h.elim
theorem je.upd {l:List (KV × FC)} {m:List (KV × Value)} (h:je Fz w l m) {k:KV} {x:FC} {v:Value} (hv:nu Fz w x v):je Fz w (yB l k x) (Mq.upd m k v):=by
 unfold yB Mq.upd
 rw [h.idx k]
 cases Mq.idx m k with
 | none=>exact h.push hv
 | some i=>exact h.setAt hv
theorem je.del {l:List (KV × FC)} {m:List (KV × Value)} (h:je Fz w l m) {k:KV}:je Fz w (Dj l k) (Mq.del m k):=by
 unfold Dj Mq.del
 rw [h.idx k]
 cases Mq.idx m k with
 | none=>exact h
 | some i=>exact h.erase
theorem Ny {m:List (KV × Value)} {k:KV} {v:Value} {sh:KS} (hm:∀ p ∈ m,p.1.ks = sh) (hk:k.ks = sh):∀ p ∈ Mq.upd m k v,p.1.ks = sh:=by
 unfold Mq.upd
 split
 ·intro p hp
  rcases List.mem_or_eq_of_mem_set hp with h | h
  ·exact hm p h
  ·subst h;exact hk
 ·intro p hp
  rcases amj.mp hp with h | h
  ·exact hm p h
  ·simp at h;subst h;exact hk
theorem Nz {m:List (KV × Value)} {k:KV} {sh:KS} (hm:∀ p ∈ m,p.1.ks = sh):∀ p ∈ Mq.del m k,p.1.ks = sh:=by
 unfold Mq.del
 split
 ·exact fun p hp=>hm p (List.mem_of_mem_eraseIdx hp)
 ·exact hm
theorem nu.toC {x:FC} {v:Value} (h:nu Fz w x v):gX Fz κ w (za x) v:=by
 cases x with
 | one x=>exact h
 | agg xs =>
  obtain ⟨cs,rfl,h⟩:=h
  exact ⟨cs,rfl,h.ZK⟩
theorem BZ {x:PL} {y:FV} {v:Value} (h:Dt x = some y) (hx:fD Fz κ w x v):fU Fz w y v:=by
 cases x <;> simp only [Dt] at h <;> cases h
 ·exact hx
 ·simp only [fU];exact ⟨none,0,hx,alC _,by simp,.inl trivial⟩
theorem uq : ∀ {xs:List PL} {ys:List FV} {vs:List Value},rZ xs = some ys → bG Fz κ w xs vs → dJ Fz w ys vs
 | [],ys,vs,h,hx=>by cases h;cases vs with | nil=>trivial | cons _ _=>exact hx.elim
 | x :: xs,ys,vs,h,hx=>by
  unfold rZ at h
  obtain ⟨y,h1,h2⟩:=zbm h
  obtain ⟨l,h3,rfl⟩:=zmm h2
  cases vs with
  | nil=>exact hx.elim
  | cons v vs=>exact ⟨BZ h1 hx.1,uq h3 hx.2⟩
theorem RL {e:TypeId} {z:FC} (h:Xd P e = some z):∃ v,(zeroValue e).run P w = .ok v w ∧ nu Fz w z v:=by
 obtain ⟨i,h1,h2⟩:=zbm h
 obtain ⟨v,h3,h4⟩:=zbm h2
 refine ⟨v,by simp [zeroValue,typeInfo,h1,h3],?_⟩
 split at h4
 ·rename_i cs
  obtain ⟨l,h5,rfl⟩:=zmm h4
  obtain ⟨xs,h6,h7⟩:=zbm h5
  exact ⟨cs,rfl,uq (κ:=fun _=>undef) h7 (nS h6)⟩
 ·obtain ⟨l,h5,rfl⟩:=zmm h4
  obtain ⟨x,h6,h7⟩:=zbm h5
  exact BZ (κ:=fun _=>undef) h7 (wO h6)
theorem uZ {t k e:TypeId} (h:Bl P t = some (k,e)):P.underlying t = some (.map k e):=by
 unfold Bl at h
 split at h
 ·rename_i hu;cases h;exact hu
 ·cases h
theorem Xm (h:Rel bK w0 bJ N Fz κ σ a w) {t kt et:TypeId} {sh:KS} {z:FC} {ok:Bool} {x k:Operand} {x' k':eX} (hm:Bl P t = some (kt,et)) (hk:mI P kt) (hs:zn P kt = some sh) (hz:Xd P et = some z) (hx:gD x = some x') (hkk:gD k = some k') (hE:dL Γ q σ d (.look sh z ok x' k') = some (pv,σ')) :
  Does P bK w0 bJ N q d Fz κ σ a w (do let v ← Instr.lookup t (a.eval x) (a.eval k) ok;Pure.pure (.value v)) σ' pv:=by
 obtain ⟨v,h1,h2⟩:=zbm hE
 obtain ⟨u,h3,h4⟩:=zbm h2
 obtain ⟨b,h5,h6⟩:=zbm h4
 split at h6
 ·cases h6
 ·rename_i hsh
  have hb:b.ks = sh:=aml.mp hsh
  have hv:=h.eval hx h1
  have hu:=zo h5 (h.eval hkk h3)
  obtain ⟨zv,z1,z2⟩:=RL (Fz:=Fz) (w:=w) hz
  obtain ⟨r,h7,h8⟩:=zmm h6
  cases h8
  have fin:∀ (rv:Option Value),(∀ x,r = some x → ∃ v,rv = some v ∧ nu Fz w x v) → (r = none → rv = none) → (Instr.lookup t (a.eval x) (a.eval k) ok).run P w = .ok (if ok then .tuple #[rv.getD zv,.bool rv.isSome] else rv.getD zv) w →
    Does P bK w0 bJ N q d Fz κ σ a w (do let v ← Instr.lookup t (a.eval x) (a.eval k) ok;Pure.pure (.value v)) σ (if ok then .wK [za (r.getD z),.one (.f (.bool r.isSome))] else .c (za (r.getD z))):=by
   intro rv g1 g2 g3
   refine Does.pure h g3 ?_
   have hrep:nu Fz w (r.getD z) (rv.getD zv) ∧ r.isSome = rv.isSome:=by
    cases r with
    | none=>rw [g2 rfl];exact ⟨z2,rfl⟩
    | some x=>obtain ⟨v,e1,e2⟩:=g1 x rfl;rw [e1];exact ⟨e2,rfl⟩
   cases ok with
   | false=>exact hrep.1.toC
   | true=>exact ⟨_,rfl,hrep.1.toC,by rw [hrep.2];rfl,trivial⟩
  split at h7
  ·cases h7
   refine fin none (fun x hx=>by cases hx) (fun _=>rfl) ?_
   rw [show a.eval x = .map none from hv,hu]
   have:=Mq.look_nil (hk.key sh hs) t et (uZ hm) zv z1 b hb ok (w:=w)
   rw [this];cases ok <;> rfl
  ·rename_i key
   split at h7
   ·rename_i sh' ents gY
    split at h7
    ·rename_i hs'
     subst hs'
     cases h7
     obtain ⟨bl,e1,l,e2,e3,e4⟩:=h.obj gY
     have hl:=Mq.look (hk.key _ hs) e2 e4 t et (uZ hm) zv z1 b hb ok
     obtain ⟨f1,f2⟩:=e3.uT b
     refine fin (Mq.uT l b) f1 f2 ?_
     rw [hv.1,e1,hu]
     exact hl
    ·cases h7
   ·cases h7
  ·cases h7
theorem NA (h:Rel bK w0 bJ N Fz κ σ a w) {t kt et:TypeId} {sh:KS} {x k y:Operand} {x' k' y':eX} (hm:Bl P t = some (kt,et)) (hk:mI P kt) (hs:zn P kt = some sh) (hx:gD x = some x') (hkk:gD k = some k') (hy:gD y = some y') (hE:dL Γ q σ d (.y8 sh x' k' y') = some (pv,σ')) :
  Does P bK w0 bJ N q d Fz κ σ a w (do Instr.mapUpdate t (a.eval x) (a.eval k) (a.eval y);Pure.pure .skip) σ' pv:=by
 obtain ⟨v,h1,h2⟩:=zbm hE
 obtain ⟨u,h3,h4⟩:=zbm h2
 obtain ⟨b,h5,h6⟩:=zbm h4
 split at h6
 ·cases h6
 ·rename_i hsh
  have hb:b.ks = sh:=aml.mp hsh
  obtain ⟨yv,h7,h8⟩:=zbm h6
  have hv:=h.eval hx h1
  have hu:=zo h5 (h.eval hkk h3)
  have hyv:=h.eval hy h7
  split at h8
  ·cases h8
  ·rename_i hq
   obtain ⟨p,h9,h10⟩:=zbm h8
   have fr:∃ bR,Rel bK w0 bJ N bR κ p.2 a w ∧ (∀ b,Fz b → bR b) ∧ nu bR w p.1 (a.eval y) ∧ (q = true → (∀ b,bR b → Fz b) ∧ p.2 = σ) ∧ ∀ r ∈ p.2.ob,∃ p' ∈ σ.ob,p'.1 = r.1:=by
    cases yv with
    | one l =>
     obtain ⟨r,e1,e2⟩:=zmm h9
     subst e2
     obtain ⟨bR,g1,g2,g3,g4,g5⟩:=h.RG (xs:=[l]) (ys:=[r.1]) (vs:=[a.eval y]) (σ':=r.2) ⟨hyv,trivial⟩ hq (by simp [Ev.l7,e1])
     exact ⟨bR,g1,g2,g3.1,g4,g5⟩
    | agg xs =>
     obtain ⟨r,e1,e2⟩:=zmm h9
     subst e2
     obtain ⟨cs,hcs,hyv⟩:=hyv
     obtain ⟨bR,g1,g2,g3,g4,g5⟩:=h.RG hyv hq e1
     exact ⟨bR,g1,g2,⟨cs,hcs,g3⟩,g4,g5⟩
   obtain ⟨bR,g1,g2,g3,g4,g5⟩:=fr
   split at h10
   ·rename_i key
    split at h10
    ·rename_i sh' ents gY
     split at h10
     ·rename_i hs'
      subst hs'
      cases h10
      refine Does.after g2 g4 g5 ?_
      obtain ⟨bl,e1,l,e2,e3,e4⟩:=g1.obj gY
      obtain ⟨w',r1,r2,r3⟩:=Mq.update (hk.key _ hs) e2 e4 t et (uZ hm) b hb (a.eval y)
      have hpos:=(g1.pos _ (get_mem gY) bl (by show blk (κ key) = _;rw [e1];rfl)).1
      have hmv:∀ i,bR i → w'.heap[i]? = w.heap[i]?:=fun i hi=>r3.block i (g1.fz i hi).1 (fun e=>by cases e;exact hpos hi)
      refine ⟨.skip,w',κ,bR,undef,by rw [hv.1,e1,hu,Sem.run_bind,r1];rfl,.inr ⟨rfl,rfl⟩,Good.set g1 gY r3.size (fun i hi hne=>r3.block i hi (fun e=>hne (by rw [e1,← e];rfl))) ⟨r3.os,r3.output⟩ ?_ rfl⟩
      exact ⟨bl,e1,_,r2,je.mono (fun _ h=>h) hmv _ _ (e3.upd g3),Ny e4 hb⟩
     ·cases h10
    ·cases h10
   ·cases h10
theorem EZ {t kt et ty:TypeId} (hm:P.underlying t = some (.map kt et)) {k:Value} (hk:∀ e,(Instr.checkKey e 10000 kt k).run P w = .ok () w):(Builtin.delete_ #[t,kt] ty #[.map none,k]).run P w = .ok (.tuple #[]) w:=by
 unfold Builtin.delete_
 simp [Sem.run_bind,run_underlying hm,Result.andThen,hk]
theorem aaS (h:Rel bK w0 bJ N Fz κ σ a w) {t kt et ty:TypeId} {sh:KS} {x k:Operand} {x' k':eX} (hm:Bl P t = some (kt,et)) (hk:mI P kt) (hs:zn P kt = some sh) (hx:gD x = some x') (hkk:gD k = some k') (hE:dL Γ q σ d (.del sh x' k') = some (pv,σ')) :
  Does P bK w0 bJ N q d Fz κ σ a w (do let v ← Builtin.delete_ #[t,kt] ty #[a.eval x,a.eval k];Pure.pure (.value v)) σ' pv:=by
 obtain ⟨v,h1,h2⟩:=zbm hE
 obtain ⟨u,h3,h4⟩:=zbm h2
 obtain ⟨b,h5,h6⟩:=zbm h4
 split at h6
 ·cases h6
 ·rename_i hsh
  have hb:b.ks = sh:=aml.mp hsh
  have hv:=h.eval hx h1
  have hu:=zo h5 (h.eval hkk h3)
  split at h6
  ·cases h6
   refine Does.pure h (v:=.tuple #[]) ?_ ⟨#[],rfl,trivial⟩
   rw [show a.eval x = .map none from hv,hu]
   exact EZ (uZ hm) (fun e=>(hk.key sh hs).check e b w hb)
  ·rename_i key
   split at h6
   ·rename_i sh' ents gY
    split at h6
    ·rename_i hs'
     subst hs'
     cases h6
     obtain ⟨bl,e1,l,e2,e3,e4⟩:=h.obj gY
     obtain ⟨w',r1,r2,r3⟩:=Mq.delete (hk.key _ hs) e2 e4 t et ty (uZ hm) b hb
     have hpos:=(h.pos _ (get_mem gY) bl (by show blk (κ key) = _;rw [e1];rfl)).1
     have hmv:∀ i,Fz i → w'.heap[i]? = w.heap[i]?:=fun i hi=>r3.block i (h.fz i hi).1 (fun e=>by cases e;exact hpos hi)
     refine ⟨_,w',κ,Fz,_,by rw [hv.1,e1,hu,Sem.run_bind,r1];rfl,.inl rfl,Good.set h gY r3.size (fun i hi hne=>r3.block i hi (fun e=>hne (by rw [e1,← e];rfl))) ⟨r3.os,r3.output⟩ ?_ ⟨#[],rfl,trivial⟩⟩
     exact ⟨bl,e1,_,r2,je.mono (fun _ h=>h) hmv _ _ e3.del,Nz e4⟩
    ·cases h6
   ·cases h6
  ·cases h6
end
end
section
open Go
section
variable {P : Program} {Γ:Env} {bK Fz bR:Nat → Prop} {w0 w w':World} {bJ:List Nat} {N:Fr} {d:Nat} {q:Bool} {κ gq:Nat → Value} {σ σ1 σ':St} {a:Act} {pv:PV} {o:Oper}
theorem fD.gone {key:Nat} {v':Value} (hs:∃ A n c,κ key = .slice A n c) (hw:∀ b,Fz b → w'.heap[b]? = w.heap[b]?) {x:PL} {v:Value} (h:fD Fz κ w x v):fD Fz (qO κ key v') w' (qd key .any x) v:=by
 obtain ⟨A0,n0,c0,hs⟩:=hs
 have hm:∀ {y:PL},(∀ k,fB k y = true → k ≠ key) → fD Fz κ w y v → fD Fz (qO κ key v') w' y v:=fun hk hy=>fD.mono (fun _ h=>h) hw (fun k hk'=>fG (hk k hk') v') hy
 cases x with
 | own k n =>
  simp only [qd]
  split
  ·trivial
  ·rename_i hk;exact hm (fun k' hk'=>by simp [fB] at hk';subst hk';exact hk) h
 | rp k z i o =>
  simp only [qd]
  split
  ·trivial
  ·rename_i hk;exact hm (fun k' hk'=>by simp [fB] at hk';subst hk';exact hk) h
 | ptr k o =>
  refine hm (fun k' hk' e=>?_) h
  simp [fB,qd] at hk'
  obtain ⟨b,h1,_⟩:=h
  rw [hk',e,hs] at h1
  cases h1
 | mp k =>
  refine hm (fun k' hk' e=>?_) h
  simp [fB,qd] at hk'
  obtain ⟨h0,b,h1⟩:=h
  rw [h1,hk',e,hs] at h0
  cases h0
 | f x=>exact hm (fun k hk=>by simp [fB,qd] at hk) h
 | dz=>exact h
 | fp cs=>exact hm (fun k hk=>by simp [fB,qd] at hk) h
 | iW=>exact h
 | gu=>exact h
 | und=>exact h
 | any=>trivial
 | fn f cs=>exact hm (fun k hk=>by simp [fB,qd] at hk) h
 | vw k z n l =>
  simp only [qd]
  split
  ·trivial
  ·rename_i hk;exact hm (fun k' hk'=>by simp [fB] at hk';subst hk';exact hk) h
theorem bG.gone {key:Nat} {v':Value} (hs:∃ A n c,κ key = .slice A n c) (hw:∀ b,Fz b → w'.heap[b]? = w.heap[b]?):∀ {xs:List PL} {vs:List Value},bG Fz κ w xs vs → bG Fz (qO κ key v') w' (xs.map (qd key .any)) vs
 | [],[],_=>trivial
 | x :: xs,v :: vs,h=>⟨fD.gone hs hw h.1,bG.gone hs hw h.2⟩
 | [],_ :: _,h=>h.elim
 | _ :: _,[],h=>h.elim
theorem gX.gone {key:Nat} {v':Value} (hs:∃ A n c,κ key = .slice A n c) (hw:∀ b,Fz b → w'.heap[b]? = w.heap[b]?) {x:CV} {v:Value} (h:gX Fz κ w x v):gX Fz (qO κ key v') w' (H9 key .any x) v:=by
 cases x with
 | one x=>exact fD.gone hs hw h
 | agg xs=>obtain ⟨cs,rfl,h⟩:=h;exact ⟨cs,rfl,bG.gone hs hw h⟩
theorem eG.gone {key:Nat} {v':Value} (hs:∃ A n c,κ key = .slice A n c) (hw:∀ b,Fz b → w'.heap[b]? = w.heap[b]?):∀ {xs:List CV} {vs:List Value},eG Fz κ w xs vs → eG Fz (qO κ key v') w' (xs.map (H9 key .any)) vs
 | [],[],_=>trivial
 | x :: xs,v :: vs,h=>⟨gX.gone hs hw h.1,eG.gone hs hw h.2⟩
 | [],_ :: _,h=>h.elim
 | _ :: _,[],h=>h.elim
theorem jc.gone {key:Nat} {v':Value} (hs:∃ A n c,κ key = .slice A n c) (hw:∀ b,Fz b → w'.heap[b]? = w.heap[b]?) {x:PV} {v:Value} (h:jc Fz κ w x v):jc Fz (qO κ key v') w' (Rp key .any x) v:=by
 cases x with
 | c x=>exact gX.gone hs hw h
 | wK xs=>obtain ⟨cs,rfl,h⟩:=h;exact ⟨cs,rfl,eG.gone hs hw h⟩
theorem jf.gone {B key k:Nat} {v':Value} (hk:k ≠ key) (hs:∃ A n c,κ key = .slice A n c) (hw:∀ b,Fz b → w'.heap[b]? = w.heap[b]?) (hb:∀ b,blk (κ k) = some b → w'.heap[b]? = w.heap[b]?) {x:Ob} (h:jf B Fz κ w k x):jf B Fz (qO κ key v') w' k (Lj key .any x):=by
 cases x with
 | gM xs =>
  obtain ⟨b,cs,e,h1,h2,h3⟩:=h
  exact ⟨b,cs,e,(fG hk v').trans h1,(hb b (by rw [h1];rfl)).trans h2,bG.gone hs hw h3⟩
 | row sz rows=>exact jf.mono (o:=.row sz rows) (fun _ h=>h) hw (fun k' hk'=>fG (by rcases hk' with h | h <;> first | (subst h;exact hk) | cases h) v') hb h
 | map sh ents=>exact jf.mono (o:=.map sh ents) (fun _ h=>h) hw (fun k' hk'=>fG (by rcases hk' with h | h <;> first | (subst h;exact hk) | cases h) v') hb h
theorem Rel.moved (h:Rel bK w0 bJ N Fz κ σ a w) {key:Nat} {o o':Ob} {v':Value} (hk:get σ.ob key = some o) (hsl:∃ A n c,κ key = .slice A n c) (hs:w.heap.size ≤ w'.heap.size) (hb:∀ b,b < w.heap.size → blk (κ key) ≠ some b → w'.heap[b]? = w.heap[b]?)
  (hv:∀ b,blk v' = some b → b < w'.heap.size ∧ (blk (κ key) = some b ∨ w.heap.size ≤ b)) (hkp:Kp w w') (ho:jf 0 Fz (qO κ key v') w' key o'):Rel bK w0 bJ N Fz (qO κ key v') (jU (Ev.sub σ key .any) key o') a w':=by
 have hkm:=get_mem hk
 have hfz:∀ b,Fz b → w'.heap[b]? = w.heap[b]?:=fun b hf=>hb b (h.fz b hf).1 (fun e=>(h.pos _ hkm b e).1 hf)
 have mo:∀ p ∈ (jU (Ev.sub σ key .any) key o').ob,p = (key,o') ∨ (p.1 ≠ key ∧ ∃ r ∈ σ.ob,r.1 = p.1 ∧ p.2 = Lj key .any r.2):=by
  intro p hp
  rcases iY hp with rfl | ⟨hp,hne⟩
  ·exact .inl rfl
  ·obtain ⟨r,hr,rfl⟩:=al6.mp hp
   exact .inr ⟨hne,r,hr,rfl,rfl⟩
 have far:∀ b,blk v' = some b → ∀ p ∈ σ.ob,p.1 ≠ key → blk (κ p.1) ≠ some b:=by
  intro b hb1 p hp hne e
  rcases (hv b hb1).2 with h1 | h1
  ·exact h.wM p hp _ hkm b hne e h1
  ·have:=(h.pos p hp b e).2.1
   omega
 refine ⟨fun p hp=>?_,h.sz,h.kM,h.fs,fun p hp=>?_,fun p hp r hr b hne hb1 hb2=>?_,fun p hp b hb1=>?_,fun b hf=>⟨amk (h.fz b hf).1 hs,(h.fz b hf).2⟩,h.Bc,alU h.big hs,fun b h1 h2=>?_,h.kp.trans hkp⟩
 ·obtain ⟨r,hr,rfl⟩:=al6.mp hp
  exact jc.gone hsl hfz (h.tm r hr)
 ·rcases mo p hp with rfl | ⟨hne,r,hr,e1,e2⟩
  ·exact ho
  ·rw [e2,← e1]
   have hne':r.1 ≠ key:=fun e=>hne (e1 ▸ e)
   exact jf.gone hne' hsl hfz (fun b hb1=>hb b (h.pos r hr b hb1).2.1 (fun e=>h.wM r hr _ hkm b hne' hb1 e)) (h.ob r hr)
 ·rcases mo p hp with rfl | ⟨hp1,p',hp',e1,_⟩ <;> rcases mo r hr with rfl | ⟨hr1,r',hr',e2,_⟩
  ·exact hne rfl
  ·rw [cK] at hb1
   rw [fG hr1,← e2] at hb2
   exact far b hb1 r' hr' (fun e=>hr1 (e2 ▸ e)) hb2
  ·rw [cK] at hb2
   rw [fG hp1,← e1] at hb1
   exact far b hb2 p' hp' (fun e=>hp1 (e1 ▸ e)) hb1
  ·rw [fG hp1,← e1] at hb1
   rw [fG hr1,← e2] at hb2
   rw [← e1,← e2] at hne
   exact h.wM p' hp' r' hr' b hne hb1 hb2
 ·rcases mo p hp with rfl | ⟨hp1,p',hp',e1,_⟩
  ·rw [cK] at hb1
   obtain ⟨h1,h2⟩:=hv b hb1
   rcases h2 with h2 | h2
   ·have:=h.pos _ hkm b h2
    exact ⟨this.1,h1,this.2.2⟩
   ·refine ⟨fun hf=>?_,h1,.inr (alU h.big h2)⟩
    have:=(h.fz b hf).1
    omega
  ·rw [fG hp1,← e1] at hb1
   have:=h.pos p' hp' b hb1
   exact ⟨this.1,amk this.2.1 hs,this.2.2⟩
 ·rw [hb b (amk h1 h.big) (fun e=>?_)]
  ·exact h.ext b h1 h2
  ·rcases (h.pos _ hkm b e).2.2 with h3 | h3
   ·exact h2 h3
   ·omega
theorem dO.cells {sz b:Nat}:∀ {rows:List (List FV)} {o:Nat},dO Fz w sz b o rows → ∃ vs,fF Fz w sz rows vs ∧ ∀ j v,vs[j]? = some v → w.cell? ⟨b,o + j,none⟩ = some v
 | [],o,_=>⟨[],rfl,fun j v hj=>by simp at hj⟩
 | r :: rows,o,h=>by
  simp only [dO] at h
  obtain ⟨us,h1,h2⟩:=h.2.1.cells
  obtain ⟨vs,h3,h4⟩:=dO.cells h.2.2
  have hl:=h1.len
  refine ⟨us ++ vs,⟨h.1,?_,?_⟩,fun j v hj=>?_⟩
  ·rw [anG (by omega),am7 (by omega)];exact h1
  ·rw [List.drop_append_of_le_length (by omega),List.drop_of_length_le (by omega)];exact h3
  ·rw [anx] at hj
   split at hj
   ·exact h2 j v hj
   ·have:=h4 _ v hj
    rw [show o + sz + (j - us.length) = o + j from by omega] at this
    exact this
theorem dJ.one : ∀ {xs:List FV} {vs:List Value},dJ Fz w xs vs → ∀ u ∈ vs,u.oneCell' = true
 | [],[],_,u,hu=>by simp at hu
 | x :: xs,v :: vs,h,u,hu=>by
  rcases alZ.mp hu with rfl | hu
  ·have:=fU.leaf h.1
   cases u <;> first | rfl | exact this.elim
  ·exact dJ.one h.2 u hu
 | [],_ :: _,h,_,_=>h.elim
 | _ :: _,[],h,_,_=>h.elim
theorem fF.one {sz:Nat}:∀ {rows:List (List FV)} {vs:List Value},fF Fz w sz rows vs → ∀ u ∈ vs,u.oneCell' = true
 | [],vs,h,u,hu=>by cases h;simp at hu
 | r :: rs,vs,h,u,hu=>by
  rw [← ank sz vs] at hu
  rcases amj.mp hu with hu | hu
  ·exact h.2.1.one u hu
  ·exact fF.one h.2.2 u hu
theorem fF.app {sz:Nat}:∀ {rows new:List (List FV)} {vs us:List Value},fF Fz w sz rows vs → fF Fz w sz new us → fF Fz w sz (rows ++ new) (vs ++ us)
 | [],new,vs,us,h,h'=>by cases h;exact h'
 | r :: rs,new,vs,us,h,h'=>by
  have hl:=h.2.1.len
  rw [alP,h.1] at hl
  refine ⟨h.1,?_,?_⟩
  ·rw [anG (by omega)];exact h.2.1
  ·rw [List.drop_append_of_le_length (by omega)];exact fF.app h.2.2 h'
theorem Ie (h:Rel bK w0 bJ N Fz κ σ a w) {u:CV} {uv:Value} {new:List (List FV)} {sz:Nat} (hu:gX Fz κ w u uv) (hr:rX σ u = some new) (hall:new.all (fun r=>r.length == sz) = true) :
  ∃ A c vs,uv = .slice A new.length c ∧ fF Fz w sz new vs ∧ ((A = none ∧ new = []) ∨ ∃ ad:Addr,A = some ad ∧ ∀ j v,vs[j]? = some v → w.cell? (ad.add j) = some v):=by
 unfold rX at hr
 split at hr
 ·cases hr;exact ⟨none,0,[],hu,rfl,.inl ⟨rfl,rfl⟩⟩
 ·rename_i rows
  cases hr
  obtain ⟨A,c,e1,e2,e2',e3⟩:=(show ∃ A c,uv = .slice A new.length c ∧ new.length ≤ c ∧ new.length ≤ 9223372036854775807 ∧ (new = [] ∨ ∃ b o sz,A = some ⟨b,o,none⟩ ∧ Fz b ∧ dO Fz w sz b o new) by simpa only [gX,fD,fU] using hu)
  rcases e3 with e3 | ⟨b,o,sz',rfl,e4,e5⟩
  ·subst e3
   cases A with
   | none=>exact ⟨none,c,[],e1,rfl,.inl ⟨rfl,rfl⟩⟩
   | some ad=>exact ⟨some ad,c,[],e1,rfl,.inr ⟨ad,rfl,fun j v hj=>by simp at hj⟩⟩
  ·obtain ⟨vs,e6,e7⟩:=e5.cells
   cases new with
   | nil=>exact ⟨_,c,vs,e1,e6,.inr ⟨⟨b,o,none⟩,rfl,fun j v hj=>by rw [nT];exact e7 j v hj⟩⟩
   | cons r rs =>
    have:sz' = sz:=by
     rw [List.all_cons,alN] at hall
     have h1:=e6.1
     have h2:=hall.1
     simp at h2
     omega
    subst this
    exact ⟨_,c,vs,e1,e6,.inr ⟨⟨b,o,none⟩,rfl,fun j v hj=>by rw [nT];exact e7 j v hj⟩⟩
 ·rename_i key n
  split at hr
  ·rename_i sz' rows gY
   cases hr
   obtain ⟨o0,e,inner,A,c,o1,⟨o2,o3⟩,o4⟩:=h.obj gY
   have hin:fF Fz w sz new inner:=by
    cases new with
    | nil=>exact o4
    | cons r rs =>
     have:sz' = sz:=by
      rw [List.all_cons,alN] at hall
      have h1:=o4.1
      have h2:=hall.1
      simp at h2
      omega
     subst this
     exact o4
   rcases o3 with ⟨o3,o5⟩ | ⟨g,cap,cur,o3,o5,o6,o7,o8,o9,o10⟩
   ·exact ⟨none,0,inner,by rw [hu.1,o3,o5],hin,.inl ⟨rfl,am5 o5⟩⟩
   ·refine ⟨_,cap,inner,by rw [hu.1,o3],hin,.inr ⟨⟨g,0,none⟩,rfl,fun j v hj=>?_⟩⟩
    rw [← o10,amr] at hj
    split at hj
    ·rw [nT,amc]
     simp only [World.cell?,o6]
     simpa using hj
    ·cases hj
  ·cases hr
 ·cases hr
theorem DC {base:Nat} {t ty e e1:TypeId} {i:TypeInfo} {size c:Nat} (ht:P.underlying t = some (.slice e)) (hi:P.info? e = some i) {v:Value} {n:Nat} {xs:List Value} (hown:w.ownsRow base e1 size v n xs) :
  (Builtin.append_ #[t,t] ty #[v,.slice none 0 c]).run P w = .ok v w:=by
 rcases hown.2 with ⟨rfl,rfl⟩ | ⟨g,cap,cur,rfl,_,_,hnc,_⟩
 ·simp [Builtin.append_,run_underlying ht,sizeOf,typeInfo,hi,Builtin.lenOf,Builtin.firstCells]
 ·simp [Builtin.append_,run_underlying ht,sizeOf,typeInfo,hi,Builtin.lenOf,Builtin.firstCells,hnc,storeCells]
theorem DF (t ty e e1:TypeId) (i:TypeInfo) (ht:P.underlying t = some (.slice e)) (hi:P.info? e = some i)
  (g sLen sCap:Nat) (cur:Array Value) (hg:w.heap[g]? = some (.cells cur e1 (0,0)))
  (a:Addr) (m c:Nat) (news:List Value) (hl:news.length = m * i.size) (hnews:∀ j u,news[j]? = some u → w.cell? (a.add j) = some u) (h1:∀ u ∈ news,u.oneCell' = true)
  (hroom:sLen + m ≤ sCap) (hfit:sLen * i.size + news.length ≤ cur.size) :
  (Builtin.append_ #[t,t] ty #[.slice (some ⟨g,0,none⟩) sLen sCap,.slice (some a) m c]).run P w =
   .ok (.slice (some ⟨g,0,none⟩) (sLen + m) sCap) (w.setRow g (cur.toList.take (sLen * i.size) ++ news ++ cur.toList.drop (sLen * i.size + news.length)).toArray):=by
 have hf:=run_firstCells_some (P:=P) w i.size m a m c news hl hnews
 have hst:=run_storeCells_at P g (sLen * i.size) e1 news 0 cur w hg (by simpa using hfit) h1
 simp only [Nat.add_zero] at hst
 simp [Builtin.append_,run_underlying ht,sizeOf,typeInfo,hi,Builtin.lenOf,hroom,hf,Addr.add_lit,hst]
theorem JE (h:Rel bK w0 bJ N Fz κ σ a w) {t ty e:TypeId} {sz bytes:Nat} {z:List PL} (ht:P.underlying t = some (.slice e)) (hn:mU P e = some sz) (hby:Rz P e = some bytes) (hz:Dr P e = some z) (hzl:z.length = sz) (h0:0 < sz) (hb0:0 < bytes)
  {u:CV} {uv:Value} {new:List (List FV)} (hu:gX Fz κ w u uv) (hr:rX σ u = some new) (hall:new.all (fun r=>r.length == sz) = true) {e1:TypeId} {v:Value} {rows:List (List FV)} {inner:List Value} (hown:w.ownsRow 0 e1 sz v rows.length inner) (hin:fF Fz w sz rows inner)
  (hle:(rows.length + new.length) * bytes ≤ 140737488355328) (hfz:∀ b,v.ownBlock = some b → ¬ Fz b) :
  ∃ v' w' wQ e2,(Builtin.append_ #[t,t] ty #[v,uv]).run P w = .ok v' w' ∧ w'.ownsRow 0 e2 sz v' (rows ++ new).length wQ ∧ fF Fz w' sz (rows ++ new) wQ ∧ w.grownBy w' v.ownBlock ∧ (v'.ownBlock = v.ownBlock ∨ v'.ownBlock = some w.heap.size):=by
 obtain ⟨A,c,vs,rfl,e2,e3⟩:=Ie h hu hr hall
 obtain ⟨i,zv,z1,z2,z3⟩:=wP (Fz:=Fz) (κ:=κ) (w:=w) hz
 have hsz:i.size = sz:=by unfold mU at hn;rw [z1] at hn;simpa using hn
 have hbt:i.bytes = bytes:=by unfold Rz at hby;rw [z1] at hby;simpa using hby
 have hlz:=z3.length
 rw [Array.length_toList,hzl] at hlz
 rcases e3 with ⟨rfl,rfl⟩ | ⟨ad,rfl,e4⟩
 ·refine ⟨v,w,inner,e1,DC ht z1 hown,by rw [amC];exact hown,by rw [amC];exact hin,⟨rfl,rfl,rfl,alC _,fun _ _ _=>rfl⟩,.inl rfl⟩
 ·have hle2:rows.length + new.length ≤ 140737488355328:=alU (Nat.le_mul_of_pos_right _ hb0) hle
  have key:∃ v' w' e2,(Builtin.append_ #[t,t] ty #[v,.slice (some ad) new.length c]).run P w = .ok v' w' ∧ w'.ownsRow 0 e2 sz v' (rows.length + new.length) (inner ++ vs) ∧ w.grownBy w' v.ownBlock ∧ (v'.ownBlock = v.ownBlock ∨ v'.ownBlock = some w.heap.size):=by
   rcases hown.2 with ⟨e5,e6⟩ | ⟨g,cap,cur,e5,e6,e7,e8,e9,e10,e11⟩
   ·have hx:inner = []:=am5 (by have:=hown.1;rw [e6] at this;simpa using this)
    subst hx
    obtain ⟨v',w',r1,r2,r3,r4,r5⟩:=run_append_own_at (P:=P) w 0 t ty e i zv sz bytes ht z1 z2 hsz hbt (by omega) h0 v rows.length [] ⟨hown.1,.inl ⟨e5,e6⟩⟩ ad new.length c vs e2.len e4 e2.one (by simp only [maxLen];omega) hle (amn _)
    exact ⟨v',w',e,r1,r2,r3,r5⟩
   ·have hlen:(inner ++ vs).length = (rows.length + new.length) * sz:=by rw [alX,hown.1,e2.len,Nat.add_mul]
    by_cases hroom:rows.length + new.length ≤ cap
    ·have hfit:rows.length * i.size + vs.length ≤ cur.size:=by rw [e2.len,e10,hsz,← Nat.add_mul];exact am8 _ hroom
     have hr:=DF (P:=P) (w:=w) t ty e e1 i ht z1 g rows.length cap cur e7 ad new.length c vs (by rw [hsz];exact e2.len) e4 e2.one hroom hfit
     rw [e5]
     refine ⟨_,_,e1,hr,⟨hlen,.inr ⟨g,cap,_,rfl,e6,setRow_heap w g cur _ e1 _ e7,hroom,e9,?_,?_⟩⟩,⟨rfl,rfl,rfl,by simp,fun k _ hk=>setRow_other w g k _ (fun e=>hk (by simp [Value.ownBlock,e]))⟩,Or.inl rfl⟩
     ·simp only [List.size_toArray,alX,alP,al5,Array.length_toList]
      omega
     ·rw [hsz,e11,← hlen]
      exact List.take_left
    ·have holds:∀ j u,inner[j]? = some u → w.cell? ((⟨g,0,none⟩:Addr).add j) = some u:=hown.cells (g:=g) (by rw [e5];rfl)
     have hr:=run_append_grow (P:=P) w t ty e i zv ht z1 z2 ⟨g,0,none⟩ rows.length cap inner (by rw [hsz];exact hown.1) holds ad new.length c vs (by rw [hsz];exact e2.len) e4 (by omega) (by omega) (growslice_fits (by omega) (by rw [hbt];exact hle))
     have hge:=grownCap_ge w (rows.length + new.length) cap e
     have hcm:grownCap w (rows.length + new.length) cap e ≤ maxLen:=grownCap_le_maxLen w (rows.length + new.length) cap e (by simp only [maxLen];omega)
     rw [e5]
     refine ⟨_,_,e,hr,⟨hlen,.inr ⟨w.heap.size,_,_,rfl,amn _,heap_alloc_new w.drew _,hge,hcm,?_,?_⟩⟩,⟨rfl,rfl,rfl,by simp,fun k hk _=>heap_alloc_old w.drew _ hk⟩,Or.inr rfl⟩
     ·simp only [Array.size_append,List.size_toArray,size_zeroCells,show zv.cells.size = sz by omega,hown.1,e2.len,← Nat.add_mul]
      congr 1
      omega
     ·simp only [Array.toList_append,amt]
      rw [← amt,← hlen]
      exact List.take_left
  obtain ⟨v',w',e2',r1,r2,r3,r5⟩:=key
  refine ⟨v',w',inner ++ vs,e2',r1,by rw [alX];exact r2,?_,r3,r5⟩
  refine fF.mono (fun _ h=>h) (fun b hb=>r3.block b (h.fz b hb).1 (fun e=>hfz b e.symm hb)) sz _ _ (hin.app e2)
theorem aaT (h:Rel bK w0 bJ N Fz κ σ a w) {t ty e:TypeId} {sz bytes:Nat} {z:List PL} {x y:Operand} {x' y':eX} (ht:P.underlying t = some (.slice e)) (hn:mU P e = some sz) (hby:Rz P e = some bytes) (hz:Dr P e = some z) (hzl:z.length = sz) (h0:0 < sz) (hb0:0 < bytes)
  (hx:gD x = some x') (hy:gD y = some y') (hE:dL Γ q σ d (.app e sz bytes x' y') = some (pv,σ')) :
  Does P bK w0 bJ N q d Fz κ σ a w (do let v ← Builtin.append_ #[t,t] ty #[a.eval x,a.eval y];Pure.pure (.value v)) σ' pv:=by
 obtain ⟨v,h1,h2⟩:=zbm hE
 obtain ⟨u,h3,h4⟩:=zbm h2
 obtain ⟨new,h5,h6⟩:=zbm h4
 have hv:=h.eval hx h1
 have hu:=h.eval hy h3
 split at h6
 ·split at h6
  ·rename_i hc
   obtain ⟨s,h7,h8⟩:=zmm h6
   cases h8
   have hown:w.ownsRow 0 e sz (.slice none 0 0) ([]:List (List FV)).length []:=World.ownsRow_nil w _ e sz
   obtain ⟨v',w',wQ,e2,r1,r2,r3,r4,r5⟩:=JE (P:=P) (ty:=ty) (rows:=[]) h ht hn hby hz hzl h0 hb0 hu h5 hc.2.2 hown rfl (by simpa using hc.2.1) (fun b hb=>by cases hb)
   rw [List.nil_append] at r2 r3
   have hb:∀ b,blk v' = some b → w.heap.size ≤ b ∧ b < w'.heap.size:=by
    intro b hb
    have gY:v'.ownBlock = some b:=by
     rcases r2.2 with ⟨e1,_⟩ | ⟨g,cap,cur,e1,_⟩ <;> rw [e1] at hb ⊢ <;> exact hb
    rcases r5 with r5 | r5
    ·rw [gY] at r5;cases r5
    ·rw [gY] at r5;cases r5;exact ⟨alC _,(r2.lt _ gY).2⟩
   have hval:∃ A c,v' = .slice A new.length c:=by
    rcases r2.2 with ⟨e1,e3⟩ | ⟨g,cap,cur,e1,_⟩
    ·exact ⟨none,0,by rw [e1,e3]⟩
    ·exact ⟨_,_,e1⟩
   obtain ⟨A,c,hA⟩:=hval
   refine ⟨_,w',_,_,v',by rw [show a.eval x = .slice none 0 0 from hv,Sem.run_bind,r1];rfl,.inl rfl,Good.new (pl:=.own (dY d) new.length) h h7 r4.size (fun b hb=>r4.block b hb (by simp [Value.ownBlock])) hb ⟨r4.os,r4.output⟩ ?_ ⟨by rw [cK],A,c,hA⟩⟩
   exact ⟨h0,e2,wQ,A,c,by rw [cK];exact hA,by rw [cK];exact r2,r3⟩
  ·cases h6
 ·rename_i key n
  split at h6
  ·rename_i sz' rows gY
   split at h6
   ·rename_i hc
    cases h6
    obtain ⟨hq,c1,c2,c3,c4,c6,c5⟩:=hc
    subst c2
    subst c3
    obtain ⟨o0,e1,inner,A,c,o1,o2,o3⟩:=h.obj gY
    have u6:∀ b,(κ key).ownBlock = some b → blk (κ key) = some b:=fun b hb=>Dp hb
    obtain ⟨v',w',wQ,e2,r1,r2,r3,r4,r5⟩:=JE (P:=P) (ty:=ty) h ht hn hby hz hzl h0 hb0 hu h5 c5 o2 o3 c1 (fun b hb hf=>(h.pos _ (get_mem gY) b (u6 b hb)).1 hf)
    have hval:∃ A c,v' = .slice A (rows ++ new).length c:=by
     rcases r2.2 with ⟨e1,e3⟩ | ⟨g,cap,cur,e1,_⟩
     ·exact ⟨none,0,by rw [e1,e3]⟩
     ·exact ⟨_,_,e1⟩
    obtain ⟨A',c',hA⟩:=hval
    have hbo:∀ b,blk (κ key) = some b → (κ key).ownBlock = some b:=fun b hb=>by rw [o1] at hb ⊢;cases A <;> exact hb
    have hb:∀ b,blk v' = some b → b < w'.heap.size ∧ (blk (κ key) = some b ∨ w.heap.size ≤ b):=by
     intro b hb
     have Xn:v'.ownBlock = some b:=by rw [hA] at hb ⊢;cases A' <;> exact hb
     refine ⟨(r2.lt _ Xn).2,?_⟩
     rcases r5 with r5 | r5
     ·rw [Xn] at r5;exact .inl (u6 b r5.symm)
     ·rw [Xn] at r5;cases r5;exact .inr (alC _)
    have hmv:∀ b,b < w.heap.size → blk (κ key) ≠ some b → w'.heap[b]? = w.heap[b]?:=fun b hb hne=>r4.block b hb (fun e=>hne (u6 b e.symm))
    have hrel:=h.moved (o':=.row sz' (rows ++ new)) (v':=v') gY ⟨A,_,c,o1⟩ r4.size hmv hb ⟨r4.os,r4.output⟩ ⟨h0,e2,wQ,A',c',by rw [cK];exact hA,by rw [cK];exact r2,r3⟩
    subst hq
    refine ⟨_,w',_,Fz,v',by rw [hv.1,Sem.run_bind,r1];rfl,.inl rfl,hrel,⟨by rw [cK],A',c',by rw [hA,alX]⟩,fun _ h=>h,fun k hk=>fG (fun e=>by subst e;omega) v'⟩
   ·cases h6
  ·cases h6
 ·cases h6
end
end
section
open Go
section
variable {P : Program} {Γ:Env} {bK Fz bR:Nat → Prop} {w0 w w':World} {bJ:List Nat} {N:Fr} {d:Nat} {q:Bool} {κ gq:Nat → Value} {σ σ1 σ':St} {a:Act} {pv:PV} {o:Oper}
theorem NC (h:Rel bK w0 bJ N Fz κ σ a w) {op:BinOp} {t e:TypeId} {neg:Bool} {x y:Operand} {x' y':eX} (hu:P.underlying t = some (.slice e)) (hop:(op = .eql ∧ neg = false) ∨ (op = .neq ∧ neg = true)) (hx:gD x = some x') (hy:gD y = some y') (hn:Np y' = true) (hE:dL Γ q σ d (.Dh neg x') = some (pv,σ')) :
  Does P bK w0 bJ N q d Fz κ σ a w (do let v ← (do eqGuard op t x y (a.eval x) (a.eval y);binOp op t (a.eval x) (a.eval y):Sem Value);Pure.pure (.value v)) σ' pv:=by
 have hyv:a.eval y = .slice none 0 0:=by
  unfold Np at hn
  split at hn
  ·exact h.eval (v:=.one .dz) hy rfl
  ·cases hn
 obtain ⟨v,h1,h2⟩:=zbm hE
 have hv:=h.eval hx h1
 have hg:∀ p n c,(eqGuard op t x y (.slice p n c) (.slice none 0 0)).run P w = .ok () w:=by
  intro p n c
  unfold eqGuard
  rcases hop with ⟨rfl,_⟩ | ⟨rfl,_⟩ <;> rfl
 have run:∀ p n c,a.eval x = .slice p n c → pv = .c (.one (.f (.bool (if neg then !p.isNone else p.isNone)))) → σ' = σ → Does P bK w0 bJ N q d Fz κ σ a w (do let v ← (do eqGuard op t x y (a.eval x) (a.eval y);binOp op t (a.eval x) (a.eval y):Sem Value);Pure.pure (.value v)) σ' pv:=by
  intro p n c hp hpv hs
  subst hpv
  subst hs
  refine Does.pure h (v:=.bool (if neg then !p.isNone else p.isNone)) ?_ rfl
  rw [hp,hyv]
  simp only [Sem.run_bind,hg,Result.andThen_ok]
  rcases hop with ⟨rfl,rfl⟩ | ⟨rfl,rfl⟩
  ·have:=run_equal_slice_nil w t e p n c hu
   simp only [binOp,Sem.run_bind,this,Result.andThen_ok,Sem.run_pure]
   simp
  ·exact run_neq_slice_nil w t e p n c hu
 split at h2
 ·cases h2;exact run none 0 0 hv (by cases neg <;> rfl) rfl
 ·cases h2
  simp only [gX,fD,fU] at hv
  obtain ⟨A,c,e1,_,_,e2⟩:=hv
  rcases e2 with e2 | ⟨b,o,sz,rfl,_⟩
  ·cases e2
  ·exact run _ _ _ e1 (by cases neg <;> rfl) rfl
 ·cases h2
theorem tQ {op:BinOp} {t:TypeId} {x y:Operand} {k k':IntKind} {m n:Int}:(eqGuard op t x y (.int k m) (.int k' n)).run P w = .ok () w:=by
 unfold eqGuard
 cases op <;> rfl
theorem aaU (h:Rel bK w0 bJ N Fz κ σ a w) {op:BinOp} {t:TypeId} {x y:Operand} {x' y':eX} (ho:op = .or ∨ op = .and ∨ op = .xor) (hx:gD x = some x') (hy:gD y = some y') (hE:dL Γ q σ d (.bit op x' y') = some (pv,σ')) :
  Does P bK w0 bJ N q d Fz κ σ a w (do let v ← (do eqGuard op t x y (a.eval x) (a.eval y);binOp op t (a.eval x) (a.eval y):Sem Value);Pure.pure (.value v)) σ' pv:=by
 obtain ⟨u,h1,h2⟩:=zbm hE
 obtain ⟨v,h3,h4⟩:=zbm h2
 obtain ⟨m,h5,h6⟩:=zbm h4
 obtain ⟨n,h7,h8⟩:=zbm h6
 split at h8
 ·rename_i hk
  cases h8
  have e1:=iT h5 (h.eval hx h1)
  have e2:=iT h7 (h.eval hy h3)
  obtain ⟨k,m⟩:=m
  obtain ⟨k',n⟩:=n
  simp only at hk e1 e2
  subst hk
  refine Does.pure h (v:=.int k (Go.bits op k m n)) ?_ rfl
  rw [e1,e2]
  refine kS tQ ?_
  rcases ho with rfl | rfl | rfl
  ·rw [binOp_or,intBits_or];rfl
  ·rw [binOp_and,intBits_and];rfl
  ·rw [binOp_xor,intBits_xor];rfl
 ·cases h8
theorem Vr (h:Rel bK w0 bJ N Fz κ σ a w) {op:BinOp} {t:TypeId} {l:Bool} {x y:Operand} {x' y':eX} (ho:(op = .shl ∧ l = true) ∨ (op = .shr ∧ l = false)) (hx:gD x = some x') (hy:gD y = some y') (hE:dL Γ q σ d (.WV l x' y') = some (pv,σ')) :
  Does P bK w0 bJ N q d Fz κ σ a w (do let v ← (do eqGuard op t x y (a.eval x) (a.eval y);binOp op t (a.eval x) (a.eval y):Sem Value);Pure.pure (.value v)) σ' pv:=by
 obtain ⟨u,h1,h2⟩:=zbm hE
 obtain ⟨v,h3,h4⟩:=zbm h2
 obtain ⟨m,h5,h6⟩:=zbm h4
 obtain ⟨n,h7,h8⟩:=zbm h6
 split at h8
 ·rename_i hk
  cases h8
  have e1:=iT h5 (h.eval hx h1)
  have e2:=iT h7 (h.eval hy h3)
  obtain ⟨k,m⟩:=m
  obtain ⟨k',n⟩:=n
  simp only at hk e1 e2
  refine Does.pure h (v:=.int k (if l then k.wrap (m * 2 ^ (min n.toNat k.bits)) else m.fdiv (2 ^ (min n.toNat k.bits)))) ?_ rfl
  rw [e1,e2]
  refine kS tQ ?_
  have hn:¬ n < 0:=by omega
  rcases ho with ⟨rfl,rfl⟩ | ⟨rfl,rfl⟩
  ·simp only [binOp,Op.shift,aly hn];rfl
  ·simp only [binOp,Op.shift,aly hn];rfl
 ·cases h8
theorem zA : ∀ (ns:List Int) (s:ByteArray),ns.foldl (fun r n=>r.push (UInt8.ofNat n.toNat)) s = ⟨s.data ++ (ns.map fun n=>UInt8.ofNat n.toNat).toArray⟩
 | [],s=>by simp
 | n :: ns,s=>by
  rw [List.foldl_cons,zA ns]
  simp [ByteArray.push]
theorem uw : ∀ {rows:List (List FV)} {s:ByteArray},bytesOf rows = some s → ∃ ns:List Int,rows = ns.map (fun n=>[FV.int .u8 n]) ∧ s = ⟨(ns.map fun n=>UInt8.ofNat n.toNat).toArray⟩
 | [],s,h=>by cases h;exact ⟨[],rfl,rfl⟩
 | r :: rows,s,h=>by
  unfold bytesOf at h
  split at h
  ·rename_i heq;cases heq
  ·rename_i n l heq
   injection heq with e1 e2
   subst e1
   subst e2
   obtain ⟨s',h1,rfl⟩:=zmm h
   obtain ⟨ns,rfl,rfl⟩:=uw h1
   exact ⟨n :: ns,rfl,by simp⟩
  ·cases h
theorem tT {b:Nat}:∀ (ns:List Int) (sz o:Nat),dO Fz w sz b o (ns.map (fun n=>[FV.int .u8 n])) → ns ≠ [] → ∀ j v,(ns.map (Value.int .u8))[j]? = some v → w.cell? ⟨b,o + j,none⟩ = some v
 | [],_,_,_,h,_,_,_=>absurd rfl h
 | n :: ns,sz,o,h,_,j,v,hj=>by
  simp only [alD,dO] at h
  obtain ⟨h1,h2,h3⟩:=h
  have hsz:sz = 1:=by simpa using h1.symm
  subst hsz
  simp only [fC,fU] at h2
  cases j with
  | zero =>
   obtain ⟨⟨u,e1,e2⟩,_⟩:=h2
   simp at hj
   rw [Nat.add_zero,e1,e2,hj]
  | succ j =>
   simp at hj
   have hne:ns ≠ []:=by rintro rfl;simp at hj
   have:=tT ns 1 (o + 1) h3 hne j v (by simpa using hj)
   rwa [show o + 1 + j = o + (j + 1) from by omega] at this
theorem sj {src dst e:TypeId} (hs:P.underlying src = some (.slice e)) (he:P.underlying e = some (.int .u8)) (hd:P.underlying dst = some .string) {A:Option Addr} {c:Nat} {ns:List Int} (hA:A = none ∨ ∃ ad:Addr,A = some ad ∧ ∀ j v,(ns.map (Value.int .u8))[j]? = some v → w.cell? (ad.add j) = some v) (hn:A = none → ns = []) :
  (convert src dst (.slice A ns.length c)).run P w = .ok (.string ⟨(ns.map fun n=>UInt8.ofNat n.toNat).toArray⟩) w:=by
 rw [run_convert_bytes_string w src dst e A _ c hs he hd]
 rcases hA with rfl | ⟨ad,rfl,hc⟩
 ·rw [hn rfl];rfl
 ·rw [run_bytesToString w ad ns.length c ns (by
   have:=run_loadCells_list (P:=P) w ad (ns.map (Value.int .u8)) hc
   simpa using this),zA]
  simp [ByteArray.empty,ByteArray.emptyWithCapacity]
  rfl
theorem aaV (h:Rel bK w0 bJ N Fz κ σ a w) {src dst e:TypeId} {x:Operand} {x':eX} (hs:P.underlying src = some (.slice e)) (he:P.underlying e = some (.int .u8)) (hd:P.underlying dst = some .string) (hx:gD x = some x') (hE:dL Γ q σ d (.ZE x') = some (pv,σ')) :
  Does P bK w0 bJ N q d Fz κ σ a w (do let v ← convert src dst (a.eval x);Pure.pure (.value v)) σ' pv:=by
 obtain ⟨v,h1,h2⟩:=zbm hE
 have hv:=h.eval hx h1
 split at h2
 ·rename_i rows
  obtain ⟨s,h3,h4⟩:=zbm h2
  cases h4
  obtain ⟨ns,rfl,rfl⟩:=uw h3
  simp only [gX,fD,fU] at hv
  obtain ⟨A,c,e1,_,_,e2⟩:=hv
  rw [alA] at e1
  by_cases hn:ns = []
  ·subst hn
   refine Does.pure h (v:=.string ⟨#[]⟩) ?_ rfl
   rw [e1]
   cases A with
   | none=>exact sj (A:=none) (ns:=[]) hs he hd (.inl rfl) (fun _=>rfl)
   | some ad=>exact sj (A:=some ad) (ns:=[]) hs he hd (.inr ⟨ad,rfl,fun j v hj=>by simp at hj⟩) (fun _=>rfl)
  ·rcases e2 with e2 | ⟨b,o,sz,rfl,_,e3⟩
   ·exact absurd (by simpa using e2) hn
   ·refine Does.pure h (v:=.string _) ?_ rfl
    rw [e1]
    refine sj hs he hd (.inr ⟨_,rfl,fun j v hj=>?_⟩) (fun h=>by cases h)
    rw [nT]
    exact tT ns sz o e3 hn j v hj
 ·cases h2
  refine Does.pure h (v:=.string ⟨#[]⟩) ?_ rfl
  rw [show a.eval x = .slice none 0 0 from hv]
  exact sj (A:=none) (ns:=[]) hs he hd (.inl rfl) (fun _=>rfl)
 ·rename_i key n
  split at h2
  ·rename_i sz rows gY
   split at h2
   ·rename_i hz
    subst hz
    obtain ⟨s,h3,h4⟩:=zbm h2
    cases h4
    obtain ⟨ns,rfl,rfl⟩:=uw h3
    obtain ⟨_,e1,inner,A,c,o1,o2,o3⟩:=h.obj gY
    have hin:∀ (ns:List Int) (inner:List Value),fF Fz w 1 (ns.map fun n=>[FV.int .u8 n]) inner → inner = ns.map (Value.int .u8):=by
     intro ns
     induction ns with
     | nil=>intro inner h;exact h
     | cons n ns ih =>
      intro inner h
      simp only [alD,fF] at h
      obtain ⟨_,h2,h3⟩:=h
      cases inner with
      | nil=>exact h2.elim
      | cons u inner =>
       simp only [List.take_succ_cons,List.take_zero,dJ,fU,List.drop_succ_cons,amG] at h2 h3
       rw [ih _ h3,h2.1];rfl
    have hi:=hin ns inner o3
    refine Does.pure h (v:=.string _) ?_ rfl
    rw [show a.eval x = .slice A ns.length c by rw [hv.1,o1,alA]]
    rw [alA] at o2
    rcases o2.2 with ⟨e5,e6⟩ | ⟨g,cap,cur,e5,e6,e7,_⟩
    ·rw [o1] at e5
     injection e5 with e5 _ _
     subst e5
     have hns:ns = []:=am5 e6
     subst hns
     exact sj (A:=none) (ns:=[]) hs he hd (.inl rfl) (fun _=>rfl)
    ·rw [o1] at e5
     injection e5 with e8 _ _
     subst e8
     refine sj hs he hd (.inr ⟨_,rfl,fun j v hj=>?_⟩) (fun h=>by cases h)
     exact o2.cells (g:=g) (by rw [o1];rfl) j v (by rw [hi];exact hj)
   ·cases h2
  ·cases h2
 ·cases h2
theorem fF.head {sz:Nat}:∀ {rows:List (List FV)} {inner:List Value} (k:Nat),fF Fz w sz rows inner → inner.length = rows.length * sz → fF Fz w sz (rows.take k) (inner.take (k * sz))
 | rows,inner,0,h,_=>by rw [List.take_zero,amK,List.take_zero];rfl
 | [],inner,k + 1,h,hl=>by
  have:inner = []:=h
  subst this
  rw [List.take_nil,List.take_nil];rfl
 | r :: rows,inner,k + 1,h,hl=>by
  obtain ⟨h1,h2,h3⟩:=h
  rw [List.take_succ_cons]
  rw [List.length_cons,ams] at hl
  refine ⟨h1,?_,?_⟩
  ·rw [List.take_take,anz (by rw [ams];omega)];exact h2
  ·have:=fF.head k h3 (by rw [al5];omega)
   rw [List.drop_take,ams,Nat.add_sub_cancel]
   exact this
theorem Xo (h:Rel bK w0 bJ N Fz κ σ a w) {t e:TypeId} {sz:Nat} {x y:Operand} {x' y':eX} (hu:P.underlying t = some (.slice e)) (hn:mU P e = some sz) (hx:gD x = some x') (hy:gD y = some y') (hE:dL Γ q σ d (.H8 sz x' y') = some (pv,σ')) :
  Does P bK w0 bJ N q d Fz κ σ a w (do let v ← Instr.sliceAt t (a.eval x) none (some (a.eval y)) none;Pure.pure (.value v)) σ' pv:=by
 simp only [dL] at hE
 split at hE
 ·cases hE
 rename_i hq
 obtain ⟨v,h1,h2⟩:=zbm hE
 obtain ⟨j,h3,h4⟩:=zbm h2
 obtain ⟨p,h5,h6⟩:=zbm h4
 have hv:=h.eval hx h1
 have hj:=iT h5 (h.eval hy h3)
 split at h6
 ·rename_i key n
  split at h6
  ·rename_i sz' rows gY
   split at h6
   ·rename_i hc
    cases h6
    obtain ⟨rfl,c1,c2,c3⟩:=hc
    obtain ⟨o0,e1,inner,A,c,o1,o2,o3⟩:=h.obj gY
    have hk:p.2.toNat ≤ rows.length:=by omega
    have hlen:((rows.take p.2.toNat)).length = p.2.toNat:=by rw [alP];omega
    have hle:rows.length ≤ c:=by
     rcases o2.2 with ⟨e5,e6⟩ | ⟨g,cap,cur,e5,e6,e7,e8,_⟩
     ·rw [e6];exact amn _
     ·rw [o1] at e5;injection e5 with _ _ e9;subst e9;exact e8
    have hb:(Instr.sliceBounds true rows.length c none (some (.int p.1 p.2)) none).run P w = .ok (0,p.2.toNat,c) w:=by
     have hc':0 ≤ p.2 ∧ p.2 ≤ (c:Int):=⟨c2,by omega⟩
     unfold Instr.sliceBounds Instr.sliceBound
     simp only [Sem.run_bind,Sem.run_pure,Result.andThen_ok,jw,alx hc']
    have hrun:=qX (P:=P) (w:=w) hu hn (A:=A) hb
    rw [amK,Nat.sub_zero,Nat.sub_zero] at hrun
    have hA:(if c = 0 then A else A.map (·.add 0)) = A:=by
     split
     ·rfl
     ·cases A with
      | none=>rfl
      | some ad=>simp [Option.map_some,Addr.add]
    rw [hA] at hrun
    have hown:w.ownsRow 0 e1 sz' (.slice A p.2.toNat c) (rows.take p.2.toNat).length (inner.take (p.2.toNat * sz')):=by
     rw [hlen]
     refine ⟨by rw [alP,o2.1];exact anz (am8 _ hk),?_⟩
     rcases o2.2 with ⟨e5,e6⟩ | ⟨g,cap,cur,e5,e6,e7,e8,e9,e10,e11⟩
     ·left
      rw [o1] at e5
      injection e5 with e5 e5' ND
      subst e5
      subst ND
      have:p.2.toNat = 0:=by omega
      rw [this]
      exact ⟨rfl,rfl⟩
     ·right
      rw [o1] at e5
      injection e5 with e5 _ ND
      subst e5
      subst ND
      refine ⟨g,c,cur,rfl,e6,e7,by omega,e9,e10,?_⟩
      rw [← e11,List.take_take,anz (am8 _ hk)]
    have hbk:∀ b,blk (.slice A p.2.toNat c) = some b → b < w.heap.size ∧ (blk (κ key) = some b ∨ w.heap.size ≤ b):=by
     intro b hb1
     have hb2:blk (κ key) = some b:=by rw [o1];cases A <;> exact hb1
     exact ⟨(h.pos _ (get_mem gY) b hb2).2.1,.inl hb2⟩
    have hrel:=h.moved (w':=w) (o':=.row sz' (rows.take p.2.toNat)) (v':=.slice A p.2.toNat c) gY ⟨A,_,c,o1⟩ (alC _) (fun _ _ _=>rfl) hbk ⟨rfl,rfl⟩ ⟨o0,e1,_,A,c,by rw [cK,hlen],by rw [cK];exact hown,o3.head _ o2.1⟩
    refine ⟨_,w,_,Fz,.slice A p.2.toNat c,?_,.inl rfl,hrel,⟨by rw [cK],A,c,rfl⟩,fun _ h=>h,fun k hk=>fG (fun e=>by subst e;omega) _⟩
    rw [hv.1,o1,hj,Sem.run_bind,hrun]
    rfl
   ·cases h6
  ·cases h6
 ·cases h6
theorem Xp (h:Rel bK w0 bJ N Fz κ σ a w) {t e:TypeId} {sz:Nat} {x y:Operand} {x' y':eX} (hu:P.underlying t = some (.slice e)) (hn:mU P e = some sz) (hx:gD x = some x') (hy:gD y = some y') (hE:dL Γ q σ d (.cutV sz x' y') = some (pv,σ')) :
  Does P bK w0 bJ N q d Fz κ σ a w (do let v ← Instr.sliceAt t (a.eval x) (some (a.eval y)) none none;Pure.pure (.value v)) σ' pv:=by
 simp only [dL] at hE
 obtain ⟨v,h1,h2⟩:=zbm hE
 obtain ⟨j,h3,h4⟩:=zbm h2
 obtain ⟨p,h5,h6⟩:=zbm h4
 have hv:=h.eval hx h1
 have hj:=iT h5 (h.eval hy h3)
 split at h6
 ·rename_i key n
  split at h6
  ·rename_i sz' rows gY
   split at h6
   ·rename_i hc
    cases h6
    obtain ⟨rfl,c2,c3⟩:=hc
    obtain ⟨o0,e1,inner,A,c,o1,o2,o3⟩:=h.obj gY
    have hb:(Instr.sliceBounds true rows.length c (some (.int p.1 p.2)) none none).run P w = .ok (p.2.toNat,rows.length,c) w:=by
     have hc':0 ≤ p.2 ∧ p.2 ≤ (rows.length:Int):=⟨c2,c3⟩
     unfold Instr.sliceBounds Instr.sliceBound
     simp only [Sem.run_bind,Sem.run_pure,Result.andThen_ok,jw,alx hc',Option.isSome_none,al4,alV]
    have hrun:=qX (P:=P) (w:=w) hu hn (A:=A) hb
    refine Does.pure h (v:=.slice (if c = p.2.toNat then A else A.map (·.add (p.2.toNat * sz'))) (rows.length - p.2.toNat) (c - p.2.toNat)) ?_ ⟨A,c,o1,rfl⟩
    rw [hv.1,o1,hj]
    exact hrun
   ·cases h6
  ·cases h6
 ·cases h6
end
end
section
open Go
section
variable {P : Program} {Γ:Env} {bK Fz bR:Nat → Prop} {w0 w w':World} {bJ:List Nat} {N:Fr} {d:Nat} {q:Bool} {κ gq:Nat → Value} {σ σ1 σ':St} {a:Act} {pv:PV} {o:Oper}
theorem fF.zeros {sz:Nat} {z:List FV} {zs:List Value} (hz:dJ Fz w z zs) (hl:z.length = sz):∀ n,fF Fz w sz (List.replicate n z) (List.replicate n zs).flatten
 | 0=>rfl
 | n + 1=>by
  have hlen:=hz.length
  rw [List.replicate_succ,List.replicate_succ,List.flatten_cons]
  refine ⟨hl,?_,?_⟩
  ·rw [List.take_left' (by omega)];exact hz
  ·rw [List.drop_left' (by omega)];exact fF.zeros hz hl n
theorem E5 {α:Type} (zs:List α):∀ n,((List.replicate n zs).flatten).length = n * zs.length
 | 0=>by simp
 | n + 1=>by rw [List.replicate_succ,List.flatten_cons,alX,E5 zs n,ams];omega
theorem E8 {cells:Array Value} (h:0 < cells.size) (n:Nat):(Builtin.zeroCells cells n).toList = (List.replicate n cells.toList).flatten:=by
 unfold Builtin.zeroCells
 rw [amS,Array.toList_range]
 exact mW cells h n
theorem Bo {t e ty:TypeId} {i:TypeInfo} {zv:Value} (hu:P.underlying t = some (.slice e)) (hie:P.info? e = some i) (hz:i.zero = some zv) {g off m c:Nat} {cur:Array Value} {e1:TypeId} (hg:w.heap[g]? = some (.cells cur e1 (0,0))) (hm:0 < m) {zs:List Value} (hzs:(Builtin.zeroCells zv.cells m).toList = zs) (hfit:off + zs.length ≤ cur.size) (h1:∀ u ∈ zs,u.oneCell' = true) :
  (Builtin.clear_ #[t] ty #[.slice (some ⟨g,off,none⟩) m c]).run P w = .ok (.tuple #[]) (w.setRow g (cur.toList.take off ++ zs ++ cur.toList.drop (off + zs.length)).toArray):=by
 obtain ⟨m,rfl⟩:∃ k,m = k + 1:=⟨m - 1,by omega⟩
 have hst:=run_storeCells_at P g off e1 zs 0 cur w hg (by simpa using hfit) h1
 simp only [Nat.add_zero] at hst
 unfold Builtin.clear_
 simp [run_underlying hu,zeroValue,typeInfo,hie,hz,hzs,hst]
theorem zB {t e ty:TypeId} (hu:P.underlying t = some (.slice e)) {A:Option Addr} {c:Nat}:(Builtin.clear_ #[t] ty #[.slice A 0 c]).run P w = .ok (.tuple #[]) w:=by
 unfold Builtin.clear_
 cases A <;> simp [run_underlying hu]
theorem aaW (h:Rel bK w0 bJ N Fz κ σ a w) {t ty e:TypeId} {sz:Nat} {zp:List PL} {z:List FV} {x:Operand} {x':eX} (hu:P.underlying t = some (.slice e)) (hzp:Dr P e = some zp) (hz:rZ zp = some z) (hx:gD x = some x') (hE:dL Γ q σ d (.Vm sz z x') = some (pv,σ')) :
  Does P bK w0 bJ N q d Fz κ σ a w (do let v ← Builtin.clear_ #[t] ty #[a.eval x];Pure.pure (.value v)) σ' pv:=by
 obtain ⟨v,h1,h2⟩:=zbm hE
 have hv:=h.eval hx h1
 split at h2
 ·rename_i key z' n lo
  split at h2
  ·rename_i sz' rows gY
   split at h2
   ·rename_i hc
    cases h2
    obtain ⟨rfl,rfl,c1,rfl,c2⟩:=hc
    obtain ⟨A,c,hA,ZL⟩:=hv
    obtain ⟨o0,e1,inner,A',c',o1,o2,o3⟩:=h.obj gY
    rw [o1] at hA
    injection hA with hA1 _ hA3
    subst hA1
    subst hA3
    obtain ⟨i,zv,g1,g2,g3⟩:=wP (Fz:=Fz) (κ:=κ) (w:=w) hzp
    have hfs:=uq hz g3
    have hzl:=hfs.length
    rw [Array.length_toList] at hzl
    by_cases hlt:lo < rows.length
    ·rcases o2.2 with ⟨e5,e6⟩ | ⟨g,cap,cur,e5,e6,e7,e8,e9,e10,e11⟩
     ·omega
     ·rw [o1] at e5
      injection e5 with e5 _ ND
      subst e5
      subst ND
      have e:zv.cells.toList.length = z':=by rw [Array.length_toList];omega
      have hzr:=fF.zeros hfs c1 (rows.length - lo)
      have hlz:=E5 zv.cells.toList (rows.length - lo)
      have hzc:=E8 (cells:=zv.cells) (by omega) (rows.length - lo)
      rw [e] at hlz
      generalize (List.replicate (rows.length - lo) zv.cells.toList).flatten = Z at hlz hzr hzc
      have hfit:lo * z' + (rows.length - lo) * z' ≤ cur.size:=by
       rw [← Nat.add_mul,e10];exact am8 _ (by omega)
      have hrun:=Bo (P:=P) (ty:=ty) (off:=lo * z') (c:=c' - lo) hu g1 g2 e7 (m:=rows.length - lo) (by omega) hzc (by omega) hzr.one
      refine ⟨_,w.setRow g (cur.toList.take (lo * z') ++ Z ++ cur.toList.drop (lo * z' + Z.length)).toArray,κ,Fz,.tuple #[],?_,.inl rfl,Good.set h gY (by simp) (fun k _ hk=>setRow_other w g k _ (fun e=>hk (by rw [o1,e];rfl))) (Kp.setRow _ _ _) ?_ ⟨_,rfl,trivial⟩⟩
      ·rw [ZL,aly (by omega),Option.map_some,nT,amc,Sem.run_bind,hrun];rfl
      ·have hl:(rows.take lo ++ List.replicate (rows.length - lo) z).length = rows.length:=by
        rw [alX,alP,List.length_replicate];omega
       have hmv:∀ k,Fz k → (w.setRow g (cur.toList.take (lo * z') ++ Z ++ cur.toList.drop (lo * z' + Z.length)).toArray).heap[k]? = w.heap[k]?:=fun k hk=>setRow_other w g k _ (fun e=>(h.pos _ (get_mem gY) g (by rw [o1];rfl)).1 (e ▸ hk))
       have hle:lo * z' ≤ rows.length * z':=am8 _ c2
       have hti:cur.toList.take (lo * z') = inner.take (lo * z'):=by
        rw [← e11,List.take_take,anz hle]
       have hsum:lo * z' + (rows.length - lo) * z' = rows.length * z':=by rw [← Nat.add_mul];congr 1;omega
       refine ⟨o0,e1,inner.take (lo * z') ++ Z,some ⟨g,0,none⟩,c',by rw [hl];exact o1,?_,fF.mono (fun _ h=>h) hmv _ _ _ ((o3.head lo o2.1).app hzr)⟩
       rw [hl,o1]
       refine ⟨?_,.inr ⟨g,c',_,rfl,e6,setRow_heap w g cur _ e1 _ e7,e8,e9,?_,?_⟩⟩
       ·rw [alX,alP,o2.1,anz hle];omega
       ·simp only [List.size_toArray,alX,alP,al5,Array.length_toList]
        omega
       ·have hl2:(cur.toList.take (lo * z') ++ Z).length = rows.length * z':=by
         simp only [alX,alP,Array.length_toList]
         omega
        rw [← hti,← hl2]
        exact List.take_left
    ·have hlo:lo = rows.length:=by omega
     subst hlo
     have hr:rows.take rows.length ++ List.replicate (rows.length - rows.length) z = rows:=by simp
     rw [hr]
     refine ⟨_,w,κ,Fz,.tuple #[],?_,.inl rfl,Good.set h gY (alC _) (fun _ _ _=>rfl) ⟨rfl,rfl⟩ (h.obj gY) ⟨_,rfl,trivial⟩⟩
     rw [ZL,Nat.sub_self,Sem.run_bind,zB hu]
     rfl
   ·cases h2
  ·cases h2
 ·cases h2
theorem fC.of {b:Nat}:∀ {r:List FV} {vs:List Value} {o:Nat},dJ Fz w r vs → (∀ j v,vs[j]? = some v → w.cell? ⟨b,o + j,none⟩ = some v) → fC Fz w b o r
 | [],_,_,_,_=>trivial
 | x :: r,[],_,h,_=>h.elim
 | x :: r,v :: vs,o,h,hc=>by
  simp only [fC]
  refine ⟨⟨v,by have:=hc 0 v rfl;rwa [Nat.add_zero] at this,h.1⟩,fC.of h.2 (fun j u hj=>?_)⟩
  have:=hc (j + 1) u (by simpa using hj)
  rwa [show o + (j + 1) = o + 1 + j from by omega] at this
section
variable {g : PL → PL} (hg:∀ x v,fD Fz κ w x v → fD bR κ w (g x) v)
include hg
theorem bG.map : ∀ {xs:List PL} {vs:List Value},bG Fz κ w xs vs → bG bR κ w (xs.map g) vs
 | [],[],_=>trivial
 | x :: xs,v :: vs,h=>⟨hg _ _ h.1,bG.map h.2⟩
 | [],_ :: _,h=>h.elim
 | _ :: _,[],h=>h.elim
theorem gX.map {x:CV} {v:Value} (h:gX Fz κ w x v):gX bR κ w (Nh g x) v:=by
 cases x with
 | one x=>exact hg _ _ h
 | agg xs=>obtain ⟨cs,rfl,h⟩:=h;exact ⟨cs,rfl,bG.map hg h⟩
theorem eG.map : ∀ {xs:List CV} {vs:List Value},eG Fz κ w xs vs → eG bR κ w (xs.map (Nh g)) vs
 | [],[],_=>trivial
 | x :: xs,v :: vs,h=>⟨gX.map hg h.1,eG.map h.2⟩
 | [],_ :: _,h=>h.elim
 | _ :: _,[],h=>h.elim
theorem jc.map {x:PV} {v:Value} (h:jc Fz κ w x v):jc bR κ w (W9 g x) v:=by
 cases x with
 | c x=>exact gX.map hg h
 | wK xs=>obtain ⟨cs,rfl,h⟩:=h;exact ⟨cs,rfl,eG.map hg h⟩
theorem jf.map {B k:Nat} (hf:∀ b,Fz b → bR b) {x:Ob} (h:jf B Fz κ w k x):jf B bR κ w k (Xa g x):=by
 cases x with
 | gM xs=>obtain ⟨b,cs,e,h1,h2,h3⟩:=h;exact ⟨b,cs,e,h1,h2,bG.map hg h3⟩
 | row sz rows=>exact jf.mono (o:=.row sz rows) hf (fun _ _=>rfl) (fun _ _=>rfl) (fun _ _=>rfl) h
 | map sh ents=>exact jf.mono (o:=.map sh ents) hf (fun _ _=>rfl) (fun _ _=>rfl) (fun _ _=>rfl) h
end
theorem Xq (h:Rel bK w0 bJ N Fz κ σ a w) {key:Nat} {cs:List FV} {v:Value} (hv:fD Fz κ w (.ptr key 0) v) (hs:ZH σ key = some (cs,σ')) :
  ∃ bR,Rel bK w0 bJ N bR κ σ' a w ∧ (∀ b,Fz b → bR b) ∧ ∃ b o,v = .pointer (some ⟨b,o,none⟩) ∧ bR b ∧ fC bR w b o cs:=by
 unfold ZH at hs
 split at hs
 ·rename_i xs gY
  obtain ⟨p,h1,h2⟩:=zbm hs
  split at h2
  ·rename_i ob1 ahg
   cases h2
   obtain ⟨b,vals,e,o1,o2,o3⟩:=h.obj gY
   obtain ⟨F1,r1,r2,r3⟩:=h.l7 o3 h1
   have hkm:=get_mem ahg
   have hbk:blk (κ key) = some b:=by rw [o1];rfl
   have hf:∀ x,F1 x → F1 x ∨ x = b:=fun x h=>.inl h
   have hrow:fC (fun x=>F1 x ∨ x = b) w b 0 p.1:=by
    have h0:fC F1 w b 0 p.1:=fC.of r3 (fun j u hj=>by
     rw [amc]
     simp only [World.cell?,o2]
     simpa using hj)
    revert h0
    generalize p.1 = r
    generalize (0:Nat) = o
    induction r generalizing o with
    | nil=>intro _;trivial
    | cons x r ih =>
     intro h0
     simp only [fC] at h0 ⊢
     obtain ⟨⟨u,e1,e2⟩,e3⟩:=h0
     exact ⟨⟨u,e1,fU.mono hf (fun _ _=>rfl) x u e2⟩,ih _ e3⟩
   have hL:∀ x u,fD F1 κ w x u → fD (fun x=>F1 x ∨ x = b) κ w (Ng key p.1 x) u:=by
    intro x u hx
    have hm:fD (fun x=>F1 x ∨ x = b) κ w x u:=fD.mono hf (fun _ _=>rfl) (fun _ _=>rfl) hx
    cases x with
    | ptr k o =>
     simp only [Ng]
     split
     ·rename_i hk
      subst hk
      obtain ⟨b',g1,g2⟩:=hx
      rw [o1] at g1
      cases g1
      refine ⟨b,o,g2,.inr rfl,?_⟩
      have:=hrow.drop o
      rwa [amc] at this
     ·exact hm
    | _=>exact hm
   refine ⟨fun x=>F1 x ∨ x = b,⟨fun r hr=>?_,h.sz,h.kM,h.fs,fun r hr=>?_,fun r hr s hs b' hne hb1 hb2=>?_,fun r hr b' hb1=>?_,fun b' hb=>?_,fun b' hb=>.inl (r1.Bc b' hb),h.big,h.ext,h.kp⟩,fun x hx=>.inl (r2 x hx),b,0,?_,.inr rfl,hrow⟩
   ·obtain ⟨s,hs,rfl⟩:=al6.mp hr
    exact jc.map hL (r1.tm s hs)
   ·obtain ⟨s,hs,rfl⟩:=al6.mp hr
    exact jf.map hL hf (r1.ob s (fO.mp hs).1)
   ·obtain ⟨r',hr',rfl⟩:=al6.mp hr
    obtain ⟨s',hs',rfl⟩:=al6.mp hs
    exact r1.wM r' (fO.mp hr').1 s' (fO.mp hs').1 b' hne hb1 hb2
   ·obtain ⟨r',hr',rfl⟩:=al6.mp hr
    obtain ⟨m1,m2⟩:=fO.mp hr'
    have:=r1.pos r' m1 b' hb1
    refine ⟨fun hor=>?_,this.2⟩
    rcases hor with h3 | rfl
    ·exact this.1 h3
    ·exact r1.wM r' m1 _ hkm b' m2 hb1 hbk
   ·rcases hb with hb | rfl
    ·exact r1.fz b' hb
    ·have:=r1.pos _ hkm b' hbk
     exact ⟨this.2.1,.inr this.2.2⟩
   ·obtain ⟨b',g1,g2⟩:=hv
    rw [o1] at g1
    cases g1
    exact g2
  ·cases h2
 ·cases hs
theorem DI : ∀ {l:List CV} {vs:List Value} {caps:List (List FV)} {Fz:Nat → Prop} {σ σ':St},Rel bK w0 bJ N Fz κ σ a w → eG Fz κ w l vs → nE q σ l = some (caps,σ') → ∃ bR,Rel bK w0 bJ N bR κ σ' a w ∧ (∀ b,Fz b → bR b) ∧ oU bR w caps vs
 | [],[],caps,Fz,σ,σ',h,_,hs=>by simp only [nE] at hs;cases hs;exact ⟨Fz,h,fun _ h=>h,trivial⟩
 | [],_ :: _,_,_,_,_,_,hx,_=>hx.elim
 | _ :: _,[],_,_,_,_,_,hx,_=>hx.elim
 | x :: l,v :: vs,caps,Fz,σ,σ',h,hx,hs=>by
  unfold nE at hs
  split at hs
  ·rename_i heq;cases heq
  ·rename_i cs l' heq
   cases heq
   obtain ⟨r,h1,h2⟩:=zmm hs
   cases h2
   obtain ⟨F1,e1,e2,e3⟩:=DI h hx.2 h1
   obtain ⟨b,o,g1,g2,g3⟩:=hx.1
   exact ⟨F1,e1,e2,⟨b,o,g1,e2 b g2,fC.mono e2 (fun _ _=>rfl) _ _ _ g2 g3⟩,e3⟩
  ·rename_i key l' heq
   cases heq
   split at hs
   ·cases hs
   ·obtain ⟨p,h1,h2⟩:=zbm hs
    obtain ⟨r,h3,h4⟩:=zmm h2
    cases h4
    obtain ⟨F1,e1,e2,e3⟩:=Xq h hx.1 h1
    obtain ⟨F2,g1,g2,g3⟩:=DI e1 (eG.mono e2 (fun _ _=>rfl) _ (fun _ _=>rfl) _ hx.2) h3
    obtain ⟨b,o,k1,k2,k3⟩:=e3
    exact ⟨F2,g1,fun b hb=>g2 b (e2 b hb),⟨b,o,k1,g2 b k2,fC.mono g2 (fun _ _=>rfl) _ _ _ k2 k3⟩,g3⟩
  ·cases hs
theorem Ca (h:Rel bK w0 bJ N Fz κ σ a w):∀ {xs:List Operand} {ys:List eX} {l:List CV},Dq xs = some ys → jR σ ys = some l → eG Fz κ w l (xs.map a.eval)
 | [],ys,l,hx,hv=>by cases hx;cases hv;trivial
 | x :: xs,ys,l,hx,hv=>by
  obtain ⟨y,h1,h2⟩:=zbm hx
  obtain ⟨m,h3,rfl⟩:=zmm h2
  obtain ⟨v,h4,h5⟩:=zbm hv
  obtain ⟨n,h6,rfl⟩:=zmm h5
  exact ⟨h.eval h1 h4,Ca h h3 h6⟩
theorem aaX (h:Rel bK w0 bJ N Fz κ σ a w) {f:FuncId} {first caps:Array Operand} {l:List eX} (h0:first.size = 0) (hc:Dq caps.toList = some l) (hE:dL Γ q σ d (.WW f l) = some (pv,σ')) :
  Does P bK w0 bJ N q d Fz κ σ a w (do let v ← Instr.makeFunc (.func f) (first.map a.eval) (caps.map a.eval);Pure.pure (.value v)) σ' pv:=by
 obtain ⟨m,h1,h2⟩:=zbm hE
 obtain ⟨p,h3,h4⟩:=zmm h2
 cases h4
 obtain ⟨F1,e1,e2,e3⟩:=DI h (Ca h hc h1) h3
 have hf:first = #[]:=Array.eq_empty_of_size_eq_zero h0
 subst hf
 refine ⟨.value (.func (.func f) #[] (caps.map a.eval)),w,κ,F1,.func (.func f) #[] (caps.map a.eval),by simp [Instr.makeFunc],.inl rfl,e1,⟨_,?_,e3⟩,e2,fun _ _=>rfl⟩
 rw [← amS,Array.toArray_toList]
end
end
section
open Go
section
variable {P : Program} {Γ:Env} {bK Fz bR:Nat → Prop} {w0 w w':World} {bJ:List Nat} {N:Fr} {d:Nat} {q:Bool} {κ gq:Nat → Value} {σ σ1 σ':St} {a:Act} {pv:PV} {o:Oper}
theorem NG {ks:List SK} {k:KV} (h:k.ks = .agg ks):∃ cs,pG k = .agg cs:=by
 cases k with
 | one x=>cases h
 | agg xs=>exact ⟨_,rfl⟩
theorem NH (h:Rel bK w0 bJ N Fz κ σ a w) {op:BinOp} {t e:TypeId} {neg:Bool} {x y:Operand} {x' y':eX} (hu:P.underlying t = some (.pointer e)) (hop:(op = .eql ∧ neg = false) ∨ (op = .neq ∧ neg = true)) (hx:gD x = some x') (hy:gD y = some y') (hn:Nn y' = true) (hE:dL Γ q σ d (.y7 neg x') = some (pv,σ')) :
  Does P bK w0 bJ N q d Fz κ σ a w (do let v ← (do eqGuard op t x y (a.eval x) (a.eval y);binOp op t (a.eval x) (a.eval y):Sem Value);Pure.pure (.value v)) σ' pv:=by
 have hyv:a.eval y = .pointer none:=by
  unfold Nn at hn
  split at hn
  ·exact h.eval (v:=.one .iW) hy rfl
  ·cases hn
 have hpt:P.underlying t = some (.pointer (P.pointee t)):=by unfold Program.pointee;rw [hu]
 obtain ⟨v,h1,h2⟩:=zbm hE
 have hv:=h.eval hx h1
 have hg:∀ p:Option Addr,(eqGuard op t x y (.pointer p) (.pointer none)).run P w = .ok () w:=by
  intro p
  unfold eqGuard
  rcases hop with ⟨rfl,_⟩ | ⟨rfl,_⟩ <;> rfl
 have run:∀ p:Option Addr,a.eval x = .pointer p → pv = .c (.one (.f (.bool (if neg then !p.isNone else p.isNone)))) → σ' = σ → Does P bK w0 bJ N q d Fz κ σ a w (do let v ← (do eqGuard op t x y (a.eval x) (a.eval y);binOp op t (a.eval x) (a.eval y):Sem Value);Pure.pure (.value v)) σ' pv:=by
  intro p hp hpv hs
  subst hpv
  subst hs
  refine Does.pure h (v:=.bool (if neg then !p.isNone else p.isNone)) ?_ rfl
  rw [hp,hyv]
  simp only [Sem.run_bind,hg,Result.andThen_ok]
  rcases hop with ⟨rfl,rfl⟩ | ⟨rfl,rfl⟩
  ·exact run_eql_pointer_nil w t p hpt
  ·exact run_neq_pointer_nil w t p hpt
 split at h2
 ·cases h2;exact run none hv (by cases neg <;> rfl) rfl
 ·cases h2;obtain ⟨b,_,hb⟩:=hv;exact run _ hb (by cases neg <;> rfl) rfl
 ·cases h2;obtain ⟨b,o,hb,_⟩:=hv;exact run _ hb (by cases neg <;> rfl) rfl
 ·cases h2;obtain ⟨b,_,_,_,hb⟩:=hv;exact run _ hb (by cases neg <;> rfl) rfl
 ·cases h2
theorem NI {X:Hx} (heq:∀ t ∈ X.eqs,mI P t) (h:Rel bK w0 bJ N Fz κ σ a w) {i:I} (hc:kG P X o = some i) (hi:Nq i = false) (hE:dL Γ q σ d i = some (pv,σ')):Does P bK w0 bJ N q d Fz κ σ a w (execOp a.eval o) σ' pv:=by
 have mem:∀ {t:TypeId},X.eqs.contains t = true → mI P t:=fun ht=>heq _ (by simpa using ht)
 unfold kG at hc
 split at hc
 ·
  rename_i x ho
  obtain ⟨x',h1,rfl⟩:=zmm hc
  unfold execOp;simp only [ho]
  exact aaF h h1 hE
 ·rename_i x ho
  obtain ⟨x',h1,rfl⟩:=zmm hc
  unfold execOp;simp only [ho]
  exact aaF h h1 hE
 ·rename_i c x y ho
  obtain ⟨c',h1,hc⟩:=zbm hc
  obtain ⟨x',h2,hc⟩:=zbm hc
  obtain ⟨y',h3,rfl⟩:=zmm hc
  unfold execOp;simp only [ho]
  exact Xf h h1 h2 h3 hE
 ·rename_i e ho
  obtain ⟨z,h1,rfl⟩:=zmm hc
  unfold execOp;simp only [ho]
  exact RD h h1 hE
 ·rename_i e x ho
  obtain ⟨x',h1,rfl⟩:=zmm hc
  unfold execOp;simp only [ho]
  exact aaP h h1 hE
 ·rename_i t ps ho
  split at hc
  ·rename_i fs hu
   split at hc
   ·rename_i hall
    obtain ⟨z,h1,hc⟩:=zbm hc
    obtain ⟨l,h2,rfl⟩:=zmm hc
    unfold execOp;simp only [ho]
    exact RF h hu hall h1 h2 hE
   ·cases hc
  ·rename_i n e hu
   obtain ⟨sz,h0,hc⟩:=zbm hc
   obtain ⟨z,h1,hc⟩:=zbm hc
   obtain ⟨l,h2,rfl⟩:=zmm hc
   unfold execOp;simp only [ho]
   exact Nu h hu h0 h1 h2 hE
  ·cases hc
 ·rename_i t len ps ho
  obtain ⟨e,h1,hc⟩:=zbm hc
  obtain ⟨sz,h2,hc⟩:=zbm hc
  split at hc
  ·cases hc
  ·rename_i hs
   obtain ⟨z,h3,hc⟩:=zbm hc
   split at hc
   ·rename_i hz
    obtain ⟨l,h4,rfl⟩:=zmm hc
    unfold execOp;simp only [ho]
    exact aaQ h (zw h1) h2 hs h3 hz h4 hE
   ·cases hc
 ·rename_i t x ho
  obtain ⟨g,h1,hc⟩:=zbm hc
  obtain ⟨n,h2,hc⟩:=zbm hc
  obtain ⟨x',h3,rfl⟩:=zmm hc
  unfold execOp;simp only [ho]
  exact Xg h h1 h2 h3 hE
 ·rename_i t x y ho
  obtain ⟨n,h1,hc⟩:=zbm hc
  obtain ⟨x',h2,hc⟩:=zbm hc
  obtain ⟨y',h3,rfl⟩:=zmm hc
  unfold execOp;simp only [ho]
  exact RI h h1 h2 h3 hE
 ·rename_i x ho
  obtain ⟨x',h1,rfl⟩:=zmm hc
  exact Xh h h1 hE ho
 ·rename_i op t x y u ho
  obtain ⟨x',h1,hc⟩:=zbm hc
  obtain ⟨y',h2,hc⟩:=zbm hc
  unfold execOp;simp only [ho]
  split at hc
  ·split at hc
   ·rename_i hop;cases hc;subst hop;exact aaI h h1 h2 hE
   ·split at hc
    ·rename_i hop;cases hc;subst hop;exact xM h BS.1 h1 h2 hE
    ·split at hc
     ·rename_i hop;cases hc;subst hop;exact xM h BS.2 h1 h2 hE
     ·cases hc
  ·split at hc
   ·rename_i hop;cases hc;exact ahb h hop h1 h2 hE
   ·split at hc
    ·rename_i hop;cases hc;exact aaU h hop h1 h2 hE
    ·split at hc
     ·rename_i hop;cases hc;exact Vr h (.inl ⟨hop,rfl⟩) h1 h2 hE
     ·split at hc
      ·rename_i hop;cases hc;exact Vr h (.inr ⟨hop,rfl⟩) h1 h2 hE
      ·obtain ⟨c,h3,rfl⟩:=zmm hc
       exact aaH h h3 h1 h2 hE
  ·rename_i hu
   split at hc
   ·rename_i hop;cases hc;subst hop;exact xM h (zu hu).1 h1 h2 hE
   ·split at hc
    ·rename_i hop;cases hc;subst hop;exact xM h (zu hu).2 h1 h2 hE
    ·cases hc
  ·rename_i e hu
   split at hc
   ·rename_i hn
    split at hc
    ·rename_i hop;cases hc;exact NH h hu (.inl ⟨hop,rfl⟩) h1 h2 hn hE
    ·split at hc
     ·rename_i hop;cases hc;exact NH h hu (.inr ⟨hop,rfl⟩) h1 h2 hn hE
     ·cases hc
   ·cases hc
  ·rename_i e hu
   split at hc
   ·rename_i hn
    split at hc
    ·rename_i hop;cases hc;exact NC h hu (.inl ⟨hop,rfl⟩) h1 h2 hn hE
    ·split at hc
     ·rename_i hop;cases hc;exact NC h hu (.inr ⟨hop,rfl⟩) h1 h2 hn hE
     ·cases hc
   ·cases hc
  ·rename_i fs hu
   split at hc
   ·rename_i he
    obtain ⟨sh,h3,hc⟩:=zbm hc
    have hsh:∃ ks,sh = .agg ks:=by
     unfold zn at h3
     rw [hu] at h3
     obtain ⟨ks,_,rfl⟩:=zmm h3
     exact ⟨ks,rfl⟩
    obtain ⟨ks,rfl⟩:=hsh
    have hr:=EW (x:=x) (y:=y) (mem he) h3 (fun _ hk=>NG hk)
    split at hc
    ·rename_i hop;cases hc;subst hop;exact xM h hr.1 h1 h2 hE
    ·split at hc
     ·rename_i hop;cases hc;subst hop;exact xM h hr.2 h1 h2 hE
     ·cases hc
   ·cases hc
  ·rename_i n e hu
   split at hc
   ·rename_i he
    obtain ⟨sh,h3,hc⟩:=zbm hc
    have hsh:∃ ks,sh = .agg ks:=by
     unfold zn at h3
     rw [hu] at h3
     obtain ⟨ks,_,rfl⟩:=zmm h3
     exact ⟨_,rfl⟩
    obtain ⟨ks,rfl⟩:=hsh
    have hr:=EW (x:=x) (y:=y) (mem he) h3 (fun _ hk=>NG hk)
    split at hc
    ·rename_i hop;cases hc;subst hop;exact xM h hr.1 h1 h2 hE
    ·split at hc
     ·rename_i hop;cases hc;subst hop;exact xM h hr.2 h1 h2 hE
     ·cases hc
   ·cases hc
  ·cases hc
 ·rename_i t x ho
  obtain ⟨x',h1,rfl⟩:=zmm hc
  unfold execOp;simp only [ho]
  exact ag9 h h1 hE
 ·rename_i src dst x ho
  unfold execOp;simp only [ho]
  split at hc
  ·rename_i hs hd
   obtain ⟨x',h1,rfl⟩:=zmm hc
   exact aha h hs hd h1 hE
  ·rename_i hs hd
   obtain ⟨x',h1,rfl⟩:=zmm hc
   exact aaG h hs hd h1 hE
  ·rename_i e hs hd
   split at hc
   ·rename_i he hz
    obtain ⟨x',h1,rfl⟩:=zmm hc
    exact aaV h hs he hd h1 hE
   ·cases hc
  ·cases hc
 ·rename_i t ho
  obtain ⟨m,h1,hc⟩:=zbm hc
  obtain ⟨sh,h2,rfl⟩:=zmm hc
  unfold execOp;simp only [ho,Option.map_none]
  exact RJ h hE
 ·rename_i t x lo hi0 ho
  unfold execOp;simp only [ho,Option.map_none]
  split at hc
  ·rename_i hu
   obtain ⟨x',h1,hc⟩:=zbm hc
   obtain ⟨lo',h2,hc⟩:=zbm hc
   obtain ⟨hi',h3,rfl⟩:=zmm hc
   exact Xl h hu h1 h2 h3 hE
  ·rename_i e hu
   obtain ⟨sz,h0,hc⟩:=zbm hc
   obtain ⟨x',h1,hc⟩:=zbm hc
   obtain ⟨lo',h2,hc⟩:=zbm hc
   obtain ⟨hi',h3,hc⟩:=zbm hc
   split at hc
   ·split at hc
    ·rename_i hi1
     cases hc
     cases lo with
     | some l=>obtain ⟨_,_,h⟩:=zmm h2;cases h
     | none =>
      cases hi0 with
      | none=>cases h3
      | some hv =>
       obtain ⟨y',h4,h5⟩:=zmm h3
       cases h5
       simp only [Option.map_none,Option.map_some]
       exact Xo h hu h0 h1 h4 hE
    ·cases hc
   ·split at hc
    ·split at hc
     ·rename_i lo1
      cases hc
      cases hi0 with
      | some l=>obtain ⟨_,_,h⟩:=zmm h3;cases h
      | none =>
       cases lo with
       | none=>cases h2
       | some hv =>
        obtain ⟨y',h4,h5⟩:=zmm h2
        cases h5
        simp only [Option.map_none,Option.map_some]
        exact Xp h hu h0 h1 h4 hE
     ·cases hc
    ·cases hc
     exact aaR h hu h0 h1 h2 h3 hE
  ·cases hc
 ·rename_i t x f ho
  obtain ⟨fd,h1,hc⟩:=zbm hc
  obtain ⟨n,h2,hc⟩:=zbm hc
  split at hc
  ·cases hc
  ·rename_i h0
   obtain ⟨x',h3,rfl⟩:=zmm hc
   unfold execOp;simp only [ho]
   exact ahe h h1 h2 h0 h3 hE
 ·rename_i t x f ho
  obtain ⟨fd,h1,hc⟩:=zbm hc
  obtain ⟨n,h2,hc⟩:=zbm hc
  obtain ⟨g,h3,hc⟩:=zbm hc
  obtain ⟨x',h4,rfl⟩:=zmm hc
  unfold execOp;simp only [ho]
  exact aaM h h1 h2 h3 h4 hE
 ·rename_i t x y ho
  split at hc
  ·rename_i off ha
   obtain ⟨x',h1,rfl⟩:=zmm hc
   unfold execOp;simp only [ho]
   exact aaL h ha h1 hE
  obtain ⟨e,h1,hc⟩:=zbm hc
  obtain ⟨sz,h2,hc⟩:=zbm hc
  obtain ⟨x',h3,hc⟩:=zbm hc
  obtain ⟨y',h4,rfl⟩:=zmm hc
  unfold execOp;simp only [ho]
  exact ahf h h1 h2 h3 h4 hE
 ·rename_i t x y ho
  unfold execOp;simp only [ho]
  split at hc
  ·rename_i hu
   obtain ⟨x',h1,hc⟩:=zbm hc
   obtain ⟨y',h2,rfl⟩:=zmm hc
   exact aaK h hu h1 h2 hE
  ·rename_i n e hu
   obtain ⟨sz,h1,hc⟩:=zbm hc
   obtain ⟨g,h2,hc⟩:=zbm hc
   split at hc
   ·cases hc
   ·rename_i hg
    obtain ⟨x',h3,hc⟩:=zbm hc
    obtain ⟨y',h4,rfl⟩:=zmm hc
    exact aaN h hu h1 h2 (fun e=>by rw [not_and] at hg;exact aml.mp (hg e)) h3 h4 hE
  ·cases hc
 ·rename_i t x k ok ho
  obtain ⟨m,h1,hc⟩:=zbm hc
  split at hc
  ·rename_i he
   obtain ⟨sh,h2,hc⟩:=zbm hc
   obtain ⟨z,h3,hc⟩:=zbm hc
   obtain ⟨x',h4,hc⟩:=zbm hc
   obtain ⟨k',h5,rfl⟩:=zmm hc
   unfold execOp;simp only [ho]
   exact Xm h h1 (mem he) h2 h3 h4 h5 hE
  ·cases hc
 ·rename_i t m k x ho
  obtain ⟨mm,h1,hc⟩:=zbm hc
  split at hc
  ·rename_i he
   obtain ⟨sh,h2,hc⟩:=zbm hc
   obtain ⟨m',h3,hc⟩:=zbm hc
   obtain ⟨k',h4,hc⟩:=zbm hc
   obtain ⟨x',h5,rfl⟩:=zmm hc
   unfold execOp;simp only [ho]
   exact NA h h1 (mem he) h2 h3 h4 h5 hE
  ·cases hc
 ·rename_i t m k x ho
  obtain ⟨mm,h1,hc⟩:=zbm hc
  split at hc
  ·rename_i he
   obtain ⟨sh,h2,hc⟩:=zbm hc
   obtain ⟨m',h3,hc⟩:=zbm hc
   obtain ⟨k',h4,hc⟩:=zbm hc
   obtain ⟨x',h5,rfl⟩:=zmm hc
   unfold execOp;simp only [ho]
   exact NA h h1 (mem he) h2 h3 h4 h5 hE
  ·cases hc
 ·rename_i x i ho
  obtain ⟨x',h1,rfl⟩:=zmm hc
  unfold execOp;simp only [ho]
  exact aaJ h h1 hE
 ·rename_i f first caps ho
  split at hc
  ·rename_i h0
   obtain ⟨l,h1,rfl⟩:=zmm hc
   unfold execOp;simp only [ho]
   exact aaX h h0 h1 hE
  ·cases hc
 ·
  rename_i c ho
  have hargs:∀ {xs:Array Operand} {l:List Operand},xs.toList = l → xs.map a.eval = (l.map a.eval).toArray:=fun h=>by rw [← h,← amS,Array.toArray_toList]
  split at hc
  ·split at hc
   ·obtain ⟨l,h1,rfl⟩:=zmm hc;cases hi
   ·cases hc
  ·rename_i qj
   split at hc
   ·rename_i x t h1 h2
    have e1:c.args.map a.eval = #[a.eval x]:=by rw [hargs h1];rfl
    have e2:c.argTypes[0]? = some t:=by rw [← amR,h2];rfl
    unfold execOp resolve;simp only [ho,qj,Sem.run_bind,Sem.run_pure,Result.andThen_ok,e1]
    split at hc
    ·rename_i hu
     obtain ⟨x',h3,rfl⟩:=zmm hc
     exact Xi (u:=o.type) h e2 hu h3 hE
    ·rename_i e hu
     obtain ⟨x',h3,rfl⟩:=zmm hc
     exact Xj (u:=o.type) h e2 hu h3 hE
    ·rename_i k e hu
     obtain ⟨x',h3,rfl⟩:=zmm hc
     exact Xk (u:=o.type) h e2 hu h3 hE
    ·cases hc
   ·cases hc
  ·rename_i qj
   split at hc
   ·rename_i x y t u h1 h2
    have e1:c.args.map a.eval = #[a.eval x,a.eval y]:=by rw [hargs h1];rfl
    split at hc
    ·rename_i htu
     subst htu
     have e2:c.argTypes = #[t,t]:=by rw [← Array.toArray_toList (xs:=c.argTypes),h2]
     obtain ⟨e,h3,hc⟩:=zbm hc
     obtain ⟨sz,h4,hc⟩:=zbm hc
     obtain ⟨H7,h5,hc⟩:=zbm hc
     obtain ⟨z,h6,hc⟩:=zbm hc
     split at hc
     ·rename_i hz
      obtain ⟨x',h7,hc⟩:=zbm hc
      obtain ⟨y',h8,rfl⟩:=zmm hc
      unfold execOp resolve;simp only [ho,qj,Sem.run_bind,Sem.run_pure,Result.andThen_ok,e1,e2]
      exact aaT (ty:=o.type) h (zw h3) h4 h5 h6 hz.1 hz.2.1 hz.2.2 h7 h8 hE
     ·cases hc
    ·cases hc
   ·cases hc
  ·rename_i qj
   split at hc
   ·rename_i x y h1
    have e1:c.args.map a.eval = #[a.eval x,a.eval y]:=by rw [hargs h1];rfl
    obtain ⟨x',h7,hc⟩:=zbm hc
    obtain ⟨y',h8,rfl⟩:=zmm hc
    unfold execOp resolve;simp only [ho,qj,Sem.run_bind,Sem.run_pure,Result.andThen_ok,e1]
    exact ahc (u:=o.type) h h7 h8 hE
   ·cases hc
  ·rename_i qj
   split at hc
   ·rename_i x y h1
    have e1:c.args.map a.eval = #[a.eval x,a.eval y]:=by rw [hargs h1];rfl
    obtain ⟨x',h7,hc⟩:=zbm hc
    obtain ⟨y',h8,rfl⟩:=zmm hc
    unfold execOp resolve;simp only [ho,qj,Sem.run_bind,Sem.run_pure,Result.andThen_ok,e1]
    exact ahd (u:=o.type) h h7 h8 hE
   ·cases hc
  ·rename_i qj
   split at hc
   ·rename_i x y t k h1 h2
    have e1:c.args.map a.eval = #[a.eval x,a.eval y]:=by rw [hargs h1];rfl
    have e2:c.argTypes = #[t,k]:=by rw [← Array.toArray_toList (xs:=c.argTypes),h2]
    obtain ⟨m,h3,hc⟩:=zbm hc
    split at hc
    ·rename_i he
     obtain ⟨sh,h4,hc⟩:=zbm hc
     obtain ⟨x',h7,hc⟩:=zbm hc
     obtain ⟨y',h8,rfl⟩:=zmm hc
     unfold execOp resolve;simp only [ho,qj,Sem.run_bind,Sem.run_pure,Result.andThen_ok,e1,e2,he.2]
     exact aaS (ty:=o.type) h h3 (mem he.1) h4 h7 h8 hE
    ·cases hc
   ·cases hc
  ·rename_i qj
   split at hc
   ·rename_i x t h1 h2
    have e1:c.args.map a.eval = #[a.eval x]:=by rw [hargs h1];rfl
    have e2:c.argTypes = #[t]:=by rw [← Array.toArray_toList (xs:=c.argTypes),h2]
    obtain ⟨e,h3,hc⟩:=zbm hc
    obtain ⟨sz,h4,hc⟩:=zbm hc
    obtain ⟨zp,h5,hc⟩:=zbm hc
    obtain ⟨z,h6,hc⟩:=zbm hc
    split at hc
    ·obtain ⟨x',h7,rfl⟩:=zmm hc
     unfold execOp resolve;simp only [ho,qj,Sem.run_bind,Sem.run_pure,Result.andThen_ok,e1,e2]
     exact aaW (ty:=o.type) h (zw h3) h5 h6 h7 hE
    ·cases hc
   ·cases hc
  ·cases hc
 ·cases hc
end
end
section
open Go
def qK (v:Value):List Nat:=match blk v with
 | some b=>[b]
 | none=>[]
def jV (Fz:Nat → Prop) (w:World) (sz:Nat) (rows:List (List FV)) (v:Value) (bs:List Nat):Prop :=
 0 < sz ∧ ∃ e inner A c,v = .slice A rows.length c ∧ w.ownsRow 0 e sz v rows.length inner ∧ fF Fz w sz rows inner ∧ bs = qK v
def E9 (Fz:Nat → Prop) (w:World):CL → Value → List Nat → Prop
 | .f x,v,bs=>fU Fz w x v ∧ bs = []
 | .iW,v,bs=>v = .pointer none ∧ bs = []
 | .gu,v,bs=>v = .map none ∧ bs = []
 | .mp sh ents,v,bs=>∃ b,v = .map (some b) ∧ Bj Fz w sh ents b ∧ bs = [b]
 | .own sz rows,v,bs=>jV Fz w sz rows v bs
def qY (Fz:Nat → Prop) (w:World):List CL → List Value → List Nat → Prop
 | [],[],bs=>bs = []
 | x :: xs,v :: vs,bs=>∃ b1 b2,E9 Fz w x v b1 ∧ qY Fz w xs vs b2 ∧ bs = b1 ++ b2
 | _,_,_=>False
def pI (Fz:Nat → Prop) (w:World):TV → Value → List Nat → Prop
 | .f x,v,bs=>fU Fz w x v ∧ bs = []
 | .iW,v,bs=>v = .pointer none ∧ bs = []
 | .gu,v,bs=>v = .map none ∧ bs = []
 | .ptr cs,v,bs=>∃ b vals e ms,v = .pointer (some ⟨b,0,none⟩) ∧ w.heap[b]? = some (.cells vals e (0,0)) ∧ qY Fz w cs vals.toList ms ∧ bs = b :: ms
 | .mp sh ents,v,bs=>∃ b,v = .map (some b) ∧ Bj Fz w sh ents b ∧ bs = [b]
 | .own sz rows,v,bs=>jV Fz w sz rows v bs
 | .fp cs,v,bs=>fD Fz (fun _=>undef) w (.fp cs) v ∧ bs = []
 | .fn f cs,v,bs=>fD Fz (fun _=>undef) w (.fn f cs) v ∧ bs = []
 | .any,_,bs=>bs = []
def ny (Fz:Nat → Prop) (w:World):List TV → List Value → List Nat → Prop
 | [],[],bs=>bs = []
 | x :: xs,v :: vs,bs=>∃ b1 b2,pI Fz w x v b1 ∧ ny Fz w xs vs b2 ∧ bs = b1 ++ b2
 | _,_,_=>False
def qZ (Fz:Nat → Prop) (w:World):AV → Value → List Nat → Prop
 | .one x,v,bs=>pI Fz w x v bs
 | .agg xs,v,bs=>∃ cs,v = .agg cs ∧ ny Fz w xs cs.toList bs
def gQ (Fz:Nat → Prop) (w:World):List AV → List Value → List Nat → Prop
 | [],[],bs=>bs = []
 | x :: xs,v :: vs,bs=>∃ b1 b2,qZ Fz w x v b1 ∧ gQ Fz w xs vs b2 ∧ bs = b1 ++ b2
 | _,_,_=>False
section
variable {Fz bR:Nat → Prop} {w w':World}
theorem Bj.mono {sh:KS} {ents:List (KV × FC)} {b:Nat} (hf:∀ b,Fz b → bR b) (hw:∀ b,Fz b → w'.heap[b]? = w.heap[b]?) (hb:w'.heap[b]? = w.heap[b]?) (h:Bj Fz w sh ents b):Bj bR w' sh ents b:=by
 obtain ⟨l,h1,h2,h3⟩:=h
 exact ⟨l,h1.move hb,je.mono hf hw _ _ h2,h3⟩
theorem jV.mono (hf:∀ b,Fz b → bR b) (hw:∀ b,Fz b → w'.heap[b]? = w.heap[b]?) {sz:Nat} {rows:List (List FV)} {v:Value} {bs:List Nat} (hb:∀ b ∈ bs,w'.heap[b]? = w.heap[b]?) (h:jV Fz w sz rows v bs):jV bR w' sz rows v bs:=by
 obtain ⟨h0,e,inner,A,c,h1,h2,h3,h4⟩:=h
 refine ⟨h0,e,inner,A,c,h1,BO h2 (fun k hk=>hb k ?_),fF.mono hf hw _ _ _ h3,h4⟩
 rw [h4,qK,Dp hk]
 simp
theorem E9.mono (hf:∀ b,Fz b → bR b) (hw:∀ b,Fz b → w'.heap[b]? = w.heap[b]?) {x:CL} {v:Value} {bs:List Nat} (hb:∀ b ∈ bs,w'.heap[b]? = w.heap[b]?) (h:E9 Fz w x v bs):E9 bR w' x v bs:=by
 cases x with
 | f x=>exact ⟨fU.mono hf hw x v h.1,h.2⟩
 | iW=>exact h
 | gu=>exact h
 | mp sh ents=>obtain ⟨b,h1,h2,rfl⟩:=h;exact ⟨b,h1,h2.mono hf hw (hb b (by simp)),rfl⟩
 | own sz rows=>exact jV.mono hf hw hb h
theorem qY.mono (hf:∀ b,Fz b → bR b) (hw:∀ b,Fz b → w'.heap[b]? = w.heap[b]?):∀ {xs:List CL} {vs:List Value} {bs:List Nat},(∀ b ∈ bs,w'.heap[b]? = w.heap[b]?) → qY Fz w xs vs bs → qY bR w' xs vs bs
 | [],[],_,_,h=>h
 | x :: xs,v :: vs,_,hb,⟨b1,b2,h1,h2,e⟩=>⟨b1,b2,h1.mono hf hw (fun b h=>hb b (by rw [e];simp [h])),qY.mono hf hw (fun b h=>hb b (by rw [e];simp [h])) h2,e⟩
 | [],_ :: _,_,_,h=>h.elim
 | _ :: _,[],_,_,h=>h.elim
theorem pI.mono (hf:∀ b,Fz b → bR b) (hw:∀ b,Fz b → w'.heap[b]? = w.heap[b]?) {x:TV} {v:Value} {bs:List Nat} (hb:∀ b ∈ bs,w'.heap[b]? = w.heap[b]?) (h:pI Fz w x v bs):pI bR w' x v bs:=by
 cases x with
 | f x=>exact ⟨fU.mono hf hw x v h.1,h.2⟩
 | iW=>exact h
 | gu=>exact h
 | ptr cs =>
  obtain ⟨b,vals,e,ms,h1,h2,h3,rfl⟩:=h
  exact ⟨b,vals,e,ms,h1,(hb b (by simp)).trans h2,h3.mono hf hw (fun b h=>hb b (by simp [h])),rfl⟩
 | mp sh ents=>obtain ⟨b,h1,h2,rfl⟩:=h;exact ⟨b,h1,h2.mono hf hw (hb b (by simp)),rfl⟩
 | own sz rows=>exact jV.mono hf hw hb h
 | fp cs=>exact ⟨fD.mono hf hw (fun _ _=>rfl) h.1,h.2⟩
 | fn f cs=>exact ⟨fD.mono hf hw (fun _ _=>rfl) h.1,h.2⟩
 | any=>exact h
theorem ny.mono (hf:∀ b,Fz b → bR b) (hw:∀ b,Fz b → w'.heap[b]? = w.heap[b]?):∀ {xs:List TV} {vs:List Value} {bs:List Nat},(∀ b ∈ bs,w'.heap[b]? = w.heap[b]?) → ny Fz w xs vs bs → ny bR w' xs vs bs
 | [],[],_,_,h=>h
 | x :: xs,v :: vs,_,hb,⟨b1,b2,h1,h2,e⟩=>⟨b1,b2,h1.mono hf hw (fun b h=>hb b (by rw [e];simp [h])),ny.mono hf hw (fun b h=>hb b (by rw [e];simp [h])) h2,e⟩
 | [],_ :: _,_,_,h=>h.elim
 | _ :: _,[],_,_,h=>h.elim
theorem qZ.mono (hf:∀ b,Fz b → bR b) (hw:∀ b,Fz b → w'.heap[b]? = w.heap[b]?) {x:AV} {v:Value} {bs:List Nat} (hb:∀ b ∈ bs,w'.heap[b]? = w.heap[b]?) (h:qZ Fz w x v bs):qZ bR w' x v bs:=by
 cases x with
 | one x=>exact pI.mono hf hw hb h
 | agg xs=>obtain ⟨cs,rfl,h⟩:=h;exact ⟨cs,rfl,h.mono hf hw hb⟩
theorem gQ.mono (hf:∀ b,Fz b → bR b) (hw:∀ b,Fz b → w'.heap[b]? = w.heap[b]?):∀ {xs:List AV} {vs:List Value} {bs:List Nat},(∀ b ∈ bs,w'.heap[b]? = w.heap[b]?) → gQ Fz w xs vs bs → gQ bR w' xs vs bs
 | [],[],_,_,h=>h
 | x :: xs,v :: vs,_,hb,⟨b1,b2,h1,h2,e⟩=>⟨b1,b2,h1.mono hf hw (fun b h=>hb b (by rw [e];simp [h])),gQ.mono hf hw (fun b h=>hb b (by rw [e];simp [h])) h2,e⟩
 | [],_ :: _,_,_,h=>h.elim
 | _ :: _,[],_,_,h=>h.elim
end
structure dA (bK:Nat → Prop) (w0:World) (bJ:List Nat) (N:Fr) (bs:List Nat) (Fz:Nat → Prop) (κ:Nat → Value) (σ:St) (a:Act) (w:World):Prop where
 rel:Rel bK w0 bJ N Fz κ σ a w
 kM:bs.Nodup
 ap:∀ b ∈ bs,¬ Fz b ∧ b < w.heap.size ∧ (b ∈ bJ ∨ w0.heap.size ≤ b) ∧ ∀ p ∈ σ.ob,blk (κ p.1) ≠ some b
section
variable {P : Program} {Γ:Env} {bK Fz bR:Nat → Prop} {w0 w w':World} {bJ bs bsx:List Nat} {N:Fr} {d:Nat} {q:Bool} {κ gq:Nat → Value} {σ σ1 σ':St} {a:Act} {pv:PV} {o:Oper}
theorem Rel.x (h:Rel bK w0 bJ N Fz κ σ a w):dA bK w0 bJ N [] Fz κ σ a w:=⟨h,amU,fun b hb=>by simp at hb⟩
theorem dA.take (h:dA bK w0 bJ N bs Fz κ σ a w) {key b:Nat} {ob:Ob} (hk:get σ.ob key = some ob) (hb:blk (κ key) = some b):dA bK w0 bJ N (b :: bs) Fz κ ⟨σ.tm,rem σ.ob key⟩ a w:=by
 have hkm:=get_mem hk
 have hp:=h.rel.pos _ hkm b hb
 refine ⟨h.rel.less (fun _ h=>h) (fun p hp=>(fO.mp hp).1),amw.mpr ⟨fun hb'=>(h.ap b hb').2.2.2 _ hkm hb,h.kM⟩,fun b' hb'=>?_⟩
 rcases alZ.mp hb' with rfl | hb'
 ·refine ⟨hp.1,hp.2.1,hp.2.2,fun p hp' e=>?_⟩
  obtain ⟨h1,h2⟩:=fO.mp hp'
  exact h.rel.wM p h1 _ hkm b' h2 e hb
 ·have:=h.ap b' hb'
  exact ⟨this.1,this.2.1,this.2.2.1,fun p hp'=>this.2.2.2 p (fO.mp hp').1⟩
theorem dA.JF (h:dA bK w0 bJ N bs Fz κ σ a w) {key sz:Nat} {rows:List (List FV)} (hk:get σ.ob key = some (.row sz rows)):dA bK w0 bJ N (qK (κ key) ++ bs) Fz κ ⟨σ.tm,rem σ.ob key⟩ a w ∧ jV Fz w sz rows (κ key) (qK (κ key)):=by
 obtain ⟨o0,e,inner,A,c,o1,o2,o3⟩:=h.rel.obj hk
 refine ⟨?_,o0,e,inner,A,c,o1,o2,o3,rfl⟩
 cases hb:blk (κ key) with
 | some b=>simp only [qK,hb];exact h.take hk hb
 | none =>
  simp only [qK,hb,List.nil_append]
  exact ⟨h.rel.less (fun _ h=>h) (fun p hp=>(fO.mp hp).1),h.kM,fun b' hb'=>by
   have:=h.ap b' hb'
   exact ⟨this.1,this.2.1,this.2.2.1,fun p hp'=>this.2.2.2 p (fO.mp hp').1⟩⟩
theorem dA.perm (h:dA bK w0 bJ N bs Fz κ σ a w) (hp:bs.Perm bsx):dA bK w0 bJ N bsx Fz κ σ a w:=⟨h.rel,hp.nodup_iff.mp h.kM,fun b hb=>h.ap b (hp.mem_iff.mpr hb)⟩
theorem dA.Bb (h:dA bK w0 bJ N bs Fz κ σ a w) {key sz:Nat} {rows:List (List FV)} (hk:get σ.ob key = some (.row sz rows)) (hs:Ev.Bb σ key = some σ'):∃ bR,dA bK w0 bJ N bs bR κ σ' a w ∧ (∀ b,Fz b → bR b) ∧ (∀ b,blk (κ key) = some b → bR b) ∧ fU bR w (.sl rows) (κ key):=by
 have hs':=hs
 unfold Ev.Bb at hs
 rw [hk] at hs
 cases hs
 have hkm:=get_mem hk
 obtain ⟨bR,g1,g2,g3,g4⟩:=h.rel.aaO hk
 refine ⟨bR,⟨g1,h.kM,fun b hb=>?_⟩,g2,fun b hb=>(g4 b).mpr (.inr hb),g3⟩
 have:=h.ap b hb
 refine ⟨fun hf=>?_,this.2.1,this.2.2.1,fun p hp=>?_⟩
 ·rcases (g4 b).mp hf with h1 | h1
  ·exact this.1 h1
  ·exact this.2.2.2 _ hkm h1
 ·obtain ⟨r,hr,rfl⟩:=al6.mp hp
  exact this.2.2.2 r (fO.mp hr).1
theorem dA.y9 (h:dA bK w0 bJ N bs Fz κ σ a w) {x:PL} {y:FV} {v:Value} (hx:fD Fz κ w x v) (hs:Ev.y9 σ x = some (y,σ')):∃ bR,dA bK w0 bJ N bs bR κ σ' a w ∧ (∀ b,Fz b → bR b) ∧ fU bR w y v:=by
 cases x with
 | f x=>cases hs;exact ⟨Fz,h,fun _ h=>h,hx⟩
 | dz=>cases hs;exact ⟨Fz,h,fun _ h=>h,by simp only [fU];exact ⟨none,0,hx,alC _,by simp,.inl trivial⟩⟩
 | own key n =>
  simp only [Ev.y9] at hs
  split at hs
  ·rename_i sz rows hk
   obtain ⟨s,h1,h2⟩:=zmm hs
   cases h2
   obtain ⟨bR,e1,e2,_,e3⟩:=h.Bb hk h1
   exact ⟨bR,e1,e2,by rw [hx.1];exact e3⟩
  ·cases hs
 | _=>cases hs
theorem Xr (h:dA bK w0 bJ N bs Fz κ σ a w) {x:PL} {y:CL} {v:Value} (hx:fD Fz κ w x v) (hs:Ll σ x = some (y,σ')):∃ bR bx,dA bK w0 bJ N (bx ++ bs) bR κ σ' a w ∧ (∀ b,Fz b → bR b) ∧ E9 bR w y v bx:=by
 cases x with
 | f x=>cases hs;exact ⟨Fz,[],h,fun _ h=>h,hx,rfl⟩
 | dz=>cases hs;exact ⟨Fz,[],h,fun _ h=>h,by simp only [fU];exact ⟨none,0,hx,alC _,by simp,.inl trivial⟩,rfl⟩
 | iW=>cases hs;exact ⟨Fz,[],h,fun _ h=>h,hx,rfl⟩
 | gu=>cases hs;exact ⟨Fz,[],h,fun _ h=>h,hx,rfl⟩
 | own key n =>
  simp only [Ll] at hs
  split at hs
  ·rename_i sz rows gY
   cases hs
   obtain ⟨g1,g2⟩:=h.JF gY
   exact ⟨Fz,_,g1,fun _ h=>h,by rw [hx.1];exact g2⟩
  ·cases hs
 | mp key =>
  simp only [Ll] at hs
  split at hs
  ·rename_i sh ents gY
   cases hs
   obtain ⟨b,h1,h2⟩:=h.rel.obj gY
   exact ⟨Fz,[b],h.take gY (by rw [h1];rfl),fun _ h=>h,b,by rw [hx.1,h1],h2,rfl⟩
  ·cases hs
 | _=>cases hs
theorem DJ : ∀ {xs:List PL} {ys:List CL} {vs:List Value} {bs:List Nat} {Fz:Nat → Prop} {σ σ':St},dA bK w0 bJ N bs Fz κ σ a w → bG Fz κ w xs vs → Bf σ xs = some (ys,σ') → ∃ bR bx,dA bK w0 bJ N (bx ++ bs) bR κ σ' a w ∧ (∀ b,Fz b → bR b) ∧ qY bR w ys vs bx
 | [],ys,[],bs,Fz,σ,σ',h,_,hs=>by cases hs;exact ⟨Fz,[],h,fun _ h=>h,rfl⟩
 | x :: xs,ys,v :: vs,bs,Fz,σ,σ',h,hx,hs=>by
  obtain ⟨p,h1,h2⟩:=zbm hs
  obtain ⟨r,h3,h4⟩:=zmm h2
  cases h4
  obtain ⟨F1,b1,e1,e2,e3⟩:=Xr h hx.1 h1
  obtain ⟨F2,b2,e4,e5,e6⟩:=DJ e1 (bG.mono e2 (fun _ _=>rfl) xs (fun _ _=>rfl) vs hx.2) h3
  refine ⟨F2,b1 ++ b2,e4.perm ?_,fun b hb=>e5 b (e2 b hb),b1,b2,e3.mono e5 (fun _ _=>rfl) (fun _ _=>rfl),e6,rfl⟩
  rw [← amt]
  exact List.perm_append_comm.append_right bs
 | [],_,_ :: _,_,_,_,_,_,h,_=>h.elim
 | _ :: _,_,[],_,_,_,_,_,h,_=>h.elim
def u7 (gv:Bool) (κ:Nat → Value) (xs:List PL) (b:Nat):Prop:=gv = false ∧ ∃ key n,PL.own key n ∈ xs ∧ blk (κ key) = some b
theorem Ig {gv:Bool} (h:dA bK w0 bJ N bs Fz κ σ a w) {x:PL} {y:TV} {v:Value} (hx:fD Fz κ w x v) (hs:uh gv σ x = some (y,σ')):∃ bR bx,dA bK w0 bJ N (bx ++ bs) bR κ σ' a w ∧ (∀ b,Fz b → bR b) ∧ pI (fun b=>bR b ∨ u7 gv κ [x] b) w y v bx:=by
 have hor:∀ {F:Nat → Prop} b,F b → F b ∨ u7 gv κ [x] b:=fun b h=>.inl h
 cases x with
 | f x=>cases hs;exact ⟨Fz,[],h,fun _ h=>h,fU.mono hor (fun _ _=>rfl) x v hx,rfl⟩
 | dz=>cases hs;exact ⟨Fz,[],h,fun _ h=>h,by simp only [fU];exact ⟨none,0,hx,alC _,by simp,.inl trivial⟩,rfl⟩
 | iW=>cases hs;exact ⟨Fz,[],h,fun _ h=>h,hx,rfl⟩
 | gu=>cases hs;exact ⟨Fz,[],h,fun _ h=>h,hx,rfl⟩
 | own key n =>
  simp only [uh] at hs
  split at hs
  ·rename_i sz rows gY
   split at hs
   ·cases hs
    obtain ⟨g1,g2⟩:=h.JF gY
    exact ⟨Fz,_,g1,fun _ h=>h,by rw [hx.1];exact g2.mono hor (fun _ _=>rfl) (fun _ _=>rfl)⟩
   ·rename_i hg
    cases hs
    refine ⟨Fz,[],h,fun _ h=>h,?_,rfl⟩
    rw [hx.1]
    exact um hor (fun b hb=>.inr ⟨by simpa using hg,key,n,by simp,hb⟩) (h.rel.obj gY)
  ·cases hs
 | fp cs=>cases hs;exact ⟨Fz,[],h,fun _ h=>h,fD.mono (κ:=κ) (gq:=fun _=>undef) hor (fun _ _=>rfl) (fun k hk=>by cases hk) hx,rfl⟩
 | fn f cs=>cases hs;exact ⟨Fz,[],h,fun _ h=>h,fD.mono (κ:=κ) (gq:=fun _=>undef) hor (fun _ _=>rfl) (fun k hk=>by cases hk) hx,rfl⟩
 | mp key =>
  simp only [uh] at hs
  split at hs
  ·rename_i sh ents gY
   cases hs
   obtain ⟨b,h1,h2⟩:=h.rel.obj gY
   exact ⟨Fz,[b],h.take gY (by rw [h1];rfl),fun _ h=>h,b,by rw [hx.1,h1],h2.mono hor (fun _ _=>rfl) rfl,rfl⟩
  ·cases hs
 | ptr key off =>
  cases off with
  | succ n=>cases hs
  | zero =>
   simp only [uh] at hs
   split at hs
   ·rename_i xs gY
    obtain ⟨p,h1,h2⟩:=zmm hs
    cases h2
    obtain ⟨b,cs,e,g1,g2,g3⟩:=h.rel.obj gY
    obtain ⟨b',g4,g5⟩:=hx
    rw [g1] at g4
    cases g4
    obtain ⟨F1,bx,e1,e2,e3⟩:=DJ (h.take gY (by rw [g1];rfl)) g3 h1
    refine ⟨F1,b :: bx,e1.perm ?_,e2,b,cs,e,bx,g5,g2,e3.mono hor (fun _ _=>rfl) (fun _ _=>rfl),rfl⟩
    exact List.perm_middle
   ·cases hs
 | _=>cases hs
theorem JG {gv:Bool}:∀ {xs:List PL} {ys:List TV} {vs:List Value} {bs:List Nat} {Fz:Nat → Prop} {σ σ':St},dA bK w0 bJ N bs Fz κ σ a w → bG Fz κ w xs vs → uj gv σ xs = some (ys,σ') → ∃ bR bx,dA bK w0 bJ N (bx ++ bs) bR κ σ' a w ∧ (∀ b,Fz b → bR b) ∧ ny (fun b=>bR b ∨ u7 gv κ xs b) w ys vs bx
 | [],ys,[],bs,Fz,σ,σ',h,_,hs=>by cases hs;exact ⟨Fz,[],h,fun _ h=>h,rfl⟩
 | x :: xs,ys,v :: vs,bs,Fz,σ,σ',h,hx,hs=>by
  obtain ⟨p,h1,h2⟩:=zbm hs
  obtain ⟨r,h3,h4⟩:=zmm h2
  cases h4
  obtain ⟨F1,b1,e1,e2,e3⟩:=Ig h hx.1 h1
  obtain ⟨F2,b2,e4,e5,e6⟩:=JG e1 (bG.mono e2 (fun _ _=>rfl) xs (fun _ _=>rfl) vs hx.2) h3
  refine ⟨F2,b1 ++ b2,e4.perm ?_,fun b hb=>e5 b (e2 b hb),b1,b2,e3.mono (fun b hb=>?_) (fun _ _=>rfl) (fun _ _=>rfl),e6.mono (fun b hb=>?_) (fun _ _=>rfl) (fun _ _=>rfl),rfl⟩
  ·rw [← amt]
   exact List.perm_append_comm.append_right bs
  ·rcases hb with hb | ⟨hg,k,n,hm,hb⟩
   ·exact .inl (e5 b hb)
   ·exact .inr ⟨hg,k,n,by simp at hm;simp [hm],hb⟩
  ·rcases hb with hb | ⟨hg,k,n,hm,hb⟩
   ·exact .inl hb
   ·exact .inr ⟨hg,k,n,by simp [hm],hb⟩
 | [],_,_ :: _,_,_,_,_,_,h,_=>h.elim
 | _ :: _,_,[],_,_,_,_,_,h,_=>h.elim
theorem NJ {gv:Bool} (h:dA bK w0 bJ N bs Fz κ σ a w) {x:CV} {y:AV} {v:Value} (hx:gX Fz κ w x v) (hs:M0 gv σ x = some (y,σ')):∃ bR bx,dA bK w0 bJ N (bx ++ bs) bR κ σ' a w ∧ (∀ b,Fz b → bR b) ∧ qZ (fun b=>bR b ∨ u7 gv κ (Ev.cells x) b) w y v bx:=by
 cases x with
 | one x =>
  obtain ⟨p,h1,h2⟩:=zmm hs
  cases h2
  exact Ig h hx h1
 | agg xs =>
  obtain ⟨p,h1,h2⟩:=zmm hs
  cases h2
  obtain ⟨cs,rfl,hx⟩:=hx
  obtain ⟨F1,b1,e1,e2,e3⟩:=JG h hx h1
  exact ⟨F1,b1,e1,e2,cs,rfl,e3⟩
theorem DK {gv:Bool}:∀ {xs:List CV} {ys:List AV} {vs:List Value} {bs:List Nat} {Fz:Nat → Prop} {σ σ':St},dA bK w0 bJ N bs Fz κ σ a w → eG Fz κ w xs vs → uN gv σ xs = some (ys,σ') → ∃ bR bx,dA bK w0 bJ N (bx ++ bs) bR κ σ' a w ∧ (∀ b,Fz b → bR b) ∧ gQ (fun b=>bR b ∨ u7 gv κ (xs.flatMap Ev.cells) b) w ys vs bx
 | [],ys,[],bs,Fz,σ,σ',h,_,hs=>by cases hs;exact ⟨Fz,[],h,fun _ h=>h,rfl⟩
 | x :: xs,ys,v :: vs,bs,Fz,σ,σ',h,hx,hs=>by
  obtain ⟨p,h1,h2⟩:=zbm hs
  obtain ⟨r,h3,h4⟩:=zmm h2
  cases h4
  obtain ⟨F1,b1,e1,e2,e3⟩:=NJ h hx.1 h1
  obtain ⟨F2,b2,e4,e5,e6⟩:=DK e1 (eG.mono e2 (fun _ _=>rfl) xs (fun _ _=>rfl) vs hx.2) h3
  refine ⟨F2,b1 ++ b2,e4.perm ?_,fun b hb=>e5 b (e2 b hb),b1,b2,e3.mono (fun b hb=>?_) (fun _ _=>rfl) (fun _ _=>rfl),e6.mono (fun b hb=>?_) (fun _ _=>rfl) (fun _ _=>rfl),rfl⟩
  ·rw [← amt]
   exact List.perm_append_comm.append_right bs
  ·rcases hb with hb | ⟨hg,k,n,hm,hb⟩
   ·exact .inl (e5 b hb)
   ·exact .inr ⟨hg,k,n,by simp [hm],hb⟩
  ·rcases hb with hb | ⟨hg,k,n,hm,hb⟩
   ·exact .inl hb
   ·exact .inr ⟨hg,k,n,by rw [anl];exact List.mem_append_right _ hm,hb⟩
 | [],_,_ :: _,_,_,_,_,_,h,_=>h.elim
 | _ :: _,_,[],_,_,_,_,_,h,_=>h.elim
theorem DL : ∀ {xs:List PL} {Fz:Nat → Prop} {σ σ':St},dA bK w0 bJ N bs Fz κ σ a w → zi σ xs = some σ' → ∃ bR,dA bK w0 bJ N bs bR κ σ' a w ∧ (∀ b,Fz b → bR b) ∧ ∀ b,u7 false κ xs b → bR b
 | [],Fz,σ,σ',h,hs=>by cases hs;exact ⟨Fz,h,fun _ h=>h,fun b ⟨_,k,n,hm,_⟩=>by simp at hm⟩
 | x :: xs,Fz,σ,σ',h,hs=>by
  have other:(∀ k n,x ≠ .own k n) → zi σ xs = some σ' → ∃ bR,dA bK w0 bJ N bs bR κ σ' a w ∧ (∀ b,Fz b → bR b) ∧ ∀ b,u7 false κ (x :: xs) b → bR b:=by
   intro hx hs
   obtain ⟨F1,e1,e2,e3⟩:=DL h hs
   refine ⟨F1,e1,e2,fun b ⟨_,k,n,hm,hb⟩=>e3 b ⟨rfl,k,n,?_,hb⟩⟩
   rcases alZ.mp hm with h | h
   ·exact absurd h.symm (hx k n)
   ·exact h
  cases x with
  | own key n =>
   simp only [zi] at hs
   obtain ⟨s,h1,h2⟩:=zbm hs
   have hrow:∃ sz rows,get σ.ob key = some (.row sz rows):=by
    unfold Ev.Bb at h1
    split at h1
    ·exact ⟨_,_,by assumption⟩
    ·cases h1
   obtain ⟨sz,rows,hk⟩:=hrow
   obtain ⟨F1,e1,e2,e3,_⟩:=h.Bb hk h1
   obtain ⟨F2,e4,e5,e6⟩:=DL e1 h2
   refine ⟨F2,e4,fun b hb=>e5 b (e2 b hb),fun b ⟨_,k,n,hm,hb⟩=>?_⟩
   rcases alZ.mp hm with h | h
   ·cases h;exact e5 b (e3 b hb)
   ·exact e6 b ⟨rfl,k,n,h,hb⟩
  | _=>exact other (fun _ _ h=>by cases h) hs
theorem Fa : ∀ {xs:List CV} {Fz:Nat → Prop} {σ σ':St},dA bK w0 bJ N bs Fz κ σ a w → uO σ xs = some σ' → ∃ bR,dA bK w0 bJ N bs bR κ σ' a w ∧ (∀ b,Fz b → bR b) ∧ ∀ b,u7 false κ (xs.flatMap Ev.cells) b → bR b
 | [],Fz,σ,σ',h,hs=>by cases hs;exact ⟨Fz,h,fun _ h=>h,fun b ⟨_,k,n,hm,_⟩=>by simp at hm⟩
 | x :: xs,Fz,σ,σ',h,hs=>by
  obtain ⟨s,h1,h2⟩:=zbm hs
  obtain ⟨F1,e1,e2,e3⟩:=DL h h1
  obtain ⟨F2,e4,e5,e6⟩:=Fa e1 h2
  refine ⟨F2,e4,fun b hb=>e5 b (e2 b hb),fun b ⟨_,k,n,hm,hb⟩=>?_⟩
  rw [anl] at hm
  rcases amj.mp hm with h | h
  ·exact e5 b (e3 b ⟨rfl,k,n,h,hb⟩)
  ·exact e6 b ⟨rfl,k,n,h,hb⟩
end
end
section
open Go
section
variable {P : Program} {Γ:Env} {bK Fz bR:Nat → Prop} {w0 w w':World} {bJ bs bsx:List Nat} {N:Fr} {d:Nat} {q:Bool} {κ gq:Nat → Value} {σ σ1 σ':St} {a:Act} {pv:PV} {o:Oper}
theorem dA.give {b:Nat} (h:dA bK w0 bJ N (b :: bs) Fz κ σ a w) {key:Nat} {ob:Ob} {v:Value} (hn:new σ key ob = some σ') (hv:blk v = some b) (ho:jf 0 Fz (qO κ key v) w key ob):dA bK w0 bJ N bs Fz (qO κ key v) σ' a w:=by
 have hb:=h.ap b (by simp)
 unfold Ev.new ZF at hn
 split at hn
 ·cases hn
 ·rename_i hm
  simp only [Option.map_some,alI] at hn
  subst hn
  have hm':∀ p ∈ rem σ.ob key,nP key p.2 = false:=by
   intro p hp
   cases he:nP key p.2 with
   | false=>rfl
   | true=>exact absurd (amF.mpr ⟨p,hp,he⟩) hm
  refine ⟨⟨fun p hp=>?_,h.rel.sz,h.rel.kM,h.rel.fs,fun p hp=>?_,fun p hp r hr b' hne hb1 hb2=>?_,fun p hp b' hb1=>?_,h.rel.fz,h.rel.Bc,h.rel.big,h.rel.ext,h.rel.kp⟩,(amw.mp h.kM).2,fun b' hb'=>?_⟩
  ·obtain ⟨h1,h2⟩:=am4.mp hp
   refine jc.mono (fun _ h=>h) (fun b hb'=>rfl) (fun k hk=>fG ?_ v) (h.rel.tm p h1)
   rintro rfl
   rw [hk] at h2;cases h2
  ·rcases alZ.mp hp with rfl | hp
   ·exact ho
   ·obtain ⟨h1,h2⟩:=fO.mp hp
    refine jf.mono (fun _ h=>h) (fun b hb'=>rfl) (fun k hk=>fG ?_ v) (fun b hb'=>rfl) (h.rel.ob p h1)
    rintro rfl
    rcases hk with hk | hk
    ·exact h2 hk.symm
    ·rw [hm' p hp] at hk;cases hk
  ·rcases alZ.mp hp with rfl | hp <;> rcases alZ.mp hr with rfl | hr
   ·exact hne rfl
   ·obtain ⟨h1,h2⟩:=fO.mp hr
    rw [cK,hv] at hb1
    cases hb1
    rw [fG h2] at hb2
    exact hb.2.2.2 r h1 hb2
   ·obtain ⟨h1,h2⟩:=fO.mp hp
    simp only [cK] at hb2
    rw [hv] at hb2
    cases hb2
    rw [fG h2] at hb1
    exact hb.2.2.2 p h1 hb1
   ·obtain ⟨h1,h2⟩:=fO.mp hp
    obtain ⟨h3,h4⟩:=fO.mp hr
    rw [fG h2] at hb1
    rw [fG h4] at hb2
    exact h.rel.wM p h1 r h3 b' hne hb1 hb2
  ·rcases alZ.mp hp with rfl | hp
   ·simp only [cK] at hb1
    rw [hv] at hb1
    cases hb1
    exact ⟨hb.1,hb.2.1,hb.2.2.1⟩
   ·obtain ⟨h1,h2⟩:=fO.mp hp
    rw [fG h2] at hb1
    exact h.rel.pos p h1 b' hb1
  ·have hx:=h.ap b' (amu _ hb')
   refine ⟨hx.1,hx.2.1,hx.2.2.1,fun p hp=>?_⟩
   rcases alZ.mp hp with rfl | hp
   ·simp only [cK]
    rw [hv]
    intro e
    cases e
    exact (amw.mp h.kM).1 hb'
   ·obtain ⟨h1,h2⟩:=fO.mp hp
    rw [fG h2]
    exact hx.2.2.2 p h1
theorem dA.back {b:Nat} (h:dA bK w0 bJ N (b :: bs) Fz κ σ a w) {key:Nat} {ob:Ob} (hv:blk (κ key) = some b) (ho:jf 0 Fz κ w key ob):dA bK w0 bJ N bs Fz κ (jU σ key ob) a w:=by
 have hb:=h.ap b (by simp)
 refine ⟨⟨h.rel.tm,h.rel.sz,h.rel.kM,h.rel.fs,fun p hp=>?_,fun p hp r hr b' hne hb1 hb2=>?_,fun p hp b' hb1=>?_,h.rel.fz,h.rel.Bc,h.rel.big,h.rel.ext,h.rel.kp⟩,(amw.mp h.kM).2,fun b' hb'=>?_⟩
 ·rcases iY hp with rfl | ⟨hp,_⟩
  ·exact ho
  ·exact h.rel.ob p hp
 ·rcases iY hp with rfl | ⟨hp,_⟩ <;> rcases iY hr with rfl | ⟨hr,_⟩
  ·exact hne rfl
  ·rw [hv] at hb1;cases hb1
   exact hb.2.2.2 r hr hb2
  ·simp only [hv] at hb2;cases hb2
   exact hb.2.2.2 p hp hb1
  ·exact h.rel.wM p hp r hr b' hne hb1 hb2
 ·rcases iY hp with rfl | ⟨hp,_⟩
  ·simp only [hv] at hb1;cases hb1
   exact ⟨hb.1,hb.2.1,hb.2.2.1⟩
  ·exact h.rel.pos p hp b' hb1
 ·have hx:=h.ap b' (amu _ hb')
  refine ⟨hx.1,hx.2.1,hx.2.2.1,fun p hp=>?_⟩
  rcases iY hp with rfl | ⟨hp,_⟩
  ·simp only [hv]
   intro e
   cases e
   exact (amw.mp h.kM).1 hb'
  ·exact hx.2.2.2 p hp
theorem DN {key:Nat} {v:Value} {pend:List PL} {kD:List Value} (hp:bG Fz κ w pend kD) (hm:¬ pend.any (fB key) = true):bG Fz (qO κ key v) w pend kD :=
 bG.mono (fun _ h=>h) (fun _ _=>rfl) pend (fun k hk=>fG (fun e=>by subst e;exact hm hk) v) kD hp
theorem dA.JH {b:Nat} (h:dA bK w0 bJ N (b :: bs) Fz κ σ a w) {key:Nat} {ob:Ob} {v:Value} {pend:List PL} {kD:List Value} (hp:bG Fz κ w pend kD) (hn:newP pend σ key ob = some σ') (hv:blk v = some b) (ho:jf 0 Fz (qO κ key v) w key ob) :
  dA bK w0 bJ N bs Fz (qO κ key v) σ' a w ∧ bG Fz (qO κ key v) w pend kD:=by
 unfold newP at hn
 split at hn
 ·cases hn
 ·rename_i hm
  exact ⟨h.give hn hv ho,DN hp hm⟩
theorem Bj.ofMap {sh:KS} {ents:List (KV × FC)} {b key:Nat} {B:Nat} {v:Value} (hv:v = .map (some b)) (h:Bj Fz w sh ents b):jf B Fz (qO κ key v) w key (.map sh ents):=⟨b,by rw [cK,hv],h⟩
theorem jV.row {sz key:Nat} {rows:List (List FV)} {v:Value} {bx:List Nat} {B:Nat} (hB:B = 0) (h:jV Fz w sz rows v bx):jf B Fz (qO κ key v) w key (.row sz rows):=by
 subst hB
 obtain ⟨h0,e,inner,A,c,h1,h2,h3,_⟩:=h
 exact ⟨h0,e,inner,A,c,by rw [cK];exact h1,by rw [cK];exact h2,h3⟩
theorem dA.NK {v:Value} {sz:Nat} {rows:List (List FV)} {bx:List Nat} (h:dA bK w0 bJ N (bx ++ bs) Fz κ σ a w) {key:Nat} {pend:List PL} {kD:List Value} (hp:bG Fz κ w pend kD) (hn:newP pend σ key (.row sz rows) = some σ') (ho:jV Fz w sz rows v bx) :
  dA bK w0 bJ N bs Fz (qO κ key v) σ' a w ∧ bG Fz (qO κ key v) w pend kD ∧ fD Fz (qO κ key v) w (.own key rows.length) v:=by
 have hrow:=jV.row (κ:=κ) (key:=key) (B:=0) rfl ho
 have hbx:bx = qK v:=ho.2.choose_spec.choose_spec.choose_spec.choose_spec.2.2.2
 have hval:fD Fz (qO κ key v) w (.own key rows.length) v:=by
  obtain ⟨h0,e,inner,A,c,h1,_⟩:=ho
  exact ⟨by rw [cK],A,c,h1⟩
 subst hbx
 cases hb:blk v with
 | some b =>
  simp only [qK,hb] at h
  obtain ⟨g1,g2⟩:=dA.JH (b:=b) (v:=v) h hp hn hb hrow
  exact ⟨g1,g2,hval⟩
 | none =>
  simp only [qK,hb,List.nil_append] at h
  unfold newP at hn
  split at hn
  ·cases hn
  ·rename_i hm
   refine ⟨⟨h.rel.new hn (alC _) (fun _ _=>rfl) (fun b hb'=>by rw [hb] at hb';cases hb') ⟨rfl,rfl⟩ hrow,h.kM,fun b' hb'=>?_⟩,DN hp hm,hval⟩
   have hx:=h.ap b' hb'
   refine ⟨hx.1,hx.2.1,hx.2.2.1,fun p hp'=>?_⟩
   unfold Ev.new ZF at hn
   split at hn
   ·cases hn
   ·simp only [Option.map_some,alI] at hn
    subst hn
    rcases alZ.mp hp' with rfl | hp'
    ·simp only [cK];rw [hb];intro e;cases e
    ·obtain ⟨h1,h2⟩:=fO.mp hp'
     rw [fG h2]
     exact hx.2.2.2 p h1
theorem dA.aaY {key:Nat} {ob:Ob} (h:dA bK w0 bJ N (qK (κ key) ++ bs) Fz κ σ a w) (ho:jf 0 Fz κ w key ob):dA bK w0 bJ N bs Fz κ (jU σ key ob) a w:=by
 cases hb:blk (κ key) with
 | some b=>simp only [qK,hb] at h;exact h.back hb ho
 | none =>
  simp only [qK,hb,List.nil_append] at h
  refine ⟨⟨h.rel.tm,h.rel.sz,h.rel.kM,h.rel.fs,fun p hp=>?_,fun p hp r hr b' hne hb1 hb2=>?_,fun p hp b' hb1=>?_,h.rel.fz,h.rel.Bc,h.rel.big,h.rel.ext,h.rel.kp⟩,h.kM,fun b' hb'=>?_⟩
  ·rcases iY hp with rfl | ⟨hp,_⟩
   ·exact ho
   ·exact h.rel.ob p hp
  ·rcases iY hp with rfl | ⟨hp,_⟩ <;> rcases iY hr with rfl | ⟨hr,_⟩
   ·exact hne rfl
   ·rw [hb] at hb1;cases hb1
   ·simp only [hb] at hb2;cases hb2
   ·exact h.rel.wM p hp r hr b' hne hb1 hb2
  ·rcases iY hp with rfl | ⟨hp,_⟩
   ·simp only [hb] at hb1;cases hb1
   ·exact h.rel.pos p hp b' hb1
  ·have:=h.ap b' hb'
   refine ⟨this.1,this.2.1,this.2.2.1,fun p hp=>?_⟩
   rcases iY hp with rfl | ⟨hp,_⟩
   ·simp only [hb];exact fun e=>by cases e
   ·exact this.2.2.2 p hp
theorem vk {Kp:Nat → Prop} {kf:Nat → Nat} (hk2:∀ k,Kp k → Kp (k + k % 2)) (Xt:∀ c,Kp (kf c)):∀ {xs:List CL} {vs:List Value} {bx bs:List Nat} {c:Nat} {pend l:List PL} {kD:List Value} {κ:Nat → Value} {σ σ':St},dA bK w0 bJ N (bx ++ bs) Fz κ σ a w → qY Fz w xs vs bx → bG Fz κ w pend kD → sZ kf c pend σ xs = some (l,σ') →
  ∃ gq,dA bK w0 bJ N bs Fz gq σ' a w ∧ bG Fz gq w l vs ∧ bG Fz gq w pend kD ∧ ∀ k,¬ Kp k → gq k = κ k
 | [],[],bx,bs,c,pend,l,kD,κ,σ,σ',h,hx,hp,hs=>by
  cases hs
  cases hx
  exact ⟨κ,h,trivial,hp,fun _ _=>rfl⟩
 | [],_ :: _,_,_,_,_,_,_,_,_,_,_,hx,_,_=>hx.elim
 | _ :: _,[],_,_,_,_,_,_,_,_,_,_,hx,_,_=>hx.elim
 | x :: xs,v :: vs,bx,bs,c,pend,l,kD,κ,σ,σ',h,hx,hp,hs=>by
  obtain ⟨b1,b2,h1,h2,rfl⟩:=hx
  have quiet:∀ (y:PL),fD Fz κ w y v → b1 = [] → ((sZ kf (c + 1) (y :: pend) σ xs).map fun p=>(y :: p.1,p.2)) = some (l,σ') → ∃ gq,dA bK w0 bJ N bs Fz gq σ' a w ∧ bG Fz gq w l (v :: vs) ∧ bG Fz gq w pend kD ∧ ∀ k,¬ Kp k → gq k = κ k:=by
   intro y hy hb hs
   subst hb
   obtain ⟨p,h3,h4⟩:=zmm hs
   cases h4
   obtain ⟨gq,e1,e2,e3,e4⟩:=vk hk2 Xt h h2 (show bG Fz κ w (y :: pend) (v :: kD) from ⟨hy,hp⟩) h3
   exact ⟨gq,e1,⟨e3.1,e2⟩,e3.2,e4⟩
  cases x with
  | f x=>exact quiet (.f x) h1.1 h1.2 hs
  | iW=>exact quiet .iW h1.1 h1.2 hs
  | gu=>exact quiet .gu h1.1 h1.2 hs
  | mp sh ents =>
   obtain ⟨b,hv,hM,rfl⟩:=h1
   obtain ⟨s,h3,h4⟩:=zbm hs
   obtain ⟨p,h5,h6⟩:=zmm h4
   cases h6
   obtain ⟨g1,g2⟩:=dA.JH (bs:=b2 ++ bs) (b:=b) (v:=v) (by simpa using h) hp h3 (by rw [hv];rfl) (Bj.ofMap hv hM)
   obtain ⟨gq,e1,e2,e3,e4⟩:=vk hk2 Xt g1 h2 (show bG Fz (qO κ (kf c) v) w (.mp (kf c) :: pend) (v :: kD) from ⟨⟨by rw [cK],b,hv⟩,g2⟩) h5
   exact ⟨gq,e1,⟨e3.1,e2⟩,e3.2,fun k hk=>(e4 k hk).trans (fG (fun (e:k = kf c)=>hk (by rw [e];exact Xt c)) v)⟩
  | own sz rows =>
   obtain ⟨s,h3,h4⟩:=zbm hs
   obtain ⟨p,h5,h6⟩:=zmm h4
   cases h6
   obtain ⟨g1,g2,g3⟩:=dA.NK (bs:=b2 ++ bs) (bx:=b1) (by rw [← amt];exact h) hp h3 h1
   obtain ⟨gq,e1,e2,e3,e4⟩:=vk hk2 Xt g1 h2 (show bG Fz (qO κ (kf c + kf c % 2) v) w (.own (kf c + kf c % 2) rows.length :: pend) (v :: kD) from ⟨g3,g2⟩) h5
   exact ⟨gq,e1,⟨e3.1,e2⟩,e3.2,fun k hk=>(e4 k hk).trans (fG (fun (e:k = kf c + kf c % 2)=>hk (by rw [e];exact hk2 _ (Xt c))) v)⟩
theorem NM {Kp:Nat → Prop} {key:Nat} (hk2:∀ k,Kp k → Kp (k + k % 2)) (hk:Kp key) (Xt:∀ c,Kp (Rq key c)) {x:TV} {v:Value} {bx:List Nat} {pend:List PL} {l:PL} {kD:List Value} (h:dA bK w0 bJ N (bx ++ bs) Fz κ σ a w) (hx:pI Fz w x v bx) (hp:bG Fz κ w pend kD) (hs:EN key pend σ x = some (l,σ')) :
  ∃ gq,dA bK w0 bJ N bs Fz gq σ' a w ∧ fD Fz gq w l v ∧ bG Fz gq w pend kD ∧ ∀ k,¬ Kp k → gq k = κ k:=by
 cases x with
 | f x=>cases hs;obtain ⟨h1,rfl⟩:=hx;exact ⟨κ,h,h1,hp,fun _ _=>rfl⟩
 | iW=>cases hs;obtain ⟨h1,rfl⟩:=hx;exact ⟨κ,h,h1,hp,fun _ _=>rfl⟩
 | gu=>cases hs;obtain ⟨h1,rfl⟩:=hx;exact ⟨κ,h,h1,hp,fun _ _=>rfl⟩
 | mp sh ents =>
  obtain ⟨s,h3,h4⟩:=zmm hs
  cases h4
  obtain ⟨b,hv,hM,rfl⟩:=hx
  obtain ⟨g1,g2⟩:=dA.JH (bs:=bs) (b:=b) (v:=v) h hp h3 (by rw [hv];rfl) (Bj.ofMap hv hM)
  exact ⟨_,g1,⟨by rw [cK],b,hv⟩,g2,fun k hk'=>fG (fun (e:k = key)=>hk' (by rw [e];exact hk)) v⟩
 | own sz rows =>
  obtain ⟨s,h3,h4⟩:=zmm hs
  cases h4
  obtain ⟨g1,g2,g3⟩:=dA.NK (bs:=bs) (bx:=bx) h hp h3 hx
  exact ⟨_,g1,g3,g2,fun k hk'=>fG (fun (e:k = ow key)=>hk' (by rw [e];unfold ow;split;exact hk2 _ hk;exact hk)) v⟩
 | fp cs=>cases hs;obtain ⟨h1,rfl⟩:=hx;exact ⟨κ,h,fD.mono (gq:=κ) (fun _ h=>h) (fun _ _=>rfl) (fun k hk=>by cases hk) h1,hp,fun _ _=>rfl⟩
 | fn f cs=>cases hs;obtain ⟨h1,rfl⟩:=hx;exact ⟨κ,h,fD.mono (gq:=κ) (fun _ h=>h) (fun _ _=>rfl) (fun k hk=>by cases hk) h1,hp,fun _ _=>rfl⟩
 | any=>cases hs;cases hx;exact ⟨κ,h,trivial,hp,fun _ _=>rfl⟩
 | ptr cs =>
  obtain ⟨p,h3,h4⟩:=zbm hs
  split at h4
  ·cases h4
  ·rename_i hm
   obtain ⟨s,h5,h6⟩:=zmm h4
   cases h6
   obtain ⟨b,vals,e,ms,hv,hh,hcs,rfl⟩:=hx
   obtain ⟨Bp,e1,e2,e3,e4⟩:=vk hk2 Xt (bs:=b :: bs) (h.perm (by simpa using (List.perm_middle (l₁:=ms) (l₂:=bs) (a:=b)).symm)) hcs hp h3
   obtain ⟨g1,g2⟩:=dA.JH (bs:=bs) (b:=b) (v:=v) e1 e3 h5 (by rw [hv];rfl) ⟨b,vals,e,by rw [cK,hv],hh,DN e2 hm⟩
   exact ⟨_,g1,⟨b,by rw [cK,hv],hv⟩,g2,fun k hk'=>(fG (fun (e:k = key)=>hk' (by rw [e];exact hk)) v).trans (e4 k hk')⟩
theorem JI {Kp:Nat → Prop} {base:Nat} (hk2:∀ k,Kp k → Kp (k + k % 2)) (hK:∀ k c,Kp k → Kp (k + 2 * c)) (hb:Kp base):∀ {xs:List TV} {vs:List Value} {bx bs:List Nat} {j:Nat} {pend l:List PL} {kD:List Value} {κ:Nat → Value} {σ σ':St},dA bK w0 bJ N (bx ++ bs) Fz κ σ a w → ny Fz w xs vs bx → bG Fz κ w pend kD → zf base j pend σ xs = some (l,σ') →
  ∃ gq,dA bK w0 bJ N bs Fz gq σ' a w ∧ bG Fz gq w l vs ∧ bG Fz gq w pend kD ∧ ∀ k,¬ Kp k → gq k = κ k
 | [],[],bx,bs,j,pend,l,kD,κ,σ,σ',h,hx,hp,hs=>by
  cases hs
  cases hx
  exact ⟨κ,h,trivial,hp,fun _ _=>rfl⟩
 | [],_ :: _,_,_,_,_,_,_,_,_,_,_,hx,_,_=>hx.elim
 | _ :: _,[],_,_,_,_,_,_,_,_,_,_,hx,_,_=>hx.elim
 | x :: xs,v :: vs,bx,bs,j,pend,l,kD,κ,σ,σ',h,hx,hp,hs=>by
  obtain ⟨b1,b2,h1,h2,rfl⟩:=hx
  obtain ⟨p,h3,h4⟩:=zbm hs
  obtain ⟨r,h5,h6⟩:=zmm h4
  cases h6
  have hk:Kp (base + 200 * (j + 1)):=by have:=hK base (100 * (j + 1)) hb;rwa [show 2 * (100 * (j + 1)) = 200 * (j + 1) from by omega] at this
  obtain ⟨Bp,e1,e2,e3,e4⟩:=NM hk2 hk (fun c=>hK _ _ hk) (bs:=b2 ++ bs) (by rw [← amt];exact h) h1 hp h3
  obtain ⟨Ih,g1,g2,g3,g4⟩:=JI hk2 hK hb e1 h2 (show bG Fz Bp w (p.1 :: pend) (v :: kD) from ⟨e2,e3⟩) h5
  exact ⟨Ih,g1,⟨g3.1,g2⟩,g3.2,fun k hk=>(g4 k hk).trans (e4 k hk)⟩
theorem NP {Kp:Nat → Prop} {base:Nat} (hk2:∀ k,Kp k → Kp (k + k % 2)) (hK:∀ k c,Kp k → Kp (k + 2 * c)) (hb:Kp base) {x:AV} {v:Value} {bx:List Nat} {pend:List PL} {l:CV} {kD:List Value} (h:dA bK w0 bJ N (bx ++ bs) Fz κ σ a w) (hx:qZ Fz w x v bx) (hp:bG Fz κ w pend kD) (hs:M4 base pend σ x = some (l,σ')) :
  ∃ gq,dA bK w0 bJ N bs Fz gq σ' a w ∧ gX Fz gq w l v ∧ bG Fz gq w pend kD ∧ ∀ k,¬ Kp k → gq k = κ k:=by
 cases x with
 | one x =>
  obtain ⟨p,h1,h2⟩:=zmm hs
  cases h2
  have hk:Kp (base + 200):=hK base 100 hb
  exact NM hk2 hk (fun c=>hK _ _ hk) h hx hp h1
 | agg xs =>
  obtain ⟨p,h1,h2⟩:=zmm hs
  cases h2
  obtain ⟨cs,rfl,hx⟩:=hx
  obtain ⟨Bp,e1,e2,e3,e4⟩:=JI hk2 hK hb h hx hp h1
  exact ⟨Bp,e1,⟨cs,rfl,e2⟩,e3,e4⟩
def Fb : CV → Value → List Value
 | .one _,v=>[v]
 | .agg _,v=>v.cells.toList
theorem gX.Fb {x:CV} {v:Value} (h:gX Fz κ w x v):bG Fz κ w (Ev.cells x) (Ev.Fb x v):=by
 cases x with
 | one x=>exact ⟨h,trivial⟩
 | agg xs=>obtain ⟨cs,rfl,h⟩:=h;exact h
theorem gX.NQ {x:CV} {v:Value} (hs:∀ xs,x = .agg xs → ∃ cs,v = .agg cs) (h:bG Fz κ w (Ev.cells x) (Ev.Fb x v)):gX Fz κ w x v:=by
 cases x with
 | one x=>exact h.1
 | agg xs=>obtain ⟨cs,rfl⟩:=hs xs rfl;exact ⟨cs,rfl,h⟩
theorem bG.DR : ∀ {xs ys:List PL} {us vs:List Value},us.length = xs.length → bG Fz κ w (xs ++ ys) (us ++ vs) → bG Fz κ w xs us ∧ bG Fz κ w ys vs
 | [],ys,[],vs,_,h=>⟨trivial,h⟩
 | x :: xs,ys,u :: us,vs,hl,h=>by
  obtain ⟨h1,h2⟩:=bG.DR (xs:=xs) (us:=us) (by simpa using hl) h.2
  exact ⟨⟨h.1,h1⟩,h2⟩
theorem DT {Kp:Nat → Prop} {base:Nat} (hk2:∀ k,Kp k → Kp (k + k % 2)) (hK:∀ k c,Kp k → Kp (k + 2 * c)) (hb:Kp base):∀ {xs:List AV} {vs:List Value} {bx bs:List Nat} {i:Nat} {pend:List PL} {l:List CV} {kD:List Value} {κ:Nat → Value} {σ σ':St},dA bK w0 bJ N (bx ++ bs) Fz κ σ a w → gQ Fz w xs vs bx → bG Fz κ w pend kD → zh base i pend σ xs = some (l,σ') →
  ∃ gq,dA bK w0 bJ N bs Fz gq σ' a w ∧ eG Fz gq w l vs ∧ bG Fz gq w pend kD ∧ ∀ k,¬ Kp k → gq k = κ k
 | [],[],bx,bs,i,pend,l,kD,κ,σ,σ',h,hx,hp,hs=>by
  cases hs
  cases hx
  exact ⟨κ,h,trivial,hp,fun _ _=>rfl⟩
 | [],_ :: _,_,_,_,_,_,_,_,_,_,_,hx,_,_=>hx.elim
 | _ :: _,[],_,_,_,_,_,_,_,_,_,_,hx,_,_=>hx.elim
 | x :: xs,v :: vs,bx,bs,i,pend,l,kD,κ,σ,σ',h,hx,hp,hs=>by
  obtain ⟨b1,b2,h1,h2,rfl⟩:=hx
  obtain ⟨p,h3,h4⟩:=zbm hs
  obtain ⟨r,h5,h6⟩:=zmm h4
  cases h6
  have hk:Kp (base + 2000 * i):=by have:=hK base (1000 * i) hb;rwa [show 2 * (1000 * i) = 2000 * i from by omega] at this
  obtain ⟨Bp,e1,e2,e3,e4⟩:=NP hk2 hK hk (bs:=b2 ++ bs) (by rw [← amt];exact h) h1 hp h3
  obtain ⟨Ih,g1,g2,g3,g4⟩:=DT hk2 hK hb e1 h2 (show bG Fz Bp w (Ev.cells p.1 ++ pend) (Ev.Fb p.1 v ++ kD) from e2.Fb.app e3) h5
  obtain ⟨g5,g6⟩:=g3.DR (by have:=e2.Fb.length;omega)
  exact ⟨Ih,g1,⟨gX.NQ (fun xs hx=>by rw [hx] at e2;obtain ⟨cs,h,_⟩:=e2;exact ⟨cs,h⟩) g5,g2⟩,g6,fun k hk=>(g4 k hk).trans (e4 k hk)⟩
end
end
section
open Go
section
variable {P : Program} {Γ:Env} {bK Fz bR:Nat → Prop} {w0 w w':World} {bJ bs bsx:List Nat} {N:Fr} {d:Nat} {q:Bool} {κ gq:Nat → Value} {σ σ1 σ':St} {a:Act} {pv:PV} {o:Oper}
theorem NR {gv:Bool} (h:dA bK w0 bJ N bs Fz κ σ a w) {x:PL} {y:TV} (hs:uh gv σ x = some (y,σ')):∀ b,u7 gv κ [x] b → b < w.heap.size:=by
 rintro b ⟨hg,key,n,hm,hb⟩
 simp at hm
 subst hm
 simp only [uh] at hs
 split at hs
 ·rename_i sz rows gY
  exact (h.rel.pos _ (get_mem gY) b hb).2.1
 ·cases hs
theorem JJ {gv:Bool}:∀ {xs:List PL} {ys:List TV} {vs:List Value} {bs:List Nat} {Fz:Nat → Prop} {σ σ':St},dA bK w0 bJ N bs Fz κ σ a w → bG Fz κ w xs vs → uj gv σ xs = some (ys,σ') → ∀ b,u7 gv κ xs b → b < w.heap.size
 | [],ys,[],bs,Fz,σ,σ',h,_,hs,b,⟨_,k,n,hm,_⟩=>by simp at hm
 | x :: xs,ys,v :: vs,bs,Fz,σ,σ',h,hx,hs,b,⟨hg,k,n,hm,hb⟩=>by
  obtain ⟨p,h1,h2⟩:=zbm hs
  obtain ⟨r,h3,h4⟩:=zmm h2
  rcases alZ.mp hm with hm | hm
  ·exact NR h h1 b ⟨hg,k,n,by simp [hm],hb⟩
  ·obtain ⟨F1,b1,e1,e2,e3⟩:=Ig h hx.1 h1
   exact JJ e1 (bG.mono e2 (fun _ _=>rfl) xs (fun _ _=>rfl) vs hx.2) h3 b ⟨hg,k,n,hm,hb⟩
 | [],_,_ :: _,_,_,_,_,_,h,_,_,_=>h.elim
 | _ :: _,_,[],_,_,_,_,_,h,_,_,_=>h.elim
theorem Xu {gv:Bool} (h:dA bK w0 bJ N bs Fz κ σ a w) {x:CV} {y:AV} {v:Value} (hx:gX Fz κ w x v) (hs:M0 gv σ x = some (y,σ')):∀ b,u7 gv κ (Ev.cells x) b → b < w.heap.size:=by
 cases x with
 | one x =>
  obtain ⟨p,h1,h2⟩:=zmm hs
  exact NR h h1
 | agg xs =>
  obtain ⟨p,h1,h2⟩:=zmm hs
  obtain ⟨cs,rfl,hx⟩:=hx
  exact JJ h hx h1
theorem JK {gv:Bool}:∀ {xs:List CV} {ys:List AV} {vs:List Value} {bs:List Nat} {Fz:Nat → Prop} {σ σ':St},dA bK w0 bJ N bs Fz κ σ a w → eG Fz κ w xs vs → uN gv σ xs = some (ys,σ') → ∀ b,u7 gv κ (xs.flatMap Ev.cells) b → b < w.heap.size
 | [],ys,[],bs,Fz,σ,σ',h,_,hs,b,⟨_,k,n,hm,_⟩=>by simp at hm
 | x :: xs,ys,v :: vs,bs,Fz,σ,σ',h,hx,hs,b,⟨hg,k,n,hm,hb⟩=>by
  obtain ⟨p,h1,h2⟩:=zbm hs
  obtain ⟨r,h3,h4⟩:=zmm h2
  rw [anl] at hm
  rcases amj.mp hm with hm | hm
  ·exact Xu h hx.1 h1 b ⟨hg,k,n,hm,hb⟩
  ·obtain ⟨F1,b1,e1,e2,e3⟩:=NJ h hx.1 h1
   exact JK e1 (eG.mono e2 (fun _ _=>rfl) xs (fun _ _=>rfl) vs hx.2) h3 b ⟨hg,k,n,hm,hb⟩
 | [],_,_ :: _,_,_,_,_,_,h,_,_,_=>h.elim
 | _ :: _,_,[],_,_,_,_,_,h,_,_,_=>h.elim
theorem dA.sub {b1 b2:List Nat} (h:dA bK w0 bJ N (b1 ++ b2) Fz κ σ a w):dA bK w0 bJ N b2 Fz κ σ a w:=⟨h.rel,(amO.mp h.kM).2.1,fun b hb=>h.ap b (List.mem_append_right _ hb)⟩
theorem Lu {base:Nat} {xs:List PL} (hb:base % 2 = 0) (c:Nat):Lm base xs c % 2 = 0:=by
 unfold Lm
 split
 ·split
  ·assumption
  ·omega
 ·split
  ·assumption
  ·omega
 ·omega
theorem NS {gJ:St} {base:Nat} (hb:base % 2 = 0) {x:PL} {y:TV} {v:Value} {bx:List Nat} {pend:List PL} {kD:List Value} (h:dA bK w0 bJ N (bx ++ bs) Fz κ σ a w) (hy:pI Fz w y v bx) (hp:bG Fz κ w pend kD) (hsub:∀ κ,bG Fz κ w pend kD → fD Fz κ w x v) (hs:EO gJ pend base σ x y = some σ') :
  ∃ gq,dA bK w0 bJ N bs Fz gq σ' a w ∧ bG Fz gq w pend kD ∧ ∀ k,k % 2 = 1 → gq k = κ k:=by
 have plain:bx = [] → some σ = some σ' → ∃ gq,dA bK w0 bJ N bs Fz gq σ' a w ∧ bG Fz gq w pend kD ∧ ∀ k,k % 2 = 1 → gq k = κ k:=by
  intro hb hs
  cases hs
  subst hb
  exact ⟨κ,h,hp,fun _ _=>rfl⟩
 cases y with
 | ptr cs =>
  cases x with
  | ptr key off =>
   simp only [EO] at hs
   split at hs
   ·rename_i xs gY
    obtain ⟨p,h1,h2⟩:=zmm hs
    cases h2
    obtain ⟨b,vals,e,ms,hv,hh,hcs,rfl⟩:=hy
    obtain ⟨Bp,e1,e2,e3,e4⟩:=vk (Kp:=fun k=>k % 2 = 0) (fun k hk=>by omega) (Lu hb) (bs:=b :: bs) (h.perm (by simpa using (List.perm_middle (l₁:=ms) (l₂:=bs) (a:=b)).symm)) hcs hp h1
    obtain ⟨b',g1,g2⟩:=hsub Bp e3
    rw [hv] at g2
    cases g2
    exact ⟨Bp,e1.back (by rw [g1];rfl) ⟨b,vals,e,g1,hh,e2⟩,e3,fun k hk=>e4 k (by omega)⟩
   ·cases hs
  | _=>cases hs
 | mp sh ents =>
  cases x with
  | mp key =>
   cases hs
   obtain ⟨b,hv,hM,rfl⟩:=hy
   have hk:=(hsub κ hp).1
   rw [hv] at hk
   exact ⟨κ,h.back (b:=b) (by rw [← hk];rfl) ⟨b,hk.symm,hM⟩,hp,fun _ _=>rfl⟩
  | _=>cases hs
 | own sz rows =>
  have g:∃ gq,dA bK w0 bJ N bs Fz gq σ a w ∧ bG Fz gq w pend kD ∧ ∀ k,k % 2 = 1 → gq k = κ k:=⟨κ,h.sub,hp,fun _ _=>rfl⟩
  cases x with
  | own key n =>
   cases hs
   have hk:=(hsub κ hp).1
   obtain ⟨o0,e,inner,A,c,o1,o2,o3,o4⟩:=hy
   rw [hk] at o1 o2 o4
   rw [o4] at h
   exact ⟨κ,h.aaY ⟨o0,e,inner,A,c,o1,o2,o3⟩,hp,fun _ _=>rfl⟩
  | _=>first | (cases hs;exact g) | cases hs
 | fp cs=>cases x <;> first | exact plain hy.2 hs | cases hs
 | fn f cs=>cases x <;> first | exact plain hy.2 hs | cases hs
 | any=>cases x <;> first | exact plain hy hs | cases hs
 | f y=>cases x <;> first | exact plain hy.2 hs | cases hs
 | iW=>cases x <;> first | exact plain hy.2 hs | cases hs
 | gu=>cases x <;> first | exact plain hy.2 hs | cases hs
theorem JL {gJ:St} {pend:List PL} {kD:List Value}:∀ {xs:List PL} {ys:List TV} {vs:List Value} {bx bs:List Nat} {base:Nat} {κ:Nat → Value} {σ σ':St},base % 2 = 0 → dA bK w0 bJ N (bx ++ bs) Fz κ σ a w → ny Fz w ys vs bx → bG Fz κ w pend kD → (∀ κ,bG Fz κ w pend kD → bG Fz κ w xs vs) → Dk gJ pend base σ xs ys = some σ' →
  ∃ gq,dA bK w0 bJ N bs Fz gq σ' a w ∧ bG Fz gq w pend kD ∧ ∀ k,k % 2 = 1 → gq k = κ k
 | [],[],[],bx,bs,base,κ,σ,σ',hb,h,hy,hp,hsub,hs=>by cases hs;cases hy;exact ⟨κ,h,hp,fun _ _=>rfl⟩
 | x :: xs,y :: ys,v :: vs,bx,bs,base,κ,σ,σ',hb,h,hy,hp,hsub,hs=>by
  obtain ⟨s,h1,h2⟩:=zbm hs
  obtain ⟨b1,b2,g1,g2,rfl⟩:=hy
  obtain ⟨Bp,e1,e2,e3⟩:=NS hb (bs:=b2 ++ bs) (by rw [← amt];exact h) g1 hp (fun κ hk=>(hsub κ hk).1) h1
  obtain ⟨Ih,e4,e5,e6⟩:=JL (by omega) e1 g2 e2 (fun κ hk=>(hsub κ hk).2) h2
  exact ⟨Ih,e4,e5,fun k hk=>(e6 k hk).trans (e3 k hk)⟩
 | [],[],_ :: _,_,_,_,_,_,_,_,_,hy,_,_,_=>hy.elim
 | _ :: _,_ :: _,[],_,_,_,_,_,_,_,_,hy,_,_,_=>hy.elim
 | [],_ :: _,_,_,_,_,_,_,_,_,_,_,_,_,hs=>by cases hs
 | _ :: _,[],_,_,_,_,_,_,_,_,_,_,_,_,hs=>by cases hs
theorem Xv {gJ:St} {base:Nat} (hb:base % 2 = 0) {x:CV} {y:AV} {v:Value} {bx:List Nat} {pend:List PL} {kD:List Value} (h:dA bK w0 bJ N (bx ++ bs) Fz κ σ a w) (hy:qZ Fz w y v bx) (hp:bG Fz κ w pend kD) (hsub:∀ κ,bG Fz κ w pend kD → bG Fz κ w (Ev.cells x) (Fb x v)) (hs:wbA gJ pend base σ x y = some σ') :
  ∃ gq,dA bK w0 bJ N bs Fz gq σ' a w ∧ bG Fz gq w pend kD ∧ ∀ k,k % 2 = 1 → gq k = κ k:=by
 cases x with
 | one x =>
  cases y with
  | one y=>exact NS hb h hy hp (fun κ hk=>(hsub κ hk).1) hs
  | agg ys=>cases hs
 | agg xs =>
  cases y with
  | one y=>cases hs
  | agg ys =>
   obtain ⟨cs,rfl,hy⟩:=hy
   exact JL hb h hy hp hsub hs
theorem JM {gJ:St} {pend:List PL} {kD:List Value}:∀ {xs:List CV} {ys:List AV} {vs:List Value} {bx bs:List Nat} {base:Nat} {κ:Nat → Value} {σ σ':St},base % 2 = 0 → dA bK w0 bJ N (bx ++ bs) Fz κ σ a w → gQ Fz w ys vs bx → bG Fz κ w pend kD → (∀ κ,bG Fz κ w pend kD → eG Fz κ w xs vs) → Bg gJ pend base σ xs ys = some σ' →
  ∃ gq,dA bK w0 bJ N bs Fz gq σ' a w ∧ bG Fz gq w pend kD ∧ ∀ k,k % 2 = 1 → gq k = κ k
 | [],[],[],bx,bs,base,κ,σ,σ',hb,h,hy,hp,hsub,hs=>by cases hs;cases hy;exact ⟨κ,h,hp,fun _ _=>rfl⟩
 | x :: xs,y :: ys,v :: vs,bx,bs,base,κ,σ,σ',hb,h,hy,hp,hsub,hs=>by
  obtain ⟨s,h1,h2⟩:=zbm hs
  obtain ⟨b1,b2,g1,g2,rfl⟩:=hy
  obtain ⟨Bp,e1,e2,e3⟩:=Xv hb (bs:=b2 ++ bs) (by rw [← amt];exact h) g1 hp (fun κ hk=>(hsub κ hk).1.Fb) h1
  obtain ⟨Ih,e4,e5,e6⟩:=JM (by omega) e1 g2 e2 (fun κ hk=>(hsub κ hk).2) h2
  exact ⟨Ih,e4,e5,fun k hk=>(e6 k hk).trans (e3 k hk)⟩
 | [],[],_ :: _,_,_,_,_,_,_,_,_,hy,_,_,_=>hy.elim
 | _ :: _,_ :: _,[],_,_,_,_,_,_,_,_,hy,_,_,_=>hy.elim
 | [],_ :: _,_,_,_,_,_,_,_,_,_,_,_,_,hs=>by cases hs
 | _ :: _,[],_,_,_,_,_,_,_,_,_,_,_,_,hs=>by cases hs
def ret : List Value → Value
 | [x]=>x
 | xs=>.tuple xs.toArray
structure Post (Fz:Nat → Prop) (w:World) (vals:List Value) (bs:List Nat) (rs uy:List AV) (bR:Nat → Prop) (w':World) (wR:List Value) (b1 b2:List Nat):Prop where
 f1:∀ b,Fz b → bR b
 f2:∀ b,bR b → b < w'.heap.size ∧ (Fz b ∨ b ∈ bs ∨ w.heap.size ≤ b)
 big:w.heap.size ≤ w'.heap.size
 ext:∀ b,b < w.heap.size → b ∉ bs → w'.heap[b]? = w.heap[b]?
 kp:Kp w w'
 bk:gQ bR w' uy vals b1
 rs:gQ bR w' rs wR b2
 kM:(b1 ++ b2).Nodup
 ap:∀ b ∈ b1 ++ b2,¬ bR b ∧ b < w'.heap.size ∧ (b ∈ bs ∨ w.heap.size ≤ b)
def Sat (P:Program) (f:FuncId) (g:List AV → Option (List AV × List AV)):Prop :=
 ∀ gN rs uy,g gN = some (rs,uy) → ∀ (Fz:Nat → Prop) (w:World) (vals:List Value) (bs:List Nat),gQ Fz w gN vals bs → bs.Nodup → (∀ b ∈ bs,¬ Fz b ∧ b < w.heap.size) → (∀ b,Fz b → b < w.heap.size) →
  Calls P f vals.toArray w fun e w'=>∃ bR wR b1 b2,e = .returned (ret wR) ∧ Post Fz w vals bs rs uy bR w' wR b1 b2
def jg (P:Program) (Γ:Env):Prop:=∀ f,Sat P f (Γ f)
theorem dA.called (h:dA bK w0 bJ N bs Fz κ σ a w) {vals wR:List Value} {rs uy:List AV} {b1 b2:List Nat} (hp:Post Fz w vals bs rs uy bR w' wR b1 b2):dA bK w0 bJ N (b1 ++ b2) bR κ σ a w':=by
 have hap:∀ b ∈ bs,_:=h.ap
 have hfz:∀ b,Fz b → w'.heap[b]? = w.heap[b]?:=fun b hb=>hp.ext b (h.rel.fz b hb).1 (fun hm=>(hap b hm).1 hb)
 have gY:∀ p ∈ σ.ob,∀ b,blk (κ p.1) = some b → w'.heap[b]? = w.heap[b]?:=fun p hp' b hb=>hp.ext b (h.rel.pos p hp' b hb).2.1 (fun hm=>(hap b hm).2.2.2 p hp' hb)
 refine ⟨⟨fun p hp'=>jc.mono hp.f1 hfz (fun _ _=>rfl) (h.rel.tm p hp'),h.rel.sz,h.rel.kM,h.rel.fs,fun p hp'=>jf.mono hp.f1 hfz (fun _ _=>rfl) (gY p hp') (h.rel.ob p hp'),h.rel.wM,fun p hp' b hb=>?_,fun b hb=>?_,fun b hb=>hp.f1 b (h.rel.Bc b hb),alU h.rel.big hp.big,fun b h1 h2=>?_,?_⟩,hp.kM,fun b hb=>?_⟩
 ·have:=h.rel.pos p hp' b hb
  refine ⟨fun hf=>?_,amk this.2.1 hp.big,this.2.2⟩
  rcases (hp.f2 b hf).2 with h1 | h1 | h1
  ·exact this.1 h1
  ·exact (hap b h1).2.2.2 p hp' hb
  ·omega
 ·have:=hp.f2 b hb
  refine ⟨this.1,?_⟩
  rcases this.2 with h1 | h1 | h1
  ·exact (h.rel.fz b h1).2
  ·exact .inr (hap b h1).2.2.1
  ·exact .inr (.inr (alU h.rel.big h1))
 ·rw [hp.ext b (amk h1 h.rel.big) (fun hm=>?_)]
  ·exact h.rel.ext b h1 h2
  ·rcases (hap b hm).2.2.1 with h3 | h3
   ·exact h2 h3
   ·omega
 ·exact h.rel.kp.trans hp.kp
 ·obtain ⟨h1,h2,h3⟩:=hp.ap b hb
  refine ⟨h1,h2,?_,fun p hp' e=>?_⟩
  ·rcases h3 with h3 | h3
   ·exact (hap b h3).2.2.1
   ·exact .inr (alU h.rel.big h3)
  ·rcases h3 with h3 | h3
   ·exact (hap b h3).2.2.2 p hp' e
   ·have:=(h.rel.pos p hp' b e).2.1
    omega
theorem Fe {x:TV} {v:Value} {bx:List Nat} (h:pI Fz w x v bx) (hp:plain x = true):bx = []:=by
 cases x <;> first | exact h.2 | exact h | cases hp
theorem Cb : ∀ {xs:List TV} {vs:List Value} {bx:List Nat},ny Fz w xs vs bx → xs.all plain = true → bx = []
 | [],[],_,h,_=>h
 | x :: xs,v :: vs,_,⟨b1,b2,h1,h2,e⟩,hp=>by
  rw [List.all_cons,alN] at hp
  rw [e,Fe h1 hp.1,Cb h2 hp.2];rfl
 | [],_ :: _,_,h,_=>h.elim
 | _ :: _,[],_,h,_=>h.elim
theorem Ii {x:AV} {v:Value} {bx:List Nat} (h:qZ Fz w x v bx) (hp:gK x = true):bx = []:=by
 cases x with
 | one x=>exact Fe h hp
 | agg xs=>obtain ⟨cs,rfl,h⟩:=h;exact Cb h hp
theorem q8 : ∀ {xs:List AV} {vs:List Value} {bx:List Nat},gQ Fz w xs vs bx → xs.all gK = true → bx = []
 | [],[],_,h,_=>h
 | x :: xs,v :: vs,_,⟨b1,b2,h1,h2,e⟩,hp=>by
  rw [List.all_cons,alN] at hp
  rw [e,Ii h1 hp.1,q8 h2 hp.2];rfl
 | [],_ :: _,_,h,_=>h.elim
 | _ :: _,[],_,h,_=>h.elim
theorem JN {x:TV} {v:Value} {bx:List Nat} (h:pI Fz w x v bx) (hp:Nc x = false):pI bR w' x v [] ∧ bx = []:=by
 cases x with
 | f x =>
  obtain ⟨h1,h2⟩:=h
  refine ⟨⟨?_,rfl⟩,h2⟩
  cases x with
  | sl rows=>cases hp
  | _=>exact h1
 | _=>cases hp
theorem Fg : ∀ {xs:List TV} {vs:List Value} {bx:List Nat},ny Fz w xs vs bx → xs.any Nc = false → ny bR w' xs vs [] ∧ bx = []
 | [],[],_,h,_=>⟨rfl,h⟩
 | x :: xs,v :: vs,_,⟨b1,b2,h1,h2,e⟩,hp=>by
  rw [List.any_cons,anw] at hp
  obtain ⟨g1,rfl⟩:=JN h1 hp.1
  obtain ⟨g2,rfl⟩:=Fg h2 hp.2
  exact ⟨⟨[],[],g1,g2,rfl⟩,e⟩
 | [],_ :: _,_,h,_=>h.elim
 | _ :: _,[],_,h,_=>h.elim
theorem Lv {x:AV} {v:Value} {bx:List Nat} (h:qZ Fz w x v bx) (hp:yC x = false):qZ bR w' x v [] ∧ bx = []:=by
 cases x with
 | one x=>exact JN h hp
 | agg xs =>
  obtain ⟨cs,rfl,h⟩:=h
  obtain ⟨g1,g2⟩:=Fg (bR:=bR) (w':=w') h hp
  exact ⟨⟨cs,rfl,g1⟩,g2⟩
theorem zC : ∀ {xs:List AV} {vs:List Value} {bx:List Nat},gQ Fz w xs vs bx → xs.any yC = false → gQ bR w' xs vs [] ∧ bx = []
 | [],[],_,h,_=>⟨rfl,h⟩
 | x :: xs,v :: vs,_,⟨b1,b2,h1,h2,e⟩,hp=>by
  rw [List.any_cons,anw] at hp
  obtain ⟨g1,rfl⟩:=Lv h1 hp.1
  obtain ⟨g2,rfl⟩:=zC h2 hp.2
  exact ⟨⟨[],[],g1,g2,rfl⟩,e⟩
 | [],_ :: _,_,h,_=>h.elim
 | _ :: _,[],_,h,_=>h.elim
end
end
section
open Go
section
variable {P : Program} {Γ:Env} {bK Fz bR:Nat → Prop} {w0 w w':World} {bJ bs bsx:List Nat} {N:Fr} {d:Nat} {q:Bool} {κ gq:Nat → Value} {σ σ1 σ':St} {a:Act} {pv:PV} {o:Oper}
theorem vo (h:Rel bK w0 bJ N Fz κ σ a w):∀ {xs:List Operand} {ys:List eX} {l:List CV},Dq xs = some ys → jR σ ys = some l → eG Fz κ w l (xs.map a.eval)
 | [],ys,l,hx,hv=>by cases hx;cases hv;trivial
 | x :: xs,ys,l,hx,hv=>by
  obtain ⟨y,h1,h2⟩:=zbm hx
  obtain ⟨m,h3,rfl⟩:=zmm h2
  obtain ⟨v,h4,h5⟩:=zbm hv
  obtain ⟨n,h6,rfl⟩:=zmm h5
  exact ⟨h.eval h1 h4,vo h h3 h6⟩
theorem eG.Fb : ∀ {xs:List CV} {vs:List Value},eG Fz κ w xs vs → ∃ kD,bG Fz κ w (xs.flatMap Ev.cells) kD ∧ ∀ (bR:Nat → Prop) (w':World) gq,bG bR gq w' (xs.flatMap Ev.cells) kD → eG bR gq w' xs vs
 | [],[],_=>⟨[],trivial,fun _ _ _ _=>trivial⟩
 | x :: xs,v :: vs,h=>by
  obtain ⟨kD,h1,h2⟩:=eG.Fb h.2
  refine ⟨Ev.Fb x v ++ kD,by rw [anl];exact h.1.Fb.app h1,fun F' w' gq hr=>?_⟩
  rw [anl] at hr
  obtain ⟨g1,g2⟩:=hr.DR (by have:=h.1.Fb.length;omega)
  exact ⟨gX.NQ (fun ys hy=>by have:=h.1;rw [hy] at this;obtain ⟨cs,h,_⟩:=this;exact ⟨cs,h⟩) g1,h2 F' w' gq g2⟩
 | [],_ :: _,h=>h.elim
 | _ :: _,[],h=>h.elim
theorem JO {xs:List CV} {vs:List Value} (h:eG Fz κ w xs vs):jc Fz κ w (Lp xs) (ret vs):=by
 match xs,vs,h with
 | [],[],h=>exact ⟨_,rfl,h⟩
 | [x],[v],h=>exact h.1
 | x :: y :: xs,v :: u :: vs,h=>exact ⟨_,rfl,h⟩
theorem NT {gv:Bool} {xs:List CV} (h:xs.any (fun x=>(Ev.cells x).any iD) = false) (b:Nat):¬ u7 gv κ (xs.flatMap Ev.cells) b:=by
 rintro ⟨_,k,n,hm,_⟩
 obtain ⟨x,hx,hm⟩:=List.mem_flatMap.mp hm
 have:xs.any (fun x=>(Ev.cells x).any iD) = true:=amF.mpr ⟨x,hx,amF.mpr ⟨_,hm,rfl⟩⟩
 rw [h] at this;cases this
theorem jV.fz {sz:Nat} {rows:List (List FV)} {v:Value} {bx:List Nat} (h:jV Fz w sz rows v bx) (hf:∀ b,Fz b → bR b) (hb:∀ b ∈ bx,bR b):fU bR w (.sl rows) v:=by
 have hrow:=jV.row (κ:=fun _=>undef) (key:=0) (B:=0) rfl h
 have hbx:bx = qK v:=h.2.choose_spec.choose_spec.choose_spec.choose_spec.2.2.2
 have:=um (bR:=bR) hf (fun b hk=>hb b (by rw [cK] at hk;rw [hbx,qK,hk];simp)) hrow
 rwa [cK] at this
theorem gQ.fz : ∀ {xs:List AV} {vs:List Value} {bs:List Nat},gQ Fz w xs vs bs → ∃ bf bk:List Nat,bk.Sublist bs ∧ (∀ b ∈ bf,b ∈ bs) ∧ (bs.Nodup → ∀ b ∈ bf,b ∉ bk) ∧ ∀ bR:Nat → Prop,(∀ b,Fz b → bR b) → (∀ b ∈ bf,bR b) → gQ bR w (xs.map Rt) vs bk
 | [],[],_,h=>⟨[],[],by cases h;exact anv _,by simp,by simp,fun _ _ _=>rfl⟩
 | x :: xs,v :: vs,bs,⟨b1,b2,h1,h2,e⟩=>by
  subst e
  obtain ⟨bf,bk,g1,g2,g3,g4⟩:=gQ.fz h2
  by_cases hx:∃ sz rows,x = .one (.own sz rows)
  ·obtain ⟨sz,rows,rfl⟩:=hx
   refine ⟨b1 ++ bf,bk,g1.trans (List.sublist_append_right _ _),fun b hb=>?_,fun hn b hb hk=>?_,fun F hf hbf=>⟨[],bk,⟨jV.fz h1 hf fun b hb=>hbf b (by simp [hb]),rfl⟩,g4 F hf fun b hb=>hbf b (by simp [hb]),rfl⟩⟩
   ·rcases amj.mp hb with hb | hb
    ·simp [hb]
    ·simp [g2 b hb]
   ·have hn':=amO.mp hn
    rcases amj.mp hb with hb | hb
    ·exact hn'.2.2 b hb b (g1.subset hk) rfl
    ·exact g3 hn'.2.1 b hb hk
  ·have hfz:Rt x = x:=by
    cases x with
    | one y=>cases y <;> first | rfl | exact absurd ⟨_,_,rfl⟩ hx
    | agg _=>rfl
   refine ⟨bf,b1 ++ bk,List.Sublist.append (anv _) g1,fun b hb=>by simp [g2 b hb],fun hn b hb hk=>?_,fun F hf hbf=>⟨b1,bk,?_,g4 F hf hbf,rfl⟩⟩
   ·have hn':=amO.mp hn
    rcases amj.mp hk with hk | hk
    ·exact hn'.2.2 b hk b (g2 b hb) rfl
    ·exact g3 hn'.2.1 b hb hk
   ·rw [hfz];exact h1.mono hf (fun _ _=>rfl) (fun _ _=>rfl)
 | [],_ :: _,_,h=>h.elim
 | _ :: _,[],_,h=>h.elim
theorem Sat.WY {f:FuncId} {g:List AV → Option (List AV × List AV)} (h:Sat P f g):Sat P f (fun gN=>(g gN).map (Ev.WY q)):=by
 cases q with
 | false =>
  intro gN rs uy hg
  obtain ⟨r,h1,h2⟩:=zmm hg
  have:r = (rs,uy):=h2
  subst this
  exact h gN rs uy h1
 | true =>
  intro gN rs uy hg Fz w vals bs ha hn hb hf
  obtain ⟨r,h1,h2⟩:=zmm hg
  have e1:r.1.map Rt = rs:=al2 Prod.fst h2
  have e2:r.2 = uy:=al2 Prod.snd h2
  subst e1;subst e2
  refine Calls.mono (h gN r.1 r.2 h1 Fz w vals bs ha hn hb hf) ?_
  rintro e w' ⟨bR,wR,b1,b2,rfl,hp⟩
  obtain ⟨bf,bk,g1,g2,g3,g4⟩:=gQ.fz hp.rs
  have hnd:=amO.mp hp.kM
  refine ⟨fun b=>bR b ∨ b ∈ bf,wR,b1,bk,rfl,fun b hb=>.inl (hp.f1 b hb),fun b hb=>?_,hp.big,hp.ext,hp.kp,hp.bk.mono (fun b hb=>.inl hb) (fun _ _=>rfl) (fun _ _=>rfl),g4 _ (fun b hb=>.inl hb) (fun b hb=>.inr hb),List.Sublist.nodup (List.Sublist.append (anv _) g1) hp.kM,fun b hb=>?_⟩
  ·rcases hb with hb | hb
   ·exact hp.f2 b hb
   ·have:=hp.ap b (by simp [g2 b hb])
    exact ⟨this.2.1,.inr this.2.2⟩
  ·have hm:b ∈ b1 ++ b2:=by
    rcases amj.mp hb with hb | hb
    ·simp [hb]
    ·simp [g1.subset hb]
   have:=hp.ap b hm
   refine ⟨fun hor=>?_,this.2⟩
   rcases hor with h1 | h1
   ·exact this.1 h1
   ·rcases amj.mp hb with hb | hb
    ·exact hnd.2.2 b hb b (g2 b h1) rfl
    ·exact g3 hnd.2.1 b h1 hb
theorem Cc {gv:Bool} (mV:jg P Γ) (h:Rel bK w0 bJ N Fz κ σ a w) {f:FuncId} {oG:List CV} {vals:List Value} (hv:eG Fz κ w oG vals) (hE:l8 Γ gv q σ d f oG = some (pv,σ')) :
  Calls P f vals.toArray w fun e w'=>∃ v bR gq,e = .returned v ∧ Good bK w0 bJ N q d Fz κ σ a w bR gq σ' w' pv v:=by
 unfold l8 at hE
 obtain ⟨p,h1,hE⟩:=zbm hE
 obtain ⟨r,h2,hE⟩:=zbm hE
 split at hE
 ·cases hE
 split at hE
 ·cases hE
 rename_i hq1 hq2
 obtain ⟨s1,h3,hE⟩:=zbm hE
 obtain ⟨s2,h4,hE⟩:=zbm hE
 obtain ⟨u,h5,h6⟩:=zmm hE
 cases h6
 obtain ⟨F1,bx,e1,e2,e3⟩:=DK h.x hv h1
 rw [amC] at e1
 have elt:=JK h.x hv h1
 obtain ⟨kD,l1,l2⟩:=hv.Fb
 have aaZ:=(Sat.WY (q:=q) (mV f)) p.1 r.1 r.2 h2
 have fin:∀ {F2:Nat → Prop} {w':World} {wR:List Value} {b1 b2:List Nat},(∀ b,Fz b → F2 b) → (∀ b,Fz b → w'.heap[b]? = w.heap[b]?) → dA bK w0 bJ N (b1 ++ b2) F2 κ s1 a w' → gQ F2 w' r.2 vals b1 → gQ F2 w' r.1 wR b2 →
   ∃ v bR gq,Ending.returned (ret wR) = .returned v ∧ Good bK w0 bJ N q d Fz κ σ a w bR gq u.2 w' (Lp u.1) v:=by
  intro F2 w' wR b1 b2 hf hw hx hb hr
  have aa0:bG F2 κ w' (oG.flatMap Ev.cells) kD:=bG.mono hf hw _ (fun _ _=>rfl) _ l1
  have key:∃ Bp,dA bK w0 bJ N (b2 ++ []) F2 Bp s2 a w' ∧ ∀ k,k % 2 = 1 → Bp k = κ k:=by
   rw [amC]
   split at h4
   ·cases h4
    exact ⟨κ,hx.sub,fun _ _=>rfl⟩
   ·obtain ⟨Bp,g1,g2,g3⟩:=JM (by unfold dY;omega) hx hb aa0 (fun gq hk=>l2 F2 w' gq hk) h4
    exact ⟨Bp,g1,g3⟩
  obtain ⟨Bp,g1,g2⟩:=key
  obtain ⟨Ih,g3,g4,_,g5⟩:=DT (Kp:=fun k=>k % 2 = 0) (fun k hk=>by omega) (fun k c hk=>by omega) (by unfold dY;omega) g1 hr (show bG F2 Bp w' [] [] from trivial) h5
  exact ⟨_,F2,Ih,rfl,g3.rel,JO g4,hf,fun k hk=>(g5 k (by omega)).trans (g2 k hk)⟩
 have call:∀ {F2:Nat → Prop},(∀ b,F1 b → F2 b) → dA bK w0 bJ N bx F2 κ s1 a w → gQ F2 w p.1 vals bx → Calls P f vals.toArray w fun e w'=>∃ v bR gq,e = .returned v ∧ Good bK w0 bJ N q d Fz κ σ a w bR gq u.2 w' (Lp u.1) v:=by
  intro F2 hf hx ha
  refine Calls.mono (aaZ F2 w vals bx ha hx.kM (fun b hb=>⟨(hx.ap b hb).1,(hx.ap b hb).2.1⟩) (fun b hb=>(hx.rel.fz b hb).1)) ?_
  rintro e w' ⟨F3,wR,b1,b2,rfl,hp⟩
  refine fin (fun b hb=>hp.f1 b (hf b (e2 b hb))) (fun b hb=>?_) (hx.called hp) hp.bk hp.rs
  exact hp.ext b (h.fz b hb).1 (fun hm=>(hx.ap b hm).1 (hf b (e2 b hb)))
 cases gv with
 | true =>
  rw [am9,Bool.false_and,aly (by decide)] at h3
  cases h3
  exact call (fun _ h=>h) e1 (e3.mono (fun b hb=>hb.resolve_right (fun hl=>by cases hl.1)) (fun _ _=>rfl) (fun _ _=>rfl))
 | false =>
 rw [Bool.not_false,am1] at h3
 split at h3
 ·obtain ⟨F2,g1,g2,g3⟩:=Fa e1 h3
  refine call g2 g1 (e3.mono (fun b hb=>?_) (fun _ _=>rfl) (fun _ _=>rfl))
  rcases hb with hb | hb
  ·exact g2 b hb
  ·exact g3 b hb
 ·rename_i hfr
  cases h3
  rw [alN,Decidable.not_and_iff_or_not] at hfr
  by_cases hown:oG.any (fun x=>(Ev.cells x).any iD) = true
  ·rcases hfr with hfr | hfr
   ·rw [amv,not_or] at hfr
    have ahh:r.1.any yC = false:=any_false hfr.1
    have hpl:p.1.all gK = true:=by simpa using hfr.2
    have hbx:=q8 e3 hpl
    subst hbx
    refine Calls.mono (aaZ (fun b=>F1 b ∨ u7 false κ (oG.flatMap Ev.cells) b) w vals [] e3 amU (fun b hb=>by simp at hb) (fun b hb=>?_)) ?_
    ·rcases hb with hb | hb
     ·exact (e1.rel.fz b hb).1
     ·exact elt b hb
    ·rintro e w' ⟨F3,wR,b1,b2,rfl,hp⟩
     have hg:=e1.rel.grow hp.big (fun b hb=>hp.ext b hb (by simp)) hp.kp
     obtain ⟨n1,_⟩:=zC (bR:=F1) (w':=w') hp.rs ahh
     rw [alx hpl] at h4
     cases h4
     obtain ⟨Ih,g3,g4,_,g5⟩:=DT (Kp:=fun k=>k % 2 = 0) (fun k hk=>by omega) (fun k c hk=>by omega) (by unfold dY;omega) (bx:=[]) (bs:=[]) hg.x n1 (show bG F1 κ w' [] [] from trivial) h5
     exact ⟨_,F1,Ih,rfl,g3.rel,JO g4,e2,fun k hk=>g5 k (by omega)⟩
   ·exact absurd hown hfr
  ·have hno:oG.any (fun x=>(Ev.cells x).any iD) = false:=any_false hown
   exact call (fun _ h=>h) e1 (e3.mono (fun b hb=>hb.resolve_right (NT hno b)) (fun _ _=>rfl) (fun _ _=>rfl))
theorem NU {x:PL} {y:TV} {gv:Bool} (h:avT x = some y):uh gv σ x = some (y,σ) ∧ plain y = true ∧ iD x = false:=by
 cases x <;> first | (cases h;exact ⟨rfl,rfl,rfl⟩) | cases h
theorem JQ {gv:Bool}:∀ {xs:List PL} {ys:List TV},Ru xs = some ys → uj gv σ xs = some (ys,σ) ∧ ys.all plain = true ∧ xs.any iD = false
 | [],ys,h=>by cases h;exact ⟨rfl,rfl,rfl⟩
 | x :: xs,ys,h=>by
  obtain ⟨y,h1,h2⟩:=zbm h
  obtain ⟨l,h3,rfl⟩:=zmm h2
  obtain ⟨e1,e2,e3⟩:=NU (σ:=σ) (gv:=gv) h1
  obtain ⟨g1,g2,g3⟩:=JQ (gv:=gv) h3
  exact ⟨by unfold uj;rw [e1];simp only [Option.bind_some,g1,Option.map_some],by simp only [List.all_cons,e2,g2,Bool.and_self],by simp only [List.any_cons,e3,g3,Bool.or_self]⟩
theorem JR {gv:Bool}:∀ {xs:List CV} {ys:List AV},Nf xs = some ys → uN gv σ xs = some (ys,σ) ∧ ys.all gK = true ∧ xs.any (fun x=>(Ev.cells x).any iD) = false
 | [],ys,h=>by cases h;exact ⟨rfl,rfl,rfl⟩
 | x :: xs,ys,h=>by
  obtain ⟨y,h1,h2⟩:=zbm h
  obtain ⟨l,h3,rfl⟩:=zmm h2
  have key:M0 gv σ x = some (y,σ) ∧ gK y = true ∧ (Ev.cells x).any iD = false:=by
   cases x with
   | one x =>
    obtain ⟨z,h4,rfl⟩:=zmm h1
    obtain ⟨e1,e2,e3⟩:=NU (σ:=σ) (gv:=gv) h4
    exact ⟨by show Option.map _ (uh gv σ x) = _;rw [e1];rfl,e2,by simp only [Ev.cells,List.any_cons,e3,List.any_nil,Bool.or_self]⟩
   | agg xs =>
    obtain ⟨z,h4,rfl⟩:=zmm h1
    obtain ⟨e1,e2,e3⟩:=JQ (σ:=σ) (gv:=gv) h4
    exact ⟨by show Option.map _ (uj gv σ xs) = _;rw [e1];rfl,e2,e3⟩
  obtain ⟨e1,e2,e3⟩:=key
  obtain ⟨g1,g2,g3⟩:=JR (gv:=gv) h3
  exact ⟨by unfold uN;rw [e1];simp only [Option.bind_some,g1,Option.map_some],by simp only [List.all_cons,e2,g2,Bool.and_self],by simp only [List.any_cons,e3,g3,Bool.or_self]⟩
theorem Ij (mV:jg P Γ) (h:Rel bK w0 bJ N Fz κ σ a w) {f:FuncId} {oG:List CV} {vals:List Value} (hv:eG Fz κ w oG vals) (hE:uP Γ σ d f oG = some (pv,σ')) :
  Calls P f vals.toArray w fun e w'=>∃ v bR gq,e = .returned v ∧ Good bK w0 bJ N q d Fz κ σ a w bR gq σ' w' pv v:=by
 unfold uP at hE
 obtain ⟨gN,h1,hE⟩:=zbm hE
 obtain ⟨r,h2,hE⟩:=zbm hE
 obtain ⟨p,h3,hE⟩:=zbm hE
 obtain ⟨s',h4,h5⟩:=zmm hE
 obtain ⟨rfl,rfl⟩:=Prod.mk.inj h5
 obtain ⟨g1,g2,g3⟩:=JR (σ:=σ) (gv:=false) h1
 obtain ⟨F1,bx,e1,e2,e3⟩:=DK h.x hv g1
 rw [amC] at e1
 have hbx:=q8 e3 g2
 subst hbx
 have ha:gQ F1 w gN vals []:=e3.mono (fun b hb=>hb.resolve_right (NT g3 b)) (fun _ _=>rfl) (fun _ _=>rfl)
 refine Calls.mono (mV f gN r.1 r.2 h2 F1 w vals [] ha amU (fun b hb=>by simp at hb) (fun b hb=>(e1.rel.fz b hb).1)) ?_
 rintro e w' ⟨F3,wR,b1,b2,rfl,hp⟩
 have hx:=e1.called hp
 obtain ⟨rs,bk⟩:=r
 have hr:=hp.rs
 simp only at h3 hr
 match rs,h3 with
 | [.one (.own sz rows)],h3 =>
  cases h3
  match wR,hr with
  | [v],⟨c1,c2,k1,k2,k3⟩ =>
   have:c2 = []:=k2
   subst this
   rw [amC] at k3
   subst k3
   obtain ⟨m1,m2,m3⟩:=dA.NK (bs:=[]) (pend:=[]) (kD:=[]) (by rw [amC];exact hx.sub) (show bG F3 κ w' [] [] from trivial) (show newP [] σ (dY d) (.row sz rows) = some s' from h4) k1
   exact ⟨v,F3,qO κ (dY d) v,rfl,m1.rel,m3,fun b hb=>hp.f1 b (e2 b hb),fun k hk=>fG (by unfold dY;omega) _⟩
theorem qG {f:FuncId} {fn:Func} {args:Array Value} (hf:P.funcs[f]? = some fn) (hn:(fn.name == "runtime.NumGoroutine") = false) (hb:fn.body.isSome = true):(callFunc f args).run P w = .ok (.enter f args) w:=by
 unfold callFunc
 have hb':fn.body.isNone = false:=by cases h:fn.body <;> simp_all
 rw [Sem.run_bind,show (program:Sem Program).run P w = .ok P w from rfl]
 simp only [Result.andThen_ok,hf,hn,hb',al4,alV]
 rfl
theorem Lx {X:Hx} {i:I} (hc:uW P X o = some i):∃ c l,o.op = .call c ∧ Dq c.args.toList = some l ∧
  ((∃ fn f,(i = .call (X.gv.contains f) f l ∨ i = .Bd f l) ∧ c.callee = .value (.func f) ∧ P.funcs[f]? = some fn ∧ (fn.name == "runtime.NumGoroutine") = false ∧ fn.body.isSome = true) ∨ ∃ t,i = .dyn (.t t) l ∧ c.callee = .value (.tmp t)):=by
 unfold uW at hc
 split at hc
 ·rename_i c ho
  split at hc
  ·rename_i f qj
   split at hc
   ·rename_i fn hf
    split at hc
    ·rename_i hh
     obtain ⟨l,h1,rfl⟩:=zmm hc
     refine ⟨c,l,ho,h1,.inl ⟨fn,f,?_,qj,hf,hh.1,hh.2⟩⟩
     split
     ·exact .inr rfl
     ·exact .inl rfl
    ·cases hc
   ·cases hc
  ·rename_i t qj
   obtain ⟨l,h1,rfl⟩:=zmm hc
   exact ⟨c,l,ho,h1,.inr ⟨t,rfl,qj⟩⟩
  ·cases hc
 ·cases hc
def fE (P:Program) (Γ:Env):Prop:=∀ f gN r,Γ f gN = some r → ∃ fn,P.funcs[f]? = some fn ∧ (fn.name == "runtime.NumGoroutine") = false ∧ fn.body.isSome = true
theorem oU.Nw : ∀ {caps:List (List FV)} {cs:List Value},oU Fz w caps cs → eG Fz κ w (caps.map fun c=>CV.one (.fp c)) cs
 | [],[],_=>trivial
 | c :: caps,v :: cs,h=>⟨h.1,oU.Nw h.2⟩
 | [],_ :: _,h=>h.elim
 | _ :: _,[],h=>h.elim
theorem eG.app : ∀ {xs ys:List CV} {us vs:List Value},eG Fz κ w xs us → eG Fz κ w ys vs → eG Fz κ w (xs ++ ys) (us ++ vs)
 | [],ys,[],vs,_,h=>h
 | x :: xs,ys,u :: us,vs,h,h'=>⟨h.1,eG.app h.2 h'⟩
 | [],_,_ :: _,_,h,_=>h.elim
 | _ :: _,_,[],_,h,_=>h.elim
theorem yD {gv:Bool} (hC:fE P Γ) {f:FuncId} {oG:List CV} (hE:l8 Γ gv q σ d f oG = some (pv,σ')):∃ fn,P.funcs[f]? = some fn ∧ (fn.name == "runtime.NumGoroutine") = false ∧ fn.body.isSome = true:=by
 unfold l8 at hE
 obtain ⟨p,h1,hE⟩:=zbm hE
 obtain ⟨r,h2,hE⟩:=zbm hE
 obtain ⟨r',h2,_⟩:=zmm h2
 exact hC f _ _ h2
theorem aa1 {X:Hx} (heq:∀ t ∈ X.eqs,mI P t) (mV:jg P Γ) (hC:fE P Γ) (h:Rel bK w0 bJ N Fz κ σ a w) {i:I} (hc:uX P X o = some i) (hE:dL Γ q σ d i = some (pv,σ')) {K:Act → World → Prop} {Q:Exit → Act → World → Prop}
  (hK:∀ v bR gq w',Good bK w0 bJ N q d Fz κ σ a w bR gq σ' w' pv v → K (a.put o.dst v) w'):o.wp P a w K Q:=by
 unfold uX at hc
 split at hc
 ·rename_i i' hcc
  cases hc
  have Vs:∀ c:Call,c.args.map a.eval = (c.args.toList.map a.eval).toArray:=fun c=>by rw [← amS,Array.toArray_toList]
  have fin:∀ {f:FuncId} {fn:Func} {vals:List Value},P.funcs[f]? = some fn → (fn.name == "runtime.NumGoroutine") = false → fn.body.isSome = true → (Calls P f vals.toArray w fun e w'=>∃ v bR gq,e = .returned v ∧ Good bK w0 bJ N q d Fz κ σ a w bR gq σ' w' pv v) → (execOp a.eval o).run P w = (callFunc f vals.toArray).run P w → o.wp P a w K Q:=by
   intro f fn vals hf hn hb Ik hrun
   unfold Oper.wp
   rw [hrun,qG hf hn hb,Oper.upon_enter]
   refine Calls.mono Ik ?_
   rintro e w' ⟨v,bR,gq,rfl,hg⟩
   exact hK v bR gq w' hg
  obtain ⟨c,l,ho,hargs,⟨fn,f,hi,qj,hf,hn,hb⟩ | ⟨t,rfl,qj⟩⟩:=Lx hcc
  ·have Ik:Calls P f (c.args.toList.map a.eval).toArray w fun e w'=>∃ v bR gq,e = .returned v ∧ Good bK w0 bJ N q d Fz κ σ a w bR gq σ' w' pv v:=by
    rcases hi with rfl | rfl
    ·obtain ⟨oG,h1,h2⟩:=zbm hE
     exact Cc mV h (vo h hargs h1) h2
    ·obtain ⟨oG,h1,h2⟩:=zbm hE
     exact Ij mV h (vo h hargs h1) h2
   refine fin hf hn hb Ik ?_
   unfold execOp resolve
   simp only [ho,qj,Vs,Sem.run_bind]
   show (do let d ← Deferred.ofValue (a.eval (.func f)) (c.args.toList.map a.eval).toArray;invoke d.target d.args:Sem Next).run P w = _
   have hd:Deferred.ofValue (a.eval (.func f)) (c.args.toList.map a.eval).toArray = pure { target:=.fn (.func f) #[],args:=#[] ++ (c.args.toList.map a.eval).toArray }:=rfl
   rw [hd]
   simp only [Sem.run_bind,Sem.run_pure,Result.andThen_ok,invoke,Array.empty_append,Array.append_empty]
  ·obtain ⟨v,h1,h2⟩:=zbm hE
   have hv:=h.eval (x:=.tmp t) rfl h1
   split at h2
   ·rename_i f caps
    obtain ⟨oG,h3,h4⟩:=zbm h2
    obtain ⟨cs,e1,e2⟩:=hv
    obtain ⟨fn,hf,hn,hb⟩:=yD hC h4
    refine fin hf hn hb (Cc mV h ((vo h hargs h3).app e2.Nw) h4) ?_
    unfold execOp resolve
    simp only [ho,qj,Vs,Sem.run_bind]
    rw [e1]
    have hd:Deferred.ofValue (.func (.func f) #[] cs.toArray) (c.args.toList.map a.eval).toArray = pure { target:=.fn (.func f) cs.toArray,args:=#[] ++ (c.args.toList.map a.eval).toArray }:=rfl
    rw [hd]
    simp only [Sem.run_bind,Sem.run_pure,Result.andThen_ok,invoke,Array.empty_append,List.append_toArray,List.nil_append]
   ·cases h2
 ·split at hc
  ·rename_i i' hc0
   split at hc
   ·cases hc
   ·rename_i hi
    cases hc
    obtain ⟨r,w',gq,bR,v,h1,h2,h3⟩:=NI heq h hc0 (amg.mpr hi) hE
    unfold Oper.wp
    rw [h1]
    rcases h2 with rfl | ⟨rfl,rfl⟩
    ·exact hK v bR gq w' h3
    ·exact hK undef bR gq w' h3
  ·cases hc
end
end
section
open Go
def Ok (bK:Nat → Prop) (w0:World) (bJ:List Nat) (N:Fr) (jo:Nat → Value) (σ:St) (a:Act) (w:World):Prop:=∃ Fz κ,Rel bK w0 bJ N Fz κ σ a w ∧ ∀ k,k % 2 = 1 → κ k = jo k
section
variable {P : Program} {Γ:Env} {bK:Nat → Prop} {w0 w w':World} {bJ:List Nat} {N:Fr} {d:Nat} {q:Bool} {jo:Nat → Value} {σ σ1 σ':St} {a:Act} {pv:PV} {o:Oper} {X:Hx} {ops:Array Oper}
theorem Fh {Fz:Nat → Prop} {κ:Nat → Value} (h:Rel bK w0 bJ N Fz κ σ a w) {t:Bool} (hg:Bh σ (o.guard.map fun p=>((ops[p.1]?).bind (·.dst),p.2)) = some t):Region.wanted o (yielded ops a.tmps) = t:=by
 unfold Region.wanted
 cases hgu:o.guard with
 | none=>rw [hgu] at hg;cases hg;rfl
 | some p =>
  obtain ⟨j,want⟩:=p
  rw [hgu] at hg
  simp only [Option.map_some] at hg
  simp only [yielded]
  cases hd:(ops[j]?).bind (·.dst) with
  | none=>rw [hd] at hg;cases hg;rfl
  | some s =>
   rw [hd] at hg
   simp only [Option.bind_some]
   simp only [Bh] at hg
   split at hg
   ·rename_i b hb
    cases hg
    have hv:a.tmps.getD s undef = .bool b:=h.val hb
    rw [amq] at hv
    cases ht:a.tmps[s]? with
    | none=>rw [ht] at hv;cases hv
    | some v =>
     rw [ht] at hv
     simp only [Option.getD_some] at hv
     subst hv
     cases b <;> cases want <;> rfl
   ·rename_i hb
    cases hg
    have hv:a.tmps.getD s undef = undef:=h.val hb
    rw [amq] at hv
    cases ht:a.tmps[s]? with
    | none=>rfl
    | some v =>
     rw [ht] at hv
     simp only [Option.getD_some] at hv
     subst hv
     rfl
   ·cases hg
theorem yR (heq:∀ t ∈ X.eqs,mI P t) (mV:jg P Γ) (hC:fE P Γ) {g:G} (hg:uY P X ops N.ok o = some g) (h:Ok bK w0 bJ N jo σ a w) (hE:nQ Γ q σ g = some (pv,σ')) {K:Act → World → Prop} {Q:Exit → Act → World → Prop}
  (hK:∀ a' w',Ok bK w0 bJ N jo (tq σ' g.dst pv) a' w' → K a' w'):if Region.wanted o (yielded ops a.tmps) then o.wp P a w K Q ∨ (o.asks P a w ∧ LetsOut Q) else K (a.put o.dst undef) w:=by
 obtain ⟨Fz,κ,h,hk⟩:=h
 obtain ⟨i,h1,h2⟩:=zbm hg
 split at h2
 ·rename_i hd
  cases h2
  obtain ⟨t,h3,h4⟩:=zbm hE
  have hput:∀ {bR gq w' pv v s},Rel bK w0 bJ N bR gq s a w' → jc bR gq w' pv v → Rel bK w0 bJ N bR gq (tq s o.dst pv) (a.put o.dst v) w':=by
   intro bR gq w' pv v s hr hv
   cases hdst:o.dst with
   | none=>exact hr.Nl v
   | some d =>
    rw [hdst] at hd
    exact hr.put (by simpa using hd) hv
  rw [Fh h h3]
  cases t with
  | true =>
   rw [alx rfl]
   left
   rw [alx rfl] at h4
   refine aa1 heq mV hC h h1 h4 ?_
   intro v bR gq w' hg
   exact hK _ _ ⟨bR,gq,hput hg.rel hg.val,fun k hk'=>(hg.e6 k hk').trans (hk k hk')⟩
  | false =>
   rw [aly (by decide)]
   rw [aly (by decide)] at h4
   cases h4
   exact hK _ _ ⟨Fz,κ,hput h rfl,hk⟩
 ·cases h2
theorem DU (heq:∀ t ∈ X.eqs,mI P t) (mV:jg P Γ) (hC:fE P Γ) {g:G} (hg:uY P X ops N.ok o = some g) (h:Ok bK w0 bJ N jo σ a w) (hE:Rc Γ q σ g = some σ') {K:Act → World → Prop} {Q:Exit → Act → World → Prop}
  (hK:∀ a' w',Ok bK w0 bJ N jo σ' a' w' → K a' w'):if Region.wanted o (yielded ops a.tmps) then o.wp P a w K Q ∨ (o.asks P a w ∧ LetsOut Q) else K (a.put o.dst undef) w:=by
 obtain ⟨p,h1,h2⟩:=zmm hE
 subst h2
 exact yR heq mV hC hg h h1 hK
theorem NV (heq:∀ t ∈ X.eqs,mI P t) (mV:jg P Γ) (hC:fE P Γ) {Q:Exit → Act → World → Prop}:∀ {l:List Oper} {gs:List G} {σ:St} {a:Act} {w:World},kX P X ops N.ok l = some gs → Ok bK w0 bJ N jo σ a w → yP Γ q gs σ = some σ' → (∀ a' w',Ok bK w0 bJ N jo σ' a' w' → Q .normal a' w') → wpList P ops Q l a w
 | [],gs,σ,a,w,hc,h,hE,hQ=>by cases hc;cases hE;exact hQ a w h
 | o :: l,gs,σ,a,w,hc,h,hE,hQ=>by
  obtain ⟨g,h1,h2⟩:=zbm hc
  obtain ⟨r,h3,rfl⟩:=zmm h2
  obtain ⟨s,h4,h5⟩:=zbm hE
  exact DU heq mV hC h1 h h4 (fun a' w' h'=>NV heq mV hC h3 h' h5 hQ)
end
end
section
open Go
def RN : I → Bool
 | .alloc _ _=>false
 | .box _ _=>false
 | .tL _ _ _ _ _=>false
 | .Bd _ _=>false
 | .store _ _ _=>false
 | .qR _=>false
 | .y8 _ _ _ _=>false
 | .del _ _ _=>false
 | .app _ _ _ _ _=>false
 | .Vm _ _ _=>false
 | _=>true
def jW : eX → List Nat
 | .t i=>[i]
 | .k _=>[]
def Il : Option eX → List Nat
 | none=>[]
 | some x=>jW x
def slP (ps:List (Nat × Nat × eX)):List Nat:=ps.flatMap fun p=>jW p.2.2
def oK : I → List Nat
 | .mv x=>jW x
 | .pick c x y=>jW c ++ jW x ++ jW y
 | .alloc _ _=>[]
 | .box _ x=>jW x
 | .build _ ps=>slP ps
 | .tL _ _ _ _ ps=>slP ps
 | .load _ _ x=>jW x
 | .store _ x v=>jW x ++ jW v
 | .nC x=>jW x
 | .y7 _ x=>jW x
 | .ar _ x y=>jW x ++ jW y
 | .cmp _ x y=>jW x ++ jW y
 | .uK _ _ x y=>jW x ++ jW y
 | .cat x y=>jW x ++ jW y
 | .no x=>jW x
 | .ci _ x=>jW x
 | .oG x=>jW x
 | .qR _=>[]
 | .Lh x lo hi=>jW x ++ Il lo ++ Il hi
 | .cut _ x lo hi=>jW x ++ Il lo ++ Il hi
 | .fa _ x=>jW x
 | .WU _ _ _ x=>jW x
 | .ia _ x i=>jW x ++ jW i
 | .idx _ _ _ x i=>jW x ++ jW i
 | .chr x i=>jW x ++ jW i
 | .look _ _ _ x k=>jW x ++ jW k
 | .y8 _ x k v=>jW x ++ jW k ++ jW v
 | .del _ x k=>jW x ++ jW k
 | .ext x _=>jW x
 | .yw x=>jW x
 | .gW x=>jW x
 | .Li x=>jW x
 | .app _ _ _ x y=>jW x ++ jW y
 | .mn x y=>jW x ++ jW y
 | .mx x y=>jW x ++ jW y
 | .call _ _ xs=>xs.flatMap jW
 | .Bd _ xs=>xs.flatMap jW
 | .Dh _ x=>jW x
 | .bit _ x y=>jW x ++ jW y
 | .WV _ x y=>jW x ++ jW y
 | .WW _ xs=>xs.flatMap jW
 | .dyn x xs=>jW x ++ xs.flatMap jW
 | .H8 _ x y=>jW x ++ jW y
 | .cutV _ x y=>jW x ++ jW y
 | .Vm _ _ x=>jW x
 | .ZE x=>jW x
section
variable {Γ : Env} {d:Nat} {σ σ2 σ':St} {pv:PV}
def Same (l:List Nat) (σ σ2:St):Prop:=∀ s ∈ l,get σ2.tm s = get σ.tm s
theorem Same.l {l m:List Nat} (h:Same (l ++ m) σ σ2):Same l σ σ2:=fun s hs=>h s (by simp [hs])
theorem Same.r {l m:List Nat} (h:Same (l ++ m) σ σ2):Same m σ σ2:=fun s hs=>h s (by simp [hs])
theorem Same.val {x:eX} (h:Same (jW x) σ σ2):Ev.val σ2 x = Ev.val σ x:=by
 cases x with
 | t i=>simp only [Ev.val];rw [h i (by simp [jW])]
 | k x=>rfl
theorem Same.uQ {x:eX} (h:Same (jW x) σ σ2):Ev.uQ σ2 x = Ev.uQ σ x:=by
 cases x with
 | t i=>simp only [Ev.uQ];rw [h i (by simp [jW])]
 | k x=>rfl
theorem Same.vals : ∀ {ps:List (Nat × Nat × eX)},Same (slP ps) σ σ2 → Ev.vals σ2 ps = Ev.vals σ ps
 | [],_=>rfl
 | (o,n,x) :: ps,h=>by
  unfold slP at h
  rw [anl] at h
  unfold Ev.vals
  rw [h.l.val,Same.vals h.r]
theorem Same.jR : ∀ {xs:List eX},Same (xs.flatMap jW) σ σ2 → Ev.jR σ2 xs = Ev.jR σ xs
 | [],_=>rfl
 | x :: xs,h=>by
  rw [anl] at h
  unfold Ev.jR
  rw [h.l.val,Same.jR h.r]
theorem Same.bnd {x:Option eX} {n m:Nat} (h:Same (Il x) σ σ2):Ev.bnd σ2 n x m = Ev.bnd σ n x m:=by
 cases x with
 | none=>rfl
 | some x=>simp only [Ev.bnd];rw [Same.val h]
theorem Same.rng {lo hi:Option eX} {n:Nat} (hl:Same (Il lo) σ σ2) (hh:Same (Il hi) σ σ2):Ev.rng n σ2 lo hi = Ev.rng n σ lo hi:=by
 unfold Ev.rng
 rw [hh.bnd]
 congr 1
 funext h
 rw [hl.bnd]
theorem Ce {gv:Bool} {x:PL} {y:TV} (ho:∀ k o,get σ.ob k = some o → get σ2.ob k = some o) (h:uh gv σ x = some (y,σ')) (hp:plain y = true):σ' = σ ∧ uh gv σ2 x = some (y,σ2):=by
 cases x with
 | f x=>cases h;exact ⟨rfl,rfl⟩
 | dz=>cases h;exact ⟨rfl,rfl⟩
 | iW=>cases h;exact ⟨rfl,rfl⟩
 | gu=>cases h;exact ⟨rfl,rfl⟩
 | own k n =>
  simp only [uh] at h ⊢
  split at h
  ·rename_i hk
   split at h
   ·cases h;cases hp
   ·rename_i hg;cases h;rw [ho _ _ hk];simp only [aly hg];exact ⟨trivial,trivial⟩
  ·cases h
 | fp cs=>cases h;exact ⟨rfl,rfl⟩
 | fn f cs=>cases h;exact ⟨rfl,rfl⟩
 | mp k =>
  simp only [uh] at h
  split at h
  ·cases h;cases hp
  ·cases h
 | ptr k o =>
  cases o with
  | succ n=>cases h
  | zero =>
   simp only [uh] at h
   split at h
   ·obtain ⟨p,_,h2⟩:=zmm h;cases h2;cases hp
   ·cases h
 | _=>cases h
theorem zD {gv:Bool} (ho:∀ k o,get σ.ob k = some o → get σ2.ob k = some o):∀ {xs:List PL} {ys:List TV} {σ':St},uj gv σ xs = some (ys,σ') → ys.all plain = true → σ' = σ ∧ uj gv σ2 xs = some (ys,σ2)
 | [],ys,σ',h,_=>by cases h;exact ⟨rfl,rfl⟩
 | x :: xs,ys,σ',h,hp=>by
  obtain ⟨p,h1,h2⟩:=zbm h
  obtain ⟨r,h3,h4⟩:=zmm h2
  cases h4
  rw [List.all_cons,alN] at hp
  obtain ⟨e1,e2⟩:=Ce ho h1 hp.1
  rw [e1] at h3
  obtain ⟨e3,e4⟩:=zD ho h3 hp.2
  exact ⟨e3,by unfold uj;rw [e2];simp only [Option.bind_some];rw [e4];rfl⟩
theorem zF {gv:Bool} (ho:∀ k o,get σ.ob k = some o → get σ2.ob k = some o):∀ {xs:List CV} {ys:List AV} {σ':St},uN gv σ xs = some (ys,σ') → ys.all gK = true → σ' = σ ∧ uN gv σ2 xs = some (ys,σ2)
 | [],ys,σ',h,_=>by cases h;exact ⟨rfl,rfl⟩
 | x :: xs,ys,σ',h,hp=>by
  obtain ⟨p,h1,h2⟩:=zbm h
  obtain ⟨r,h3,h4⟩:=zmm h2
  cases h4
  rw [List.all_cons,alN] at hp
  have key:p.2 = σ ∧ M0 gv σ2 x = some (p.1,σ2):=by
   cases x with
   | one x =>
    obtain ⟨u,g1,g2⟩:=zmm h1
    obtain ⟨e1,e2⟩:=Ce ho g1 (by rw [← g2] at hp;exact hp.1)
    exact ⟨by rw [← g2];exact e1,by simp only [M0];rw [e2,← g2];rfl⟩
   | agg xs =>
    obtain ⟨u,g1,g2⟩:=zmm h1
    obtain ⟨e1,e2⟩:=zD ho g1 (by rw [← g2] at hp;exact hp.1)
    exact ⟨by rw [← g2];exact e1,by simp only [M0];rw [e2,← g2];rfl⟩
  rw [key.1] at h3
  obtain ⟨e3,e4⟩:=zF ho h3 hp.2
  exact ⟨e3,by unfold uN;rw [key.2];simp only [Option.bind_some];rw [e4];rfl⟩
theorem Cg {key:Nat} {pend:List PL} {x:TV} (hp:plain x = true):∃ l,∀ σ,EN key pend σ x = some (l,σ):=by
 cases x with
 | f x=>exact ⟨_,fun _=>rfl⟩
 | iW=>exact ⟨_,fun _=>rfl⟩
 | gu=>exact ⟨_,fun _=>rfl⟩
 | fp cs=>exact ⟨_,fun _=>rfl⟩
 | fn f cs=>exact ⟨_,fun _=>rfl⟩
 | any=>exact ⟨_,fun _=>rfl⟩
 | _=>cases hp
theorem zG {base:Nat}:∀ {xs:List TV} {j:Nat} {pend:List PL},xs.all plain = true → ∃ l,∀ σ,zf base j pend σ xs = some (l,σ)
 | [],_,_,_=>⟨[],fun _=>rfl⟩
 | x :: xs,j,pend,hp=>by
  rw [List.all_cons,alN] at hp
  obtain ⟨l,h1⟩:=Cg (key:=base + 200 * (j + 1)) (pend:=pend) hp.1
  obtain ⟨m,h2⟩:=zG (base:=base) (j:=j + 1) (pend:=l :: pend) hp.2
  exact ⟨l :: m,fun σ=>by unfold zf;rw [h1];simp only [Option.bind_some];rw [h2];rfl⟩
theorem zH {base:Nat}:∀ {xs:List AV} {i:Nat} {pend:List PL},xs.all gK = true → ∃ l,∀ σ,zh base i pend σ xs = some (l,σ)
 | [],_,_,_=>⟨[],fun _=>rfl⟩
 | x :: xs,i,pend,hp=>by
  rw [List.all_cons,alN] at hp
  have key:∃ l,∀ σ,M4 (base + 2000 * i) pend σ x = some (l,σ):=by
   cases x with
   | one x=>obtain ⟨l,h⟩:=Cg (key:=base + 2000 * i + 200) (pend:=pend) hp.1;exact ⟨.one l,fun σ=>by simp only [M4];rw [h];rfl⟩
   | agg xs=>obtain ⟨l,h⟩:=zG (base:=base + 2000 * i) (j:=0) (pend:=pend) hp.1;exact ⟨.agg l,fun σ=>by simp only [M4];rw [h];rfl⟩
  obtain ⟨l,h1⟩:=key
  obtain ⟨m,h2⟩:=zH (base:=base) (i:=i + 1) (pend:=cells l ++ pend) hp.2
  exact ⟨l :: m,fun σ=>by unfold zh;rw [h1];simp only [Option.bind_some];rw [h2];rfl⟩
theorem zI {gv:Bool} (ho:∀ k o,get σ.ob k = some o → get σ2.ob k = some o) {f:FuncId} {args:List CV} (hE:l8 Γ gv true σ d f args = some (pv,σ')):σ' = σ ∧ l8 Γ gv true σ2 d f args = some (pv,σ2):=by
 unfold l8 at hE ⊢
 obtain ⟨p,h1,hE⟩:=zbm hE
 obtain ⟨r,h2,hE⟩:=zbm hE
 split at hE
 ·cases hE
 rename_i hq1
 split at hE
 ·cases hE
 rename_i hq2
 have hpl:p.1.all gK = true ∧ r.1.all gK = true:=by simpa using hq1
 obtain ⟨e1,e2⟩:=zF ho h1 hpl.1
 obtain ⟨l,hl⟩:=zH (base:=dY d) (i:=0) (pend:=[]) hpl.2
 have hfr:((r.1.any yC || !p.1.all gK) && args.any (fun x=>(cells x).any iD)) = false:=by
  cases hc:((r.1.any yC || !p.1.all gK) && args.any (fun x=>(cells x).any iD)) with
  | false=>rfl
  | true=>rw [hc] at hq2;exact absurd rfl hq2
 have h3:(r.1.any yC && args.any (fun x=>(cells x).any iD)) = false:=by simpa [hpl.1] using hfr
 simp only [hpl.1,hpl.2,am9,Bool.or_false,h3,al4,alV,ama,Option.bind_some,hl,Option.map_some,Bool.and_false,Bool.and_self,alI,alK] at hE
 simp only [e2,Option.bind_some,h2,hpl.1,hpl.2,am9,Bool.or_false,h3,al4,alV,ama,hl,Option.map_some,Bool.and_false,Bool.and_self]
 exact ⟨by rw [← hE.2];exact e1,by rw [hE.1]⟩
end
end
section
open Go
section
variable {Γ : Env} {d:Nat} {σ σ2 σ':St} {pv:PV}
theorem Im {l:List CV}:∀ {caps:List (List FV)} {τ:St},nE true σ l = some (caps,τ) → τ = σ ∧ nE true σ2 l = some (caps,σ2):=by
 induction l with
 | nil=>intro caps τ h;simp only [nE] at h;cases h;exact ⟨rfl,by simp only [nE]⟩
 | cons y l ih =>
  intro caps τ h
  have one:∀ cs,y = .one (.fp cs) → τ = σ ∧ nE true σ2 (y :: l) = some (caps,σ2):=by
   intro cs hy
   subst hy
   simp only [nE] at h ⊢
   obtain ⟨r,g1,g2⟩:=zmm h
   cases g2
   obtain ⟨e1,e2⟩:=ih g1
   exact ⟨e1,by rw [e2];rfl⟩
  cases y with
  | one x =>
   cases x with
   | fp cs=>exact one cs rfl
   | ptr k o=>cases o <;> simp [nE] at h
   | _=>simp [nE] at h
  | agg xs=>simp [nE] at h
theorem RO {i:I} (hi:RN i = true) (hs:Same (oK i) σ σ2) (ho:∀ k o,get σ.ob k = some o → get σ2.ob k = some o) (hE:dL Γ true σ d i = some (pv,σ')):σ' = σ ∧ dL Γ true σ2 d i = some (pv,σ2):=by
 cases i with
 | alloc e z=>cases hi
 | box e x=>cases hi
 | tL e sz len z ps=>cases hi
 | Bd f xs=>cases hi
 | store n x v=>cases hi
 | qR sh=>cases hi
 | y8 sh x k v=>cases hi
 | del sh x k=>cases hi
 | app e sz b x y=>cases hi
 | mv x =>
  simp only [oK] at hs
  simp only [dL] at hE ⊢
  rw [hs.uQ]
  obtain ⟨v,h1,h2⟩:=zmm hE
  cases h2
  rw [h1];simp only [Option.map_some];exact ⟨trivial,trivial⟩
 | pick c x y =>
  simp only [oK] at hs
  simp only [dL] at hE ⊢
  obtain ⟨v,h1,h2⟩:=zbm hE
  obtain ⟨t,h3,h4⟩:=zbm h2
  obtain ⟨u,h5,h6⟩:=zmm h4
  cases h6
  rw [hs.l.l.val,h1]
  simp only [Option.bind_some,h3]
  have:Ev.val σ2 (if t then x else y) = Ev.val σ (if t then x else y):=by
   cases t
   ·exact hs.r.val
   ·exact hs.l.r.val
  rw [this,h5];exact ⟨trivial,rfl⟩
 | build z ps =>
  simp only [oK] at hs
  simp only [dL] at hE ⊢
  obtain ⟨v,h1,h2⟩:=zbm hE
  obtain ⟨u,h3,h4⟩:=zmm h2
  cases h4
  rw [hs.vals,h1]
  simp only [Option.bind_some,h3,Option.map_some]
  exact ⟨trivial,trivial⟩
 | load n g x =>
  simp only [oK] at hs
  simp only [dL] at hE ⊢
  obtain ⟨v,h1,h2⟩:=zbm hE
  rw [hs.val,h1]
  simp only [Option.bind_some]
  split at h2
  ·split at h2
   ·rename_i gY
    obtain ⟨l,h3,h4⟩:=zbm h2
    obtain ⟨u,h5,h6⟩:=zmm h4
    cases h6
    simp only [ho _ _ gY,h3,Option.bind_some,h5,Option.map_some]
    exact ⟨trivial,trivial⟩
   ·cases h2
  ·obtain ⟨l,h3,h4⟩:=zbm h2
   obtain ⟨u,h5,h6⟩:=zmm h4
   cases h6
   simp only [h3,Option.bind_some,h5,Option.map_some]
   exact ⟨trivial,trivial⟩
  ·split at h2
   ·rename_i gY
    split at h2
    ·cases h2
    ·rename_i hz
     obtain ⟨r,h7,h8⟩:=zbm h2
     obtain ⟨l,h3,h4⟩:=zbm h8
     obtain ⟨u,h5,h6⟩:=zmm h4
     cases h6
     simp only [ho _ _ gY,aly hz,h7,h3,Option.bind_some,h5,Option.map_some]
     exact ⟨trivial,trivial⟩
   ·cases h2
  ·cases h2
 | nC x =>
  simp only [oK] at hs
  simp only [dL] at hE ⊢
  obtain ⟨v,h1,h2⟩:=zbm hE
  rw [hs.val,h1]
  simp only [Option.bind_some]
  split at h2 <;> cases h2 <;> exact ⟨rfl,rfl⟩
 | y7 neg x =>
  simp only [oK] at hs
  simp only [dL] at hE ⊢
  obtain ⟨v,h1,h2⟩:=zbm hE
  rw [hs.val,h1]
  simp only [Option.bind_some]
  split at h2 <;> cases h2 <;> exact ⟨rfl,rfl⟩
 | ar o x y =>
  simp only [oK] at hs
  simp only [dL] at hE ⊢
  obtain ⟨u,h1,hE⟩:=zbm hE
  obtain ⟨v,h2,hE⟩:=zbm hE
  obtain ⟨m,h3,hE⟩:=zbm hE
  obtain ⟨n,h4,hE⟩:=zbm hE
  split at hE
  ·rename_i hk
   obtain ⟨r,h5,hE⟩:=zbm hE
   cases hE
   rw [hs.l.val,hs.r.val]
   simp only [h1,h2,h3,h4,h5,Option.bind_some,alx hk,one]
   exact ⟨trivial,trivial⟩
  ·cases hE
 | cmp o x y =>
  simp only [oK] at hs
  simp only [dL] at hE ⊢
  obtain ⟨u,h1,hE⟩:=zbm hE
  obtain ⟨v,h2,hE⟩:=zbm hE
  obtain ⟨m,h3,hE⟩:=zbm hE
  obtain ⟨n,h4,hE⟩:=zbm hE
  split at hE
  ·rename_i hk
   cases hE
   rw [hs.l.val,hs.r.val]
   simp only [h1,h2,h3,h4,Option.bind_some,alx hk,one]
   exact ⟨trivial,trivial⟩
  ·cases hE
 | uK sh neg x y =>
  simp only [oK] at hs
  simp only [dL] at hE ⊢
  obtain ⟨u,h1,hE⟩:=zbm hE
  obtain ⟨v,h2,hE⟩:=zbm hE
  obtain ⟨m,h3,hE⟩:=zbm hE
  obtain ⟨n,h4,hE⟩:=zbm hE
  split at hE
  ·rename_i hk
   cases hE
   rw [hs.l.val,hs.r.val]
   simp only [h1,h2,h3,h4,Option.bind_some,alx hk,one]
   exact ⟨trivial,trivial⟩
  ·cases hE
 | cat x y =>
  simp only [oK] at hs
  simp only [dL] at hE ⊢
  obtain ⟨u,h1,hE⟩:=zbm hE
  obtain ⟨v,h2,hE⟩:=zbm hE
  rw [hs.l.val,hs.r.val]
  simp only [h1,h2,Option.bind_some]
  split at hE
  ·split at hE
   ·rename_i hk;cases hE;simp only [alx hk,one];exact ⟨trivial,trivial⟩
   ·cases hE
  ·cases hE
 | no x =>
  simp only [oK] at hs
  simp only [dL] at hE ⊢
  obtain ⟨u,h1,hE⟩:=zbm hE
  obtain ⟨v,h2,hE⟩:=zbm hE
  cases hE
  rw [hs.val]
  simp only [h1,h2,Option.bind_some,one]
  exact ⟨trivial,trivial⟩
 | ci k x =>
  simp only [oK] at hs
  simp only [dL] at hE ⊢
  obtain ⟨u,h1,hE⟩:=zbm hE
  obtain ⟨v,h2,hE⟩:=zbm hE
  cases hE
  rw [hs.val]
  simp only [h1,h2,Option.bind_some,one]
  exact ⟨trivial,trivial⟩
 | oG x =>
  simp only [oK] at hs
  simp only [dL] at hE ⊢
  obtain ⟨u,h1,hE⟩:=zbm hE
  rw [hs.val,h1]
  simp only [Option.bind_some]
  split at hE
  ·cases hE;exact ⟨rfl,rfl⟩
  ·cases hE
 | Lh x lo hi =>
  simp only [oK] at hs
  simp only [dL] at hE ⊢
  obtain ⟨u,h1,hE⟩:=zbm hE
  rw [hs.l.l.val,h1]
  simp only [Option.bind_some]
  split at hE
  ·obtain ⟨p,h2,hE⟩:=zbm hE
   cases hE
   rw [Same.rng hs.l.r hs.r,h2]
   exact ⟨rfl,rfl⟩
  ·cases hE
 | cut sz x lo hi =>
  simp only [oK] at hs
  simp only [dL] at hE ⊢
  obtain ⟨u,h1,hE⟩:=zbm hE
  rw [hs.l.l.val,h1]
  simp only [Option.bind_some]
  split at hE
  ·split at hE
   ·cases hE
   ·rename_i hz
    obtain ⟨p,h2,hE⟩:=zbm hE
    cases hE
    rw [aly hz,Same.rng hs.l.r hs.r,h2]
    exact ⟨rfl,rfl⟩
  ·obtain ⟨p,h2,hE⟩:=zbm hE
   cases hE
   rw [Same.rng hs.l.r hs.r,h2]
   exact ⟨rfl,rfl⟩
  ·split at hE
   ·split at hE
    ·cases hE
    ·obtain ⟨p,h2,hE⟩:=zbm hE
     rw [alx trivial] at hE
     cases hE
   ·cases hE
  ·cases hE
 | fa off x =>
  simp only [oK] at hs
  simp only [dL] at hE ⊢
  obtain ⟨v,h1,h2⟩:=zbm hE
  rw [hs.val,h1]
  simp only [Option.bind_some]
  split at h2 <;> cases h2 <;> exact ⟨rfl,rfl⟩
 | WU off n g x =>
  simp only [oK] at hs
  simp only [dL] at hE ⊢
  obtain ⟨v,h1,h2⟩:=zbm hE
  rw [hs.val,h1]
  simp only [Option.bind_some]
  split at h2
  ·obtain ⟨l,h3,h4⟩:=zbm h2
   obtain ⟨u,h5,h6⟩:=zmm h4
   cases h6
   simp only [h3,Option.bind_some,h5,Option.map_some]
   exact ⟨trivial,trivial⟩
  ·cases h2
 | ia sz x i =>
  simp only [oK] at hs
  simp only [dL] at hE ⊢
  obtain ⟨v,h1,hE⟩:=zbm hE
  obtain ⟨j,h2,hE⟩:=zbm hE
  obtain ⟨p,h3,hE⟩:=zbm hE
  rw [hs.l.val,hs.r.val]
  simp only [h1,h2,h3,Option.bind_some]
  split at hE
  ·rename_i h0
   rw [alx h0]
   split at hE
   ·obtain ⟨r,h4,hE⟩:=zbm hE
    split at hE
    ·rename_i hk;cases hE;simp only [h4,Option.bind_some,alx hk];exact ⟨trivial,trivial⟩
    ·cases hE
   ·split at hE
    ·rename_i gY
     split at hE
     ·rename_i hk;cases hE;simp only [ho _ _ gY,alx hk];exact ⟨trivial,trivial⟩
     ·cases hE
    ·cases hE
   ·cases hE
  ·cases hE
 | idx sz len g x i =>
  simp only [oK] at hs
  simp only [dL] at hE ⊢
  obtain ⟨v,h1,hE⟩:=zbm hE
  obtain ⟨j,h2,hE⟩:=zbm hE
  obtain ⟨p,h3,hE⟩:=zbm hE
  rw [hs.l.val,hs.r.val]
  simp only [h1,h2,h3,Option.bind_some]
  split at hE
  ·rename_i h0
   rw [alx h0]
   split at hE
   ·obtain ⟨l,h4,hE⟩:=zbm hE
    obtain ⟨u,h5,h6⟩:=zmm hE
    cases h6
    simp only [h4,Option.bind_some,h5,Option.map_some]
    exact ⟨trivial,trivial⟩
   ·cases hE
  ·cases hE
 | chr x i =>
  simp only [oK] at hs
  simp only [dL] at hE ⊢
  obtain ⟨v,h1,hE⟩:=zbm hE
  obtain ⟨j,h2,hE⟩:=zbm hE
  obtain ⟨p,h3,hE⟩:=zbm hE
  rw [hs.l.val,hs.r.val]
  simp only [h1,h2,h3,Option.bind_some]
  split at hE
  ·split at hE
   ·rename_i h0
    obtain ⟨b,h4,hE⟩:=zbm hE
    cases hE
    simp only [alx h0,h4,Option.bind_some,one]
    exact ⟨trivial,trivial⟩
   ·cases hE
  ·cases hE
 | look sh z ok x k =>
  simp only [oK] at hs
  simp only [dL] at hE ⊢
  obtain ⟨v,h1,hE⟩:=zbm hE
  obtain ⟨u,h2,hE⟩:=zbm hE
  obtain ⟨b,h3,hE⟩:=zbm hE
  rw [hs.l.val,hs.r.val]
  simp only [h1,h2,h3,Option.bind_some]
  split at hE
  ·cases hE
  ·rename_i hsh
   rw [aly hsh]
   obtain ⟨r,h4,h5⟩:=zmm hE
   cases h5
   split at h4
   ·cases h4;exact ⟨rfl,rfl⟩
   ·split at h4
    ·rename_i gY
     split at h4
     ·rename_i hk;cases h4;simp only [ho _ _ gY,alx hk,Option.map_some];exact ⟨trivial,trivial⟩
     ·cases h4
    ·cases h4
   ·cases h4
 | ext x i =>
  simp only [oK] at hs
  simp only [dL] at hE ⊢
  rw [hs.uQ]
  split at hE
  ·rename_i l hl
   obtain ⟨v,h1,h2⟩:=zmm hE
   cases h2
   simp only [h1,Option.map_some]
   exact ⟨trivial,trivial⟩
  ·cases hE
 | yw x =>
  simp only [oK] at hs
  simp only [dL] at hE ⊢
  obtain ⟨v,h1,h2⟩:=zbm hE
  rw [hs.val,h1]
  simp only [Option.bind_some]
  split at h2 <;> cases h2 <;> exact ⟨rfl,rfl⟩
 | gW x =>
  simp only [oK] at hs
  simp only [dL] at hE ⊢
  obtain ⟨v,h1,h2⟩:=zbm hE
  rw [hs.val,h1]
  simp only [Option.bind_some]
  split at h2 <;> cases h2 <;> exact ⟨rfl,rfl⟩
 | Li x =>
  simp only [oK] at hs
  simp only [dL] at hE ⊢
  obtain ⟨v,h1,h2⟩:=zbm hE
  rw [hs.val,h1]
  simp only [Option.bind_some]
  split at h2
  ·cases h2;exact ⟨rfl,rfl⟩
  ·split at h2
   ·rename_i gY;cases h2;simp only [ho _ _ gY,one];exact ⟨trivial,trivial⟩
   ·cases h2
  ·cases h2
 | mn x y =>
  simp only [oK] at hs
  simp only [dL] at hE ⊢
  obtain ⟨u,h1,hE⟩:=zbm hE
  obtain ⟨v,h2,hE⟩:=zbm hE
  obtain ⟨m,h3,hE⟩:=zbm hE
  obtain ⟨n,h4,hE⟩:=zbm hE
  rw [hs.l.val,hs.r.val]
  simp only [h1,h2,h3,h4,Option.bind_some]
  split at hE
  ·rename_i hk;cases hE;rw [alx hk];exact ⟨rfl,rfl⟩
  ·cases hE
 | mx x y =>
  simp only [oK] at hs
  simp only [dL] at hE ⊢
  obtain ⟨u,h1,hE⟩:=zbm hE
  obtain ⟨v,h2,hE⟩:=zbm hE
  obtain ⟨m,h3,hE⟩:=zbm hE
  obtain ⟨n,h4,hE⟩:=zbm hE
  rw [hs.l.val,hs.r.val]
  simp only [h1,h2,h3,h4,Option.bind_some]
  split at hE
  ·rename_i hk;cases hE;rw [alx hk];exact ⟨rfl,rfl⟩
  ·cases hE
 | Vm sz z x=>cases hi
 | call gv f xs =>
  simp only [oK] at hs
  simp only [dL] at hE ⊢
  obtain ⟨l,h1,hE⟩:=zbm hE
  rw [hs.jR,h1]
  simp only [Option.bind_some]
  exact zI ho hE
 | dyn x xs =>
  simp only [oK] at hs
  simp only [dL] at hE ⊢
  obtain ⟨v,h0,hE⟩:=zbm hE
  rw [hs.l.val,h0]
  simp only [Option.bind_some]
  split at hE
  ·obtain ⟨l,h1,hE⟩:=zbm hE
   simp only [hs.r.jR,h1,Option.bind_some]
   exact zI ho hE
  ·cases hE
 | WW f xs =>
  simp only [oK] at hs
  simp only [dL] at hE ⊢
  obtain ⟨l,h1,hE⟩:=zbm hE
  rw [hs.jR,h1]
  simp only [Option.bind_some]
  obtain ⟨p,h2,h3⟩:=zmm hE
  cases h3
  obtain ⟨e1,e2⟩:=Im (σ2:=σ2) h2
  rw [e2]
  exact ⟨e1,rfl⟩
 | Dh neg x =>
  simp only [oK] at hs
  simp only [dL] at hE ⊢
  obtain ⟨v,h1,h2⟩:=zbm hE
  rw [hs.val,h1]
  simp only [Option.bind_some]
  split at h2 <;> cases h2 <;> exact ⟨rfl,rfl⟩
 | bit o x y =>
  simp only [oK] at hs
  simp only [dL] at hE ⊢
  obtain ⟨u,h1,hE⟩:=zbm hE
  obtain ⟨v,h2,hE⟩:=zbm hE
  obtain ⟨m,h3,hE⟩:=zbm hE
  obtain ⟨n,h4,hE⟩:=zbm hE
  rw [hs.l.val,hs.r.val]
  simp only [h1,h2,h3,h4,Option.bind_some]
  split at hE
  ·rename_i hk;cases hE;rw [alx hk];exact ⟨rfl,rfl⟩
  ·cases hE
 | WV o x y =>
  simp only [oK] at hs
  simp only [dL] at hE ⊢
  obtain ⟨u,h1,hE⟩:=zbm hE
  obtain ⟨v,h2,hE⟩:=zbm hE
  obtain ⟨m,h3,hE⟩:=zbm hE
  obtain ⟨n,h4,hE⟩:=zbm hE
  rw [hs.l.val,hs.r.val]
  simp only [h1,h2,h3,h4,Option.bind_some]
  split at hE
  ·rename_i hk;cases hE;rw [alx hk];exact ⟨rfl,rfl⟩
  ·cases hE
 | H8 sz x y=>simp [dL] at hE
 | cutV sz x y =>
  simp only [oK] at hs
  simp only [dL] at hE ⊢
  obtain ⟨v,h1,hE⟩:=zbm hE
  obtain ⟨j,h2,hE⟩:=zbm hE
  obtain ⟨p,h3,hE⟩:=zbm hE
  rw [hs.l.val,hs.r.val]
  simp only [h1,h2,h3,Option.bind_some]
  split at hE
  ·split at hE
   ·rename_i gY
    split at hE
    ·rename_i hk;cases hE;simp only [ho _ _ gY,alx hk];exact ⟨trivial,trivial⟩
    ·cases hE
   ·cases hE
  ·cases hE
 | ZE x =>
  simp only [oK] at hs
  simp only [dL] at hE ⊢
  obtain ⟨v,h1,h2⟩:=zbm hE
  rw [hs.val,h1]
  simp only [Option.bind_some]
  split at h2
  ·obtain ⟨s,h3,h4⟩:=zbm h2
   cases h4
   simp only [h3,Option.bind_some,one]
   exact ⟨trivial,trivial⟩
  ·cases h2;exact ⟨rfl,rfl⟩
  ·split at h2
   ·rename_i gY
    split at h2
    ·rename_i hz
     obtain ⟨s,h3,h4⟩:=zbm h2
     cases h4
     simp only [ho _ _ gY,alx hz,h3,Option.bind_some,one]
     exact ⟨trivial,trivial⟩
    ·cases h2
   ·cases h2
  ·cases h2
end
end
section
open Go
section
variable {Γ : Env} {d:Nat} {σ σ2 σ':St} {pv:PV}
theorem Xw {α:Type} {l:List (Nat × α)} {k:Nat} (h:∀ p ∈ l,p.1 ≠ k):rem l k = l:=by
 induction l with
 | nil=>rfl
 | cons p l ih =>
  obtain ⟨j,u⟩:=p
  unfold rem
  rw [aly (h _ amX),ih (fun p hp=>h p (amu _ hp))]
theorem ko {key:Nat}:fresh σ key = true ↔ (∀ p ∈ σ.ob,p.1 ≠ key ∧ nP key p.2 = false) ∧ ∀ p ∈ σ.tm,tN key p.2 = false:=by
 simp [fresh]
theorem jQ {key:Nat} (h:fresh σ key = true) (o:Ob):new σ key o = some ⟨σ.tm,(key,o) :: σ.ob⟩:=by
 obtain ⟨h1,h2⟩:=ko.mp h
 have hr:=Xw (fun p hp=>(h1 p hp).1)
 unfold new ZF
 rw [hr,aly]
 ·simp only [Option.map_some]
  rw [anA.mpr (fun p hp=>by rw [h2 p hp];rfl)]
 ·intro hc
  obtain ⟨p,hp,hm⟩:=amF.mp hc
  rw [(h1 p hp).2] at hm;cases hm
theorem LA {x:PL} {y:FV} (hn:iD x = false) (h:y9 σ x = some (y,σ')):σ' = σ ∧ y9 σ2 x = some (y,σ2):=by
 cases x with
 | f x=>cases h;exact ⟨rfl,rfl⟩
 | dz=>cases h;exact ⟨rfl,rfl⟩
 | own k n=>cases hn
 | _=>cases h
theorem zJ : ∀ {xs:List PL} {ys:List FV} {σ':St},xs.any iD = false → l7 σ xs = some (ys,σ') → σ' = σ ∧ l7 σ2 xs = some (ys,σ2)
 | [],ys,σ',_,h=>by cases h;exact ⟨rfl,rfl⟩
 | x :: xs,ys,σ',hn,h=>by
  obtain ⟨p,h1,h2⟩:=zbm h
  obtain ⟨r,h3,h4⟩:=zmm h2
  cases h4
  simp only [List.any_cons,anw] at hn
  obtain ⟨e1,e2⟩:=LA (σ2:=σ2) hn.1 h1
  rw [e1] at h3
  obtain ⟨e3,e4⟩:=zJ hn.2 h3
  exact ⟨e3,by unfold l7;rw [e2];simp only [Option.bind_some];rw [e4];rfl⟩
theorem aa2 {i:I} (hi:kK i = true) (hs:Same (oK i) σ σ2) (hf:fresh σ (dY d) = true) (hf2:fresh σ2 (dY d) = true) (hE:dL Γ true σ d i = some (pv,σ')) :
  ∃ o,σ' = ⟨σ.tm,(dY d,o) :: σ.ob⟩ ∧ dL Γ true σ2 d i = some (pv,⟨σ2.tm,(dY d,o) :: σ2.ob⟩):=by
 cases i <;> first | cases hi | skip
 ·rename_i e z
  simp only [dL] at hE ⊢
  split at hE
  ·cases hE
  ·rename_i hm
   simp only [iX,jQ hf,Option.map_some] at hE
   cases hE
   refine ⟨_,rfl,?_⟩
   rw [aly hm]
   simp only [iX,jQ hf2,Option.map_some]
 ·rename_i e x
  simp only [oK] at hs
  simp only [dL] at hE ⊢
  obtain ⟨v,h1,h2⟩:=zbm hE
  split at h2
  ·cases h2
  ·rename_i hm
   simp only [iX,jQ hf,Option.map_some] at h2
   cases h2
   refine ⟨_,rfl,?_⟩
   rw [hs.val,h1]
   simp only [Option.bind_some]
   rw [aly hm]
   simp only [iX,jQ hf2,Option.map_some]
 ·rename_i e sz len z ps
  simp only [oK] at hs
  simp only [dL] at hE ⊢
  obtain ⟨v,h1,hE⟩:=zbm hE
  obtain ⟨u,h2,hE⟩:=zbm hE
  split at hE
  ·cases hE
  ·rename_i hm
   obtain ⟨p,h3,hE⟩:=zbm hE
   have hn:u.any iD = false:=by simpa using hm
   obtain ⟨e1,e2⟩:=zJ (σ2:=σ2) hn h3
   rw [e1] at hE
   simp only [iX,jQ hf,Option.map_some] at hE
   cases hE
   refine ⟨_,rfl,?_⟩
   rw [hs.vals,h1]
   simp only [Option.bind_some,h2]
   rw [aly hm,e2]
   simp only [Option.bind_some,iX,jQ hf2,Option.map_some]
 ·rename_i sh
  simp only [dL] at hE ⊢
  simp only [iX,jQ hf,Option.map_some] at hE
  cases hE
  exact ⟨_,rfl,by simp only [iX,jQ hf2,Option.map_some]⟩
 ·rename_i f xs
  simp only [oK] at hs
  simp only [dL,uP] at hE ⊢
  obtain ⟨l,h1,hE⟩:=zbm hE
  obtain ⟨gN,h2,hE⟩:=zbm hE
  obtain ⟨r,h3,hE⟩:=zbm hE
  obtain ⟨p,h4,hE⟩:=zbm hE
  simp only [jQ hf,Option.map_some] at hE
  cases hE
  refine ⟨_,rfl,?_⟩
  rw [hs.jR,h1]
  simp only [Option.bind_some,h2,h3,h4,jQ hf2,Option.map_some]
end
end
end Go.Proofs.YtfokaoeinpnagaaGreat.Ev

/- A part of the proof of ChainFollows: cut, joined and given short names by a program of this session (wip/tools/pack.py); Lean checks it. No condition. -/
import Derived.Test.YtfokaoeinpnagaaGreatPCFwse
import Derived.Orders
import Derived.OrdersHeld
import Derived.Scope
import Derived.Below
import Derived.Defers
import Derived.Maps.RangeRun
import Derived.Test.YtfokaoeinpnagaaGreatPCFwsd
import Derived.Laws.StructEq
set_option linter.unusedSectionVars false
set_option linter.unusedSimpArgs false
set_option linter.unusedVariables false
set_option maxHeartbeats 16000000
set_option maxRecDepth 100000
namespace Go.Proofs.YtfokaoeinpnagaaGreat.Ev
section
open Go
def rd (g:G):List Nat:=oK g.i ++ match g.gd with
 | some (some s,_)=>[s]
 | _=>[]
section
variable {Γ : Env} {d:Nat} {σ σ2 σ':St} {pv:PV}
theorem NW {g:G} (hs:Same (rd g) σ σ2):Bh σ2 g.gd = Bh σ g.gd:=by
 unfold rd at hs
 have hr:=hs.r
 cases hg:g.gd with
 | none=>rfl
 | some p =>
  obtain ⟨s,want⟩:=p
  cases s with
  | none=>rfl
  | some s =>
   rw [hg] at hr
   simp only [Bh]
   rw [hr s (by simp)]
theorem vv {g:G} (hi:RN g.i = true) (hs:Same (rd g) σ σ2) (ho:∀ k o,get σ.ob k = some o → get σ2.ob k = some o) (hE:nQ Γ true σ g = some (pv,σ')):σ' = σ ∧ nQ Γ true σ2 g = some (pv,σ2):=by
 unfold nQ at hE ⊢
 obtain ⟨t,h1,h2⟩:=zbm hE
 rw [NW hs,h1]
 simp only [Option.bind_some]
 cases t with
 | true =>
  rw [alx rfl] at h2 ⊢
  exact RO hi (by unfold rd at hs;exact hs.l) ho h2
 | false =>
  rw [aly (by decide)] at h2 ⊢
  cases h2
  exact ⟨rfl,rfl⟩
theorem NY {g:G} (hi:kK g.i = true) (hg:g.gd = none) (hs:Same (rd g) σ σ2) (hf:fresh σ (dY (g.dst.getD 999)) = true) (hf2:fresh σ2 (dY (g.dst.getD 999)) = true) (hE:nQ Γ true σ g = some (pv,σ')) :
  ∃ o,σ' = ⟨σ.tm,(dY (g.dst.getD 999),o) :: σ.ob⟩ ∧ nQ Γ true σ2 g = some (pv,⟨σ2.tm,(dY (g.dst.getD 999),o) :: σ2.ob⟩):=by
 unfold nQ at hE ⊢
 rw [hg] at hE ⊢
 simp only [Bh,Option.bind_some,ama] at hE ⊢
 exact aa2 hi (by unfold rd at hs;exact hs.l) hf hf2 hE
theorem get_put {α:Type} {l:List (Nat × α)} {i j:Nat} {v:α}:get (put l i v) j = if j = i then some v else get l j:=by
 have ahi:∀ {l:List (Nat × α)} {i j:Nat},j ≠ i → get (rem l i) j = get l j:=by
  intro l i j hj
  induction l with
  | nil=>rfl
  | cons p l ih =>
   obtain ⟨k,u⟩:=p
   unfold rem
   by_cases hk:k = i
   ·rw [alx hk,ih]
    conv=>rhs;unfold get
    rw [aly (fun e=>hj (by omega))]
   ·rw [aly hk]
    unfold get
    rw [ih]
 induction l with
 | nil =>
  unfold put get
  by_cases h:j = i
  ·rw [alx h,alx h.symm]
  ·rw [aly h,aly (fun e=>h e.symm)];rfl
 | cons p l ih =>
  obtain ⟨k,u⟩:=p
  unfold put
  by_cases hk:k = i
  ·rw [alx hk]
   unfold get
   by_cases h:j = i
   ·rw [alx h,alx h.symm]
   ·rw [aly h,aly (fun e=>h e.symm),ahi h,aly (fun e=>h (by omega))]
  ·rw [aly hk]
   unfold get
   by_cases hkj:k = j
   ·rw [alx hkj,aly (by omega),alx hkj]
   ·rw [aly hkj,ih,aly hkj]
theorem Fj {b:Bool} (h:¬ b = true):b = false:=amg.mpr h
def jS (Γ:Env) (tO:List (Nat × Ob)) (pre:List (G × List Nat)) (Bq:List (Nat × PV)):Nat → List (Nat × PV)
 | 0=>Bq
 | i + 1=>match pre[i]? with
  | some g=>match nQ Γ true ⟨jS Γ tO pre Bq i,tO⟩ g.1 with
   | some p=>uR g.1.dst (jS Γ tO pre Bq i) p.1
   | none=>jS Γ tO pre Bq i
  | none=>jS Γ tO pre Bq i
structure Can (Γ:Env) (tO:List (Nat × Ob)) (pre:List (G × List Nat)) (Bq:List (Nat × PV)) (i:Nat) (pv:PV) (s:St):Prop where
 lt:i < pre.length
 ev:nQ Γ true ⟨jS Γ tO pre Bq i,tO⟩ (pre[i]'lt).1 = some (pv,s)
 nx:jS Γ tO pre Bq (i + 1) = uR (pre[i]'lt).1.dst (jS Γ tO pre Bq i) pv
 nk:∀ k ∈ (pre[i]'lt).2,tN k pv = false ∧ (kK (pre[i]'lt).1.i = true → ∀ r ∈ s.ob.take 1,r.1 ≠ k ∧ nP k r.2 = false)
theorem Fp {tO:List (Nat × Ob)} {pre:List (G × List Nat)} {Bq:List (Nat × PV)}:∀ (n i:Nat) (obx:List (Nat × Ob)) (s:St),n + i = pre.length → Rv Γ tO (pre.drop i) ⟨jS Γ tO pre Bq i,obx⟩ = some s →
  (∀ j,i ≤ j → j < pre.length → ∃ pv st,Can Γ tO pre Bq j pv st) ∧ s.tm = jS Γ tO pre Bq pre.length ∧
  ∃ news,s.ob = news ++ obx ∧ ∀ p ∈ news,∃ j pv st,i ≤ j ∧ j < pre.length ∧ ∃ (h:Can Γ tO pre Bq j pv st),kK (pre[j]'h.lt).1.i = true ∧ p ∈ st.ob.take 1
 | 0,i,obx,s,hn,hE=>by
  rw [List.drop_eq_nil_of_le (by omega)] at hE
  cases hE
  refine ⟨fun j h1 h2=>by omega,by rw [show pre.length = i from by omega],[],rfl,fun p hp=>by simp at hp⟩
 | n + 1,i,obx,s,hn,hE=>by
  have hi:i < pre.length:=by omega
  rw [ani hi] at hE
  obtain ⟨g,nk,hp⟩:∃ g nk,pre[i] = (g,nk):=⟨_,_,rfl⟩
  rw [hp] at hE
  simp only [Rv] at hE
  obtain ⟨p,h1,h2⟩:=zbm hE
  split at h2
  ·cases h2
  ·rename_i hnk
   have hnx:jS Γ tO pre Bq (i + 1) = uR g.dst (jS Γ tO pre Bq i) p.1:=by
    conv=>lhs;unfold jS
    rw [alT hi,hp]
    simp only [h1]
   have hcan:Can Γ tO pre Bq i p.1 p.2:=⟨hi,by rw [hp];exact h1,by rw [hp];exact hnx,fun k hk=>by
    rw [hp] at hk ⊢
    have hk':¬ (tN k p.1 || (kK g.i && (p.2.ob.take 1).any (fun r=>r.1 == k || nP k r.2))) = true:=fun hc=>hnk (amF.mpr ⟨k,hk,hc⟩)
    rw [amv,not_or] at hk'
    refine ⟨Fj hk'.1,fun hN r hr=>?_⟩
    have:=hk'.2
    rw [hN,am1] at this
    have hr':¬ (r.1 == k || nP k r.2) = true:=fun hc=>this (amF.mpr ⟨r,hr,hc⟩)
    rw [amv,not_or] at hr'
    exact ⟨by simpa using hr'.1,Fj hr'.2⟩⟩
   rw [← hnx] at h2
   obtain ⟨e1,e2,news,e3,e4⟩:=Fp n (i + 1) _ s (by omega) h2
   refine ⟨fun j h3 h4=>?_,e2,news ++ (if kK g.i then p.2.ob.take 1 else []),?_,fun r hr=>?_⟩
   ·by_cases hj:j = i
    ·subst hj;exact ⟨_,_,hcan⟩
    ·exact e1 j (by omega) h4
   ·rw [e3]
    cases kK g.i <;> simp
   ·rcases amj.mp hr with h | h
    ·obtain ⟨j,pv,st,h3,h4,h5⟩:=e4 r h
     exact ⟨j,pv,st,by omega,h4,h5⟩
    ·split at h
     ·rename_i hN
      exact ⟨i,p.1,p.2,alC _,hi,hcan,by rw [hp];exact hN,h⟩
     ·simp at h
end
end
section
open Go
def jq (o:Oper):List Nat:=(o.after.toList.filter (fun e=>Region.binds .any e)).map (·.on)
inductive LB (ops:Array Oper):Nat → Nat → Prop
 | dir {i e:Nat} (h:i < ops.size) (he:e ∈ jq ops[i]):LB ops e i
 | step {i e j:Nat} (h:i < ops.size) (he:e ∈ jq ops[i]) (hj:LB ops j e):LB ops j i
def isLt (g:G):Bool:=g.dst.isNone && g.gd.isNone && (match g.i with
 | .store _ _ _=>true
 | _=>false)
structure NZ (ops:Array Oper) (pre:List (G × List Nat)) (nD:List Nat) (kJ rest:List G):Prop where
 len:ops.size = pre.length + (kJ.length + rest.length)
 lt:∀ i (h:i < ops.size),∀ e ∈ jq ops[i],e < i
 data:∀ i (h:i < pre.length) (h':i < ops.size),∀ s ∈ rd pre[i].1,∀ j (hj:j < pre.length),pre[j].1.dst = some s → j ∈ jq ops[i]
 dst:∀ i j (h:i < pre.length) (hj:j < pre.length),i ≠ j → ∀ s,pre[i].1.dst = some s → pre[j].1.dst ≠ some s
 cls:∀ i (h:i < pre.length),RN pre[i].1.i = true ∨ (kK pre[i].1.i = true ∧ pre[i].1.gd = none)
 nk:∀ i j (h:i < pre.length) (hj:j < pre.length),i ≠ j → kK pre[i].1.i = true → dY (pre[i].1.dst.getD 999) ∈ pre[j].2 ∨ LB ops i j
 tl:∀ k,pre.length ≤ k → k < ops.size → ∀ j,j < k → LB ops j k ∨ (j < pre.length ∧ j ∈ nD ∧ k < pre.length + kJ.length)
 fl:∀ j ∈ nD,∀ (h:j < pre.length),RN pre[j].1.i = true
 lt':∀ g ∈ kJ,isLt g = true
 ld:∀ m (h:m < kJ.length) (h':pre.length + m < ops.size),∀ s ∈ rd kJ[m],∀ j (hj:j < pre.length),pre[j].1.dst = some s → j ∈ jq ops[pre.length + m]
def Dn (l:Array Bool) (i:Nat):Prop:=l.getD i false = true
section
variable {P : Program} {Γ:Env} {bK:Nat → Prop} {w0 w w':World} {bJ:List Nat} {N:Fr} {jo:Nat → Value} {σ σ':St} {a:Act} {X:Hx} {ops:Array Oper} {pre:List (G × List Nat)} {nD:List Nat} {kJ rest:List G} {l:Array Bool} {Q:Exit → Act → World → Prop}
def Down (ops:Array Oper) (l:Array Bool):Prop:=∀ i (h:i < ops.size),Dn l i → ∀ e ∈ jq ops[i],Dn l e
theorem Down.bef (hd:Down ops l) (hD:NZ ops pre nD kJ rest) {i j:Nat} (hb:LB ops j i):(∀ (h:i < ops.size),∀ e ∈ jq ops[i],Dn l e) → Dn l j:=by
 induction hb with
 | dir h he=>intro hr;exact hr h _ he
 | step h he hj ih =>
  intro hr
  exact ih (fun h'=>hd _ h' (hr h _ he))
theorem iq {i:Nat} (hl:l.size = ops.size):i ∈ Region.ready .any ops l ↔ ∃ (h:i < ops.size),¬ Dn l i ∧ ∀ e ∈ jq ops[i],Dn l e:=by
 unfold Region.ready
 rw [am4,amh]
 constructor
 ·rintro ⟨h,hh⟩
  refine ⟨h,?_⟩
  rw [alN,al9 h] at hh
  simp only [Option.map_some,Option.getD_some] at hh
  refine ⟨fun hd=>?_,fun e he=>?_⟩
  ·have h1:=hh.1
   unfold Dn at hd
   rw [amq,al9 (by omega)] at hd h1
   simp only [Option.getD_some] at hd h1
   rw [hd] at h1;cases h1
  ·obtain ⟨x,hx,rfl⟩:=al6.mp he
   obtain ⟨hx1,hx2⟩:=am4.mp hx
   have:=(Array.all_eq_true_iff_forall_mem.mp hh.2) x (by simpa using hx1)
   rw [hx2] at this
   exact this
 ·rintro ⟨h,h1,h2⟩
  refine ⟨h,?_⟩
  rw [alN,al9 h]
  simp only [Option.map_some,Option.getD_some]
  constructor
  ·unfold Dn at h1
   rw [amq,al9 (by omega)] at h1 ⊢
   simp only [Option.getD_some] at h1 ⊢
   simpa using h1
  ·refine Array.all_eq_true_iff_forall_mem.mpr fun x hx=>?_
   cases hb:Region.binds .any x with
   | false=>rfl
   | true=>exact h2 x.on (al6.mpr ⟨x,am4.mpr ⟨by simpa using hx,hb⟩,rfl⟩)
theorem Dn.set {i j:Nat} (hi:i < l.size):Dn (l.setIfInBounds i true) j ↔ j = i ∨ Dn l j:=by
 unfold Dn
 rw [amq,amq,amJ]
 by_cases h:i = j
 ·subst h
  rw [alx rfl,alx hi]
  simp
 ·rw [aly h]
  constructor
  ·exact fun hh=>.inr hh
  ·rintro (hh | hh)
   ·exact absurd hh.symm h
   ·exact hh
def left (l:Array Bool):Nat:=(l.toList.filter (!·)).length
theorem pJ {i:Nat} (hi:i < l.size) (hn:¬ Dn l i):left (l.setIfInBounds i true) + 1 = left l:=by
 unfold left
 rw [Array.toList_setIfInBounds]
 have hv:l.toList[i]? = some false:=by
  unfold Dn at hn
  rw [amq,al9 hi] at hn
  simp only [Option.getD_some] at hn
  rw [amR,al9 hi]
  simpa using hn
 have key:∀ (l:List Bool) (i:Nat),l[i]? = some false → ((l.set i true).filter (!·)).length + 1 = (l.filter (!·)).length:=by
  intro l
  induction l with
  | nil=>intro i h;simp at h
  | cons b l ih =>
   intro i h
   cases i with
   | zero=>simp at h;subst h;simp
   | succ i =>
    have:=ih i (by simpa using h)
    cases b <;> simp_all
 exact key l.toList i hv
theorem q9 (hd:Down ops l) {i:Nat} (hl:l.size = ops.size) (hi:i < ops.size) (hr:∀ e ∈ jq ops[i],Dn l e):Down ops (l.setIfInBounds i true):=by
 intro j hj hD e he
 rcases (Dn.set (by omega)).mp hD with rfl | hD
 ·exact (Dn.set (by omega)).mpr (.inr (hr e he))
 ·exact (Dn.set (by omega)).mpr (.inr (hd j hj hD e he))
theorem ru (hD:NZ ops pre nD kJ rest) (hl:l.size = ops.size) {i:Nat} (hi:i < ops.size) (hn:¬ Dn l i):Region.ready .any ops l ≠ []:=by
 have key:∀ (n i:Nat),i ≤ n → (hi:i < ops.size) → ¬ Dn l i → ∃ j,j ∈ Region.ready .any ops l:=by
  intro n
  induction n with
  | zero =>
   intro i h0 hi hn
   exact ⟨i,(iq hl).mpr ⟨hi,hn,fun e he=>by have:=hD.lt i hi e he;omega⟩⟩
  | succ n ih =>
   intro i h0 hi hn
   by_cases hall:∀ e ∈ jq ops[i],Dn l e
   ·exact ⟨i,(iq hl).mpr ⟨hi,hn,hall⟩⟩
   ·have:∃ e,e ∈ jq ops[i] ∧ ¬ Dn l e:=by
     apply amo
     intro hc
     exact hall (fun e he=>amo fun hne=>hc ⟨e,he,hne⟩)
    obtain ⟨e,he,hne⟩:=this
    have:=hD.lt i hi e he
    exact ih e (by omega) (by omega) hne
 obtain ⟨j,hj⟩:=key i i (alC _) hi hn
 intro e
 rw [e] at hj
 simp at hj
end
end
section
open Go
section
variable {P : Program} {Γ:Env} {bK:Nat → Prop} {w0 w w':World} {bJ:List Nat} {N:Fr} {jo:Nat → Value} {σ σ':St} {a:Act} {X:Hx} {ops:Array Oper} {pre:List (G × List Nat)} {nD:List Nat} {kJ rest:List G} {l:Array Bool} {Q:Exit → Act → World → Prop}
theorem jA : ∀ {l:List Oper} {gs:List G},kX P X ops N.ok l = some gs → l.length = gs.length ∧ ∀ i (h:i < l.length) (h':i < gs.length),uY P X ops N.ok l[i] = some gs[i]
 | [],gs,h=>by cases h;exact ⟨rfl,fun i h=>by simp at h⟩
 | o :: l,gs,h=>by
  obtain ⟨g,h1,h2⟩:=zbm h
  obtain ⟨r,h3,rfl⟩:=zmm h2
  obtain ⟨e1,e2⟩:=jA h3
  refine ⟨by simp [e1],fun i hi hi'=>?_⟩
  cases i with
  | zero=>exact h1
  | succ i=>exact e2 i (by simpa using hi) (by simpa using hi')
theorem mg {fuel:Nat}:wpAny P .any ops Q (fuel + 1) l a w = ((Region.ready .any ops l = [] → Q .normal a w) ∧ ∀ i ∈ Region.ready .any ops l,wpOp P ops Q i (wpAny P .any ops Q fuel (l.setIfInBounds i true)) a w):=rfl
theorem Xx (hD:NZ ops pre nD kJ rest) (heq:∀ t ∈ X.eqs,mI P t) (mV:jg P Γ) (hC:fE P Γ) (hc:kX P X ops N.ok ops.toList = some (pre.map (·.1) ++ (kJ ++ rest))) (hQ:∀ a' w',Ok bK w0 bJ N jo σ' a' w' → Q .normal a' w') :
  ∀ (fuel k:Nat) (l:Array Bool) (σ:St) (a:Act) (w:World),l.size = ops.size → pre.length + kJ.length ≤ k → k ≤ ops.size → (∀ i,i < ops.size → (Dn l i ↔ i < k)) → Down ops l → left l ≤ fuel → Ok bK w0 bJ N jo σ a w → yP Γ false (rest.drop (k - (pre.length + kJ.length))) σ = some σ' → wpAny P .any ops Q fuel l a w:=by
 intro fuel
 have hcg:=jA hc
 have hlen:=hD.len
 have nil:∀ {k:Nat} {l:Array Bool},l.size = ops.size → k = ops.size → (∀ i,i < ops.size → (Dn l i ↔ i < k)) → Region.ready .any ops l = []:=by
  intro k l hl hk hd
  refine List.eq_nil_iff_forall_not_mem.mpr fun i hi=>?_
  obtain ⟨h1,h2,_⟩:=(iq hl).mp hi
  exact h2 ((hd i h1).mpr (by omega))
 have pos:∀ {k:Nat} {l:Array Bool},l.size = ops.size → k < ops.size → (∀ i,i < ops.size → (Dn l i ↔ i < k)) → 0 < left l:=by
  intro k l hl hk hd
  have:=pJ (l:=l) (i:=k) (by omega) (fun h=>by have:=(hd k hk).mp h;omega)
  omega
 induction fuel with
 | zero =>
  intro k l σ a w hl h1 h2 hd hdn hf h hE
  by_cases hk:k = ops.size
  ·refine ⟨nil hl hk hd,?_⟩
   rw [List.drop_eq_nil_of_le (by omega)] at hE
   cases hE
   exact hQ a w h
  ·have:=pos hl (by omega) hd
   omega
 | succ fuel ih =>
  intro k l σ a w hl h1 h2 hd hdn hf h hE
  rw [mg]
  by_cases hk:k = ops.size
  ·have hn:=nil hl hk hd
   refine ⟨fun _=>?_,fun i hi=>by rw [hn] at hi;simp at hi⟩
   rw [List.drop_eq_nil_of_le (by omega)] at hE
   cases hE
   exact hQ a w h
  ·have hk':k < ops.size:=by omega
   have hnk:¬ Dn l k:=fun hh=>by have:=(hd k hk').mp hh;omega
   refine ⟨fun hn=>absurd hn (ru hD hl hk' hnk),fun i hi=>?_⟩
   obtain ⟨hi1,hi2,hi3⟩:=(iq hl).mp hi
   have hik:i = k:=by
    have hge:k ≤ i:=by
     apply amo
     intro hlt
     exact hi2 ((hd i hi1).mpr (by omega))
    apply amo
    intro hne
    rcases hD.tl i (by omega) hi1 k (by omega) with hb | ⟨_,_,hb⟩
    ·exact hnk (hdn.bef hD hb (fun _=>hi3))
    ·omega
   subst hik
   unfold wpOp
   rw [al9 hi1]
   have ht:i - (pre.length + kJ.length) < rest.length:=by omega
   rw [ani ht] at hE
   obtain ⟨s,h4,h5⟩:=zbm hE
   have hg:=hcg.2 i (by simpa using hi1) (by simp;omega)
   rw [List.getElem_append_right (by simp;omega),List.getElem_append_right (by simp;omega)] at hg
   simp only [alA,Array.getElem_toList,Nat.sub_sub] at hg
   refine DU heq mV hC hg h h4 fun a' w' h'=>?_
   refine ih (i + 1) _ s a' w' (by simp [hl]) (by omega) (by omega) (fun j hj=>?_) (q9 hdn hl hi1 hi3) ?_ h' (by rw [show i + 1 - (pre.length + kJ.length) = i - (pre.length + kJ.length) + 1 from by omega];exact h5)
   ·rw [Dn.set (by omega)]
    rw [hd j hj]
    omega
   ·have:=pJ (l:=l) (i:=i) (by omega) hnk
    omega
end
end
section
open Go
structure N7 (Γ:Env) (pre:List (G × List Nat)) (gJ:St) (l:Array Bool) (σ:St):Prop where
 tg1:∀ i pv st (h:Can Γ gJ.ob pre gJ.tm i pv st),Dn l i → ∀ s,(pre[i]'h.lt).1.dst = some s → get σ.tm s = some pv
 tg2:∀ s,(∀ i (h:i < pre.length),Dn l i → pre[i].1.dst ≠ some s) → get σ.tm s = get gJ.tm s
 ob1:∃ news,σ.ob = news ++ gJ.ob ∧ ∀ p ∈ news,∃ i,∃ (h:i < pre.length),kK pre[i].1.i = true ∧ p.1 = dY (pre[i].1.dst.getD 999)
 ob2:∀ i pv st (h:Can Γ gJ.ob pre gJ.tm i pv st),Dn l i → kK (pre[i]'h.lt).1.i = true → ∀ p ∈ st.ob.take 1,p ∈ σ.ob
 fr:∀ i (h:i < pre.length),kK pre[i].1.i = true → ¬ Dn l i → fresh σ (dY (pre[i].1.dst.getD 999)) = true
section
variable {Γ : Env} {σ gJ σ':St} {ops:Array Oper} {pre:List (G × List Nat)} {nD:List Nat} {kJ rest:List G} {l:Array Bool}
theorem Can.uniq {tO:List (Nat × Ob)} {Bq:List (Nat × PV)} {i:Nat} {pv pv':PV} {s s':St} (h:Can Γ tO pre Bq i pv s) (h':Can Γ tO pre Bq i pv' s'):pv = pv' ∧ s = s':=by
 have:=h.ev.symm.trans h'.ev
 simp only [alI,alK] at this
 exact this
theorem rz {d:Option Nat} {tm:List (Nat × PV)} {v:PV} {s:Nat}:get (uR d tm v) s = if d = some s then some v else get tm s:=by
 cases d with
 | none=>simp [uR]
 | some d =>
  simp only [uR,get_put,alI]
  by_cases h:s = d
  ·rw [alx h,alx h.symm]
  ·rw [aly h,aly (fun e=>h e.symm)]
theorem Fq {d:Option Nat} {tm:List (Nat × PV)} {v:PV} {p:Nat × PV} (h:p ∈ uR d tm v):p.2 = v ∨ p ∈ tm:=by
 cases d with
 | none=>exact .inr h
 | some d =>
  rcases iY h with rfl | ⟨h,_⟩
  ·exact .inl rfl
  ·exact .inr h
theorem vB (hD:NZ ops pre nD kJ rest) (hall:∀ j,j < pre.length → ∃ pv st,Can Γ gJ.ob pre gJ.tm j pv st):∀ i,i ≤ pre.length →
  (∀ j pv st (h:Can Γ gJ.ob pre gJ.tm j pv st),j < i → ∀ s,(pre[j]'h.lt).1.dst = some s → get (jS Γ gJ.ob pre gJ.tm i) s = some pv) ∧
  (∀ s,(∀ j (h:j < pre.length),j < i → pre[j].1.dst ≠ some s) → get (jS Γ gJ.ob pre gJ.tm i) s = get gJ.tm s) ∧
  ∀ p ∈ jS Γ gJ.ob pre gJ.tm i,p ∈ gJ.tm ∨ ∃ j pv st,j < i ∧ Can Γ gJ.ob pre gJ.tm j pv st ∧ p.2 = pv
 | 0,_=>⟨fun j _ _ _ h=>by omega,fun s _=>rfl,fun p hp=>.inl hp⟩
 | i + 1,hi=>by
  obtain ⟨e1,e2,e3⟩:=vB hD hall i (by omega)
  obtain ⟨pv,st,hc⟩:=hall i (by omega)
  rw [hc.nx]
  refine ⟨fun j pv' st' h hj s hs=>?_,fun s hs=>?_,fun p hp=>?_⟩
  ·rw [rz]
   by_cases hji:j = i
   ·subst hji
    rw [alx hs,(h.uniq hc).1]
   ·rw [aly (hD.dst j i h.lt hc.lt hji s hs),e1 j pv' st' h (by omega) s hs]
  ·rw [rz,aly (hs i hc.lt (by omega))]
   exact e2 s (fun j h hj=>hs j h (by omega))
  ·rcases Fq hp with h | h
   ·exact .inr ⟨i,pv,st,by omega,hc,h⟩
   ·rcases e3 p h with h | ⟨j,pv',st',h1,h2,h3⟩
    ·exact .inl h
    ·exact .inr ⟨j,pv',st',by omega,h2,h3⟩
theorem LB.lt (hD:NZ ops pre nD kJ rest) {i j:Nat} (h:LB ops j i):j < i:=by
 induction h with
 | dir h he=>exact hD.lt _ h _ he
 | step h he hj ih=>have:=hD.lt _ h _ he;omega
theorem JU {α:Type} {l m:List (Nat × α)} {k:Nat} (h:∀ p ∈ l,p.1 ≠ k):get (l ++ m) k = get m k:=by
 induction l with
 | nil=>rfl
 | cons p l ih =>
  obtain ⟨j,u⟩:=p
  rw [List.cons_append]
  conv=>lhs;unfold get
  rw [aly (h _ amX),ih (fun p hp=>h p (amu _ hp))]
theorem DV : ∀ {i:I},RN i = true → kK i = true → False:=by
 intro i h1 h2
 cases i <;> simp [RN,kK] at h1 h2
theorem aa3 (hD:NZ ops pre nD kJ rest) (hall:∀ j,j < pre.length → ∃ pv st,Can Γ gJ.ob pre gJ.tm j pv st) (hfr:∀ i (h:i < pre.length),kK pre[i].1.i = true → fresh gJ (dY (pre[i].1.dst.getD 999)) = true)
  (hI:N7 Γ pre gJ l σ) (hl:l.size = ops.size) (hdn:Down ops l) {i:Nat} (hi:i < pre.length) (hi':i < ops.size) (hn:¬ Dn l i) (hr:∀ e ∈ jq ops[i],Dn l e) :
  ∃ pv σ1,nQ Γ true σ pre[i].1 = some (pv,σ1) ∧ N7 Γ pre gJ (l.setIfInBounds i true) (tq σ1 pre[i].1.dst pv):=by
 obtain ⟨pv,st,hc⟩:=hall i hi
 obtain ⟨c1,c2,c3⟩:=vB hD hall i (by omega)
 have hset:∀ {j},Dn (l.setIfInBounds i true) j ↔ j = i ∨ Dn l j:=fun {j}=>Dn.set (by omega)
 have hsame:Same (rd pre[i].1) ⟨jS Γ gJ.ob pre gJ.tm i,gJ.ob⟩ σ:=by
  intro s hs
  by_cases hw:∃ j,∃ (h:j < pre.length),pre[j].1.dst = some s
  ·obtain ⟨j,hj,hjs⟩:=hw
   have hje:=hD.data i hi hi' s hs j hj hjs
   obtain ⟨pv',st',hc'⟩:=hall j hj
   rw [hI.tg1 j pv' st' hc' (hr j hje) s hjs,c1 j pv' st' hc' (hD.lt i hi' j hje) s hjs]
  ·have hw':∀ j (h:j < pre.length),pre[j].1.dst ≠ some s:=fun j h e=>hw ⟨j,h,e⟩
   rw [hI.tg2 s (fun j h _=>hw' j h),c2 s (fun j h _=>hw' j h)]
 have hnk:∀ j (h:j < pre.length),kK pre[j].1.i = true → ¬ Dn l j → j ≠ i → dY (pre[j].1.dst.getD 999) ∈ pre[i].2:=by
  intro j h hN hdj hji
  rcases hD.nk j i h hi hji hN with h1 | h1
  ·exact h1
  ·exact absurd (hdn.bef hD h1 (fun _=>hr)) hdj
 obtain ⟨news,ho1,ho2⟩:=hI.ob1
 have hkey:∀ k o,get gJ.ob k = some o → get σ.ob k = some o:=by
  intro k o hk
  rw [ho1,JU]
  ·exact hk
  ·intro p hp e
   obtain ⟨j,hj,hN,hpk⟩:=ho2 p hp
   have:=(ko.mp (hfr j hj hN)).1 _ (get_mem hk)
   exact this.1 (by show k = _;rw [← e,hpk])
 have fin:∀ (σ1:St) (new:List (Nat × Ob)),σ1.tm = σ.tm → σ1.ob = new ++ σ.ob → (∀ p ∈ new,kK pre[i].1.i = true ∧ p.1 = dY (pre[i].1.dst.getD 999)) → (kK pre[i].1.i = true → new = st.ob.take 1) → N7 Γ pre gJ (l.setIfInBounds i true) (tq σ1 pre[i].1.dst pv):=by
  intro σ1 new ht gY hnew hst
  have Vt:(tq σ1 pre[i].1.dst pv).tm = uR pre[i].1.dst σ.tm pv:=by
   unfold tq uR
   cases pre[i].1.dst <;> simp [ht]
  have Xy:(tq σ1 pre[i].1.dst pv).ob = new ++ σ.ob:=by
   unfold tq
   cases pre[i].1.dst <;> simp [gY]
  refine ⟨fun j pv' st' h hd s hs=>?_,fun s hs=>?_,⟨new ++ news,by rw [Xy,ho1,amt],fun p hp=>?_⟩,fun j pv' st' h hd hN p hp=>?_,fun j h hN hd=>?_⟩
  ·rw [Vt,rz]
   rcases hset.mp hd with rfl | hd
   ·rw [alx hs,(h.uniq hc).1]
   ·have hji:j ≠ i:=fun e=>hn (e ▸ hd)
    rw [aly (hD.dst j i h.lt hi hji s hs)]
    exact hI.tg1 j pv' st' h hd s hs
  ·rw [Vt,rz,aly (hs i hi (hset.mpr (.inl rfl)))]
   exact hI.tg2 s (fun j h hd=>hs j h (hset.mpr (.inr hd)))
  ·rcases amj.mp hp with hp | hp
   ·exact ⟨i,hi,hnew p hp⟩
   ·exact ho2 p hp
  ·rw [Xy]
   rcases hset.mp hd with rfl | hd
   ·refine List.mem_append_left _ ?_
    rw [hst hN,(hc.uniq h).2];exact hp
   ·exact List.mem_append_right _ (hI.ob2 j pv' st' h hd hN p hp)
  ·have hji:j ≠ i:=fun e=>hd (hset.mpr (.inl e))
   have hdj:¬ Dn l j:=fun e=>hd (hset.mpr (.inr e))
   have hk:=hnk j h hN hdj hji
   obtain ⟨f1,f2⟩:=ko.mp (hI.fr j h hN hdj)
   obtain ⟨g1,g2⟩:=hc.nk _ hk
   refine ko.mpr ⟨fun p hp=>?_,fun p hp=>?_⟩
   ·rw [Xy] at hp
    rcases amj.mp hp with hp | hp
    ·have hNi:=(hnew p hp).1
     exact g2 hNi p (by rw [← hst hNi];exact hp)
    ·exact f1 p hp
   ·rw [Vt] at hp
    rcases Fq hp with h | h
    ·rw [h];exact g1
    ·exact f2 p h
 rcases hD.cls i hi with hV | ⟨hN,hgd⟩
 ·obtain ⟨e1,e2⟩:=vv hV hsame hkey hc.ev
  refine ⟨pv,σ,e2,fin σ [] rfl rfl (fun p hp=>by simp at hp) (fun hN=>?_)⟩
  exact (DV hV hN).elim
 ·have hfc:fresh ⟨jS Γ gJ.ob pre gJ.tm i,gJ.ob⟩ (dY (pre[i].1.dst.getD 999)) = true:=by
   obtain ⟨f1,f2⟩:=ko.mp (hfr i hi hN)
   refine ko.mpr ⟨f1,fun p hp=>?_⟩
   rcases c3 p hp with h | ⟨j,pv',st',h1,h2,h3⟩
   ·exact f2 p h
   ·rcases hD.nk i j hi h2.lt (by omega) hN with h4 | h4
    ·rw [h3];exact (h2.nk _ h4).1
    ·have:=h4.lt hD;omega
  obtain ⟨o,e1,e2⟩:=NY hN hgd hsame hfc (hI.fr i hi hN hn) hc.ev
  refine ⟨pv,_,e2,fin _ [(dY (pre[i].1.dst.getD 999),o)] rfl rfl (fun p hp=>by simp at hp;exact ⟨hN,by rw [hp]⟩) (fun _=>by rw [e1];rfl)⟩
end
end
section
open Go
section
variable {P : Program} {Γ:Env} {bK:Nat → Prop} {w0 w w':World} {bJ:List Nat} {N:Fr} {d:Nat} {jo:Nat → Value} {σ gJ σ':St} {a:Act} {X:Hx} {ops:Array Oper} {pre:List (G × List Nat)} {nD:List Nat} {kJ rest:List G} {l:Array Bool} {Q:Exit → Act → World → Prop} {pv:PV}
theorem Xz {tm tm2:List (Nat × PV)} {ob:List (Nat × Ob)} {n key off:Nat} {x y:eX} {s:St} (hv:val ⟨tm,ob⟩ x = some (.one (.ptr key off))) (hE:dL Γ true ⟨tm,ob⟩ d (.store n x y) = some (pv,s)) :
  s.tm = tm ∧ (Same (oK (.store n x y)) ⟨tm,ob⟩ ⟨tm2,ob⟩ → ∀ q d,dL Γ q ⟨tm2,ob⟩ d (.store n x y) = some (pv,⟨tm2,s.ob⟩)) ∧ ∀ k o,k ≠ key → get ob k = some o → get s.ob k = some o:=by
 simp only [dL] at hE
 rw [hv] at hE
 simp only [Option.bind_some] at hE
 obtain ⟨u,h1,h2⟩:=zbm hE
 split at h2
 ·rename_i hc
  split at h2
  ·rename_i xs gY
   obtain ⟨l,h3,h4⟩:=zmm h2
   cases h4
   refine ⟨rfl,fun hs q d=>?_,fun k o hk hg=>?_⟩
   ·simp only [dL]
    simp only [oK] at hs
    rw [hs.l.val,hv,Option.bind_some,hs.r.val,h1,Option.bind_some,alx hc]
    simp only [gY]
    simp only [h3,Option.map_some,jU]
   ·simp only [jU,get_put,aly hk]
    exact hg
  ·cases h2
 ·cases h2
theorem XA {tm:List (Nat × PV)} {ob ob':List (Nat × Ob)} {x:eX}:val ⟨tm,ob⟩ x = val ⟨tm,ob'⟩ x:=by
 cases x <;> rfl
theorem get_filter {α:Type} {l:List (Nat × α)} {p:Nat → Bool} {k:Nat} {o:α} (h:get (l.filter fun x=>p x.1) k = some o):p k = true ∧ get l k = some o:=by
 induction l with
 | nil=>cases h
 | cons q l ih =>
  obtain ⟨j,u⟩:=q
  rw [ana] at h
  by_cases hp:p j = true
  ·rw [alx hp] at h
   unfold get at h ⊢
   by_cases hj:j = k
   ·rw [alx hj] at h ⊢
    exact ⟨hj ▸ hp,h⟩
   ·rw [aly hj] at h ⊢
    exact ih h
  ·rw [aly hp] at h
   obtain ⟨h1,h2⟩:=ih h
   refine ⟨h1,?_⟩
   unfold get
   rw [aly (by intro e;subst e;exact hp h1)]
   exact h2
theorem Ok.less (h:Ok bK w0 bJ N jo σ a w) (ht:∀ p ∈ σ'.tm,p ∈ σ.tm) (ho:∀ p ∈ σ'.ob,p ∈ σ.ob):Ok bK w0 bJ N jo σ' a w:=by
 obtain ⟨Fz,κ,hr,hk⟩:=h
 exact ⟨Fz,κ,hr.less ht ho,hk⟩
def Vis (pre:List (G × List Nat)) (l:Array Bool) (s:Nat):Prop:=∀ j (h:j < pre.length),¬ Dn l j → pre[j].1.dst ≠ some s
theorem XB (hD:NZ ops pre nD kJ rest) (heq:∀ t ∈ X.eqs,mI P t) (mV:jg P Γ) (hC:fE P Γ) (hc:kX P X ops N.ok ops.toList = some (pre.map (·.1) ++ (kJ ++ rest))) (hQ:∀ a' w',Ok bK w0 bJ N jo σ' a' w' → Q .normal a' w')
  {tm:List (Nat × PV)} {obS RP:List (Nat × Ob)} (Vt:∀ p ∈ tm,get tm p.1 = some p.2)
  (hpv:∀ j (h:j < pre.length),j ∈ nD → ∃ pv s,nQ Γ true ⟨tm,obS.filter (fun p=>!(kJ.flatMap (uS tm)).contains p.1)⟩ pre[j].1 = some (pv,s) ∧ ∀ s,pre[j].1.dst = some s → get tm s = some pv)
  (hE:yP Γ false rest ⟨tm,RP⟩ = some σ') :
  ∀ (fuel m:Nat) (l:Array Bool) (Fu:List (Nat × PV)) (ob:List (Nat × Ob)) (a:Act) (w:World),l.size = ops.size → m ≤ kJ.length → (∀ i,i < ops.size → pre.length ≤ i → (Dn l i ↔ i < pre.length + m)) → (∀ j,j < pre.length → j ∉ nD → Dn l j) → Down ops l → left l ≤ fuel →
   Ni Γ tm (kJ.drop m) ob = some RP → (∀ k o,(kJ.flatMap (uS tm)).contains k = false → get obS k = some o → get ob k = some o) → (∀ s,Vis pre l s → get Fu s = get tm s) → Ok bK w0 bJ N jo ⟨Fu,ob⟩ a w → wpAny P .any ops Q fuel l a w:=by
 intro fuel
 have hcg:=jA hc
 have hlen:=hD.len
 have over:∀ (fuel m:Nat) (l:Array Bool) (Fu:List (Nat × PV)) (ob:List (Nat × Ob)) (a:Act) (w:World),l.size = ops.size → m = kJ.length → (∀ i,i < ops.size → pre.length ≤ i → (Dn l i ↔ i < pre.length + m)) → (∀ j,j < pre.length → Dn l j) → Down ops l → left l ≤ fuel →
   Ni Γ tm (kJ.drop m) ob = some RP → (∀ s,Vis pre l s → get Fu s = get tm s) → Ok bK w0 bJ N jo ⟨Fu,ob⟩ a w → wpAny P .any ops Q fuel l a w:=by
  intro fuel m l Fu ob a w hl hm hd hall hdn hf hL hv h
  subst hm
  rw [List.drop_of_length_le (alC _)] at hL
  cases hL
  refine Xx hD heq mV hC hc hQ fuel (pre.length + kJ.length) l ⟨tm,RP⟩ a w hl (alC _) (by omega) (fun i hi=>?_) hdn hf (h.less (fun p hp=>?_) (fun _ hp=>hp)) (by rw [Nat.sub_self,amG];exact hE)
  ·by_cases hi':i < pre.length
   ·exact ⟨fun _=>by omega,fun _=>hall i hi'⟩
   ·exact hd i hi (by omega)
  ·have:=hv p.1 (fun j hj hnd=>absurd (hall j hj) hnd)
   rw [Vt p hp] at this
   exact get_mem this
 induction fuel with
 | zero =>
  intro m l Fu ob a w hl hm hd hfl hdn hf hL gY hv h
  have hdone:∀ i,i < ops.size → Dn l i:=by
   intro i hi
   apply amo
   intro hn
   have:=pJ (l:=l) (i:=i) (by omega) hn
   omega
  refine over 0 m l Fu ob a w hl ?_ hd (fun j hj=>hdone j (by omega)) hdn hf hL hv h
  apply amo
  intro hne
  have:=(hd (pre.length + m) (by omega) (by omega)).mp (hdone _ (by omega))
  omega
 | succ fuel ih =>
  intro m l Fu ob a w hl hm hd hfl hdn hf hL gY hv h
  by_cases hfin:m = kJ.length ∧ ∀ j,j < pre.length → Dn l j
  ·exact over (fuel + 1) m l Fu ob a w hl hfin.1 hd hfin.2 hdn hf hL hv h
  ·have hex:∃ i,i < pre.length + kJ.length ∧ i < ops.size ∧ ¬ Dn l i:=by
    apply amo
    intro hno
    have hall:∀ i,i < pre.length + kJ.length → i < ops.size → Dn l i:=fun i h1 h2=>amo fun hn=>hno ⟨i,h1,h2,hn⟩
    refine hfin ⟨?_,fun j hj=>hall j (by omega) (by omega)⟩
    apply amo
    intro hne
    have:=(hd (pre.length + m) (by omega) (by omega)).mp (hall _ (by omega) (by omega))
    omega
   obtain ⟨i0,hi0,Bt,hn0⟩:=hex
   rw [mg]
   refine ⟨fun hn=>absurd hn (ru hD hl Bt hn0),fun i hi=>?_⟩
   obtain ⟨hi1,hi2,hi3⟩:=(iq hl).mp hi
   have hset:∀ {j},Dn (l.setIfInBounds i true) j ↔ j = i ∨ Dn l j:=fun {j}=>Dn.set (by omega)
   have hleft:=pJ (l:=l) (i:=i) (by omega) hi2
   unfold wpOp
   rw [al9 hi1]
   have hg:=hcg.2 i (by simpa using hi1) (by simp;omega)
   by_cases XC:i < pre.length
   ·
    have hif:i ∈ nD:=amo fun hn=>hi2 (hfl i XC hn)
    rw [List.getElem_append_left (by simpa using XC)] at hg
    simp only [amP,Array.getElem_toList] at hg
    obtain ⟨pv,s,h1,h2⟩:=hpv i XC hif
    have hsame:Same (rd pre[i].1) ⟨tm,obS.filter (fun p=>!(kJ.flatMap (uS tm)).contains p.1)⟩ ⟨Fu,ob⟩:=fun s hs=>hv s (fun j hj hnd he=>hnd (hi3 j (hD.data i XC hi1 s hs j hj he)))
    obtain ⟨e1,e2⟩:=vv (σ2:=⟨Fu,ob⟩) (hD.fl i hif XC) hsame (fun k o hk=>by
     obtain ⟨g1,g2⟩:=get_filter (p:=fun k=>!(kJ.flatMap (uS tm)).contains k) hk
     exact gY k o (by simpa using g1) g2) h1
    refine yR heq mV hC hg h e2 fun a' w' h'=>?_
    refine ih m _ (uR pre[i].1.dst Fu pv) ob a' w' (by simp [hl]) hm (fun j hj hj'=>?_) (fun j hj hjf=>hset.mpr (.inr (hfl j hj hjf))) (q9 hdn hl hi1 hi3) (by omega) hL gY (fun s hs=>?_) ?_
    ·rw [hset,hd j hj hj']
     omega
    ·rw [rz]
     split
     ·rename_i he
      exact (h2 s he).symm
     ·rename_i he
      refine hv s (fun j hj hnd hjs=>?_)
      by_cases hji:j = i
      ·subst hji;exact he hjs
      ·exact hs j hj (fun hdj=>by rcases hset.mp hdj with h | h;exact hji h;exact hnd h) hjs
    ·cases hdst:pre[i].1.dst with
     | none=>rw [hdst] at h';exact h'
     | some s=>rw [hdst] at h';exact h'
   ·
    have him:i = pre.length + m ∧ m < kJ.length:=by
     have hge:pre.length + m ≤ i:=by
      apply amo
      intro hlt
      exact hi2 ((hd i hi1 (by omega)).mpr (by omega))
     have hlt':i < pre.length + kJ.length:=by
      apply amo
      intro hnl
      rcases hD.tl i (by omega) hi1 i0 (by omega) with hb | ⟨_,_,hb⟩
      ·exact hn0 (hdn.bef hD hb (fun _=>hi3))
      ·omega
     refine ⟨?_,by omega⟩
     apply amo
     intro hne
     have hnm:¬ Dn l (pre.length + m):=fun hh=>by have:=(hd (pre.length + m) (by omega) (by omega)).mp hh;omega
     rcases hD.tl i (by omega) hi1 (pre.length + m) (by omega) with hb | ⟨hb,_,_⟩
     ·exact hnm (hdn.bef hD hb (fun _=>hi3))
     ·omega
    obtain ⟨rfl,hml⟩:=him
    rw [List.getElem_append_right (by simp),List.getElem_append_left (by simpa using hml)] at hg
    simp only [alA,Array.getElem_toList,Nat.add_sub_cancel_left] at hg
    rw [ani hml] at hL
    have hlg:=hD.lt' _ (List.getElem_mem hml)
    have hld:=hD.ld m hml hi1
    have hkey:∀ k,k ∈ uS tm kJ[m] → (kJ.flatMap (uS tm)).contains k = true:=fun k hk=>by
     rw [List.contains_iff_mem]
     exact List.mem_flatMap.mpr ⟨_,List.getElem_mem hml,hk⟩
    generalize kJ[m] = g at hg hL hlg hld hkey
    obtain ⟨gd,gg,gi⟩:=g
    unfold isLt at hlg
    simp only [alN] at hlg
    obtain ⟨⟨hl1,hl2⟩,hl3⟩:=hlg
    have hgd:gd = none:=by cases gd <;> simp_all
    have hgg:gg = none:=by cases gg <;> simp_all
    subst hgd
    subst hgg
    cases gi with
    | store n x y =>
     simp only [Ni] at hL
     split at hL
     ·rename_i key off hval
      obtain ⟨p,h1,h2⟩:=zbm hL
      obtain ⟨pv,s⟩:=p
      have hsame:Same (oK (.store n x y)) ⟨tm,ob⟩ ⟨Fu,ob⟩:=fun s hs=>hv s (fun j hj hnd he=>hnd (hi3 j (hld s (by unfold rd;exact List.mem_append_left _ hs) j hj he)))
      obtain ⟨e1,e2,e3⟩:=Xz (tm2:=Fu) hval h1
      have e2':=e2 hsame true 999
      refine yR (q:=true) (pv:=pv) (σ':=⟨Fu,s.ob⟩) heq mV hC hg h (by simp only [nQ,Bh,Option.bind_some,ama];exact e2') fun a' w' h'=>?_
      refine ih (m + 1) _ Fu s.ob a' w' (by simp [hl]) (by omega) (fun j hj hj'=>?_) (fun j hj hjf=>hset.mpr (.inr (hfl j hj hjf))) (q9 hdn hl hi1 hi3) (by omega) h2 (fun k o hk hg'=>?_) (fun s hs=>hv s (fun j hj hnd=>hs j hj (fun hdj=>by rcases hset.mp hdj with h | h;omega;exact hnd h))) h'
      ·rw [hset,hd j hj hj']
       omega
      ·refine e3 k o (fun e=>?_) (gY k o hk hg')
       subst e
       have hv0:val ⟨tm,[]⟩ x = some (.one (.ptr k off)):=(XA (ob':=ob)).trans hval
       have:=hkey k (by simp only [uS,hv0,amA])
       rw [this] at hk;cases hk
     ·cases hL
    | _=>simp at hl3
end
end
section
open Go
section
variable {P : Program} {Γ:Env} {bK:Nat → Prop} {w0 w w':World} {bJ:List Nat} {N:Fr} {jo:Nat → Value} {σ gJ σ':St} {a:Act} {X:Hx} {ops:Array Oper} {pre:List (G × List Nat)} {nD:List Nat} {kJ rest:List G} {l:Array Bool} {Q:Exit → Act → World → Prop}
theorem DW {α:Type} {ks:List Nat} {l:List (Nat × α)} {p:Nat × α} (h:p ∈ pick ks l):get l p.1 = some p.2:=by
 unfold pick at h
 obtain ⟨i,_,h2⟩:=List.mem_filterMap.mp h
 obtain ⟨v,h3,h4⟩:=zmm h2
 subst h4
 exact h3
theorem Fv {α:Type} {l:List (Nat × α)} {s:Nat}:∀ {ks:List Nat},get (pick ks l) s = if s ∈ ks then get l s else none
 | []=>rfl
 | k :: ks=>by
  have ih:=Fv (l:=l) (s:=s) (ks:=ks)
  unfold pick at ih ⊢
  rw [List.filterMap_cons]
  cases hg:get l k with
  | none =>
   simp only [Option.map_none]
   rw [ih]
   by_cases hk:s = k
   ·subst hk;simp [hg]
   ·simp [hk]
  | some v =>
   simp only [Option.map_some]
   conv=>lhs;unfold get
   by_cases hk:k = s
   ·subst hk;simp [hg]
   ·rw [aly hk,ih]
    have:¬ s = k:=fun e=>hk e.symm
    simp [this]
theorem get_none {α:Type} {l:List (Nat × α)} {s:Nat} (h:s ∉ l.map (·.1)):get l s = none:=by
 cases hg:get l s with
 | none=>rfl
 | some v=>exact absurd (al6.mpr ⟨_,get_mem hg,rfl⟩) h
theorem RQ {α:Type} {l:List (Nat × α)} {s:Nat}:get (pick (l.map (·.1)) l) s = get l s:=by
 rw [Fv]
 split
 ·rfl
 ·rename_i h;exact (get_none h).symm
theorem ahj (hD:NZ ops pre nD kJ rest) (hall:∀ j,j < pre.length → ∃ pv st,Can Γ gJ.ob pre gJ.tm j pv st) (hfr:∀ i (h:i < pre.length),kK pre[i].1.i = true → fresh gJ (dY (pre[i].1.dst.getD 999)) = true)
  {i:Nat} {pv:PV} {st:St} (hc:Can Γ gJ.ob pre gJ.tm i pv st) (hN:kK (pre[i]'hc.lt).1.i = true):∀ p ∈ st.ob.take 1,p.1 = dY ((pre[i]'hc.lt).1.dst.getD 999):=by
 have hi:=hc.lt
 obtain ⟨c1,c2,c3⟩:=vB hD hall i (by omega)
 have hgd:pre[i].1.gd = none:=by
  rcases hD.cls i hi with h | h
  ·exact (DV h hN).elim
  ·exact h.2
 have hfc:fresh ⟨jS Γ gJ.ob pre gJ.tm i,gJ.ob⟩ (dY (pre[i].1.dst.getD 999)) = true:=by
  obtain ⟨f1,f2⟩:=ko.mp (hfr i hi hN)
  refine ko.mpr ⟨f1,fun p hp=>?_⟩
  rcases c3 p hp with h | ⟨j,pv',st',h1,h2,h3⟩
  ·exact f2 p h
  ·rcases hD.nk i j hi h2.lt (by omega) hN with h4 | h4
   ·rw [h3];exact (h2.nk _ h4).1
   ·have:=h4.lt hD;omega
 obtain ⟨o,e1,_⟩:=NY (σ2:=⟨jS Γ gJ.ob pre gJ.tm i,gJ.ob⟩) hN hgd (fun _ _=>rfl) hfc hfc hc.ev
 intro p hp
 rw [e1] at hp
 simp at hp
 rw [hp]
theorem XD (hD:NZ ops pre nD kJ rest) (heq:∀ t ∈ X.eqs,mI P t) (mV:jg P Γ) (hC:fE P Γ) (hc:kX P X ops N.ok ops.toList = some (pre.map (·.1) ++ (kJ ++ rest))) (hQ:∀ a' w',Ok bK w0 bJ N jo σ' a' w' → Q .normal a' w')
  (hall:∀ j,j < pre.length → ∃ pv st,Can Γ gJ.ob pre gJ.tm j pv st) (hfr:∀ i (h:i < pre.length),kK pre[i].1.i = true → fresh gJ (dY (pre[i].1.dst.getD 999)) = true)
  {tm:List (Nat × PV)} {sob RP news':List (Nat × Ob)} (Vt:tm = pick ((jS Γ gJ.ob pre gJ.tm pre.length).map (·.1)) (jS Γ gJ.ob pre gJ.tm pre.length))
  (aa4:sob = news' ++ gJ.ob) (hnews:∀ p ∈ news',∃ j pv st,∃ (h:Can Γ gJ.ob pre gJ.tm j pv st),kK (pre[j]'h.lt).1.i = true ∧ p ∈ st.ob.take 1)
  (RS:nD.all (fun j=>(nQ Γ true ⟨tm,gJ.ob.filter (fun p=>!(kJ.flatMap (uS tm)).contains p.1)⟩ (pre.getD j default).1).isSome) = true)
  (hL:Ni Γ tm kJ sob = some RP) (hE:yP Γ false rest ⟨tm,RP⟩ = some σ') :
  ∀ (fuel:Nat) (l:Array Bool) (σ:St) (a:Act) (w:World),l.size = ops.size → (∀ i,pre.length ≤ i → ¬ Dn l i) → Down ops l → left l ≤ fuel → Ok bK w0 bJ N jo σ a w → N7 Γ pre gJ l σ → wpAny P .any ops Q fuel l a w:=by
 intro fuel
 have hcg:=jA hc
 have hlen:=hD.len
 obtain ⟨c1,c2,c3⟩:=vB (Γ:=Γ) hD hall pre.length (alC _)
 have htg:∀ s,get tm s = get (jS Γ gJ.ob pre gJ.tm pre.length) s:=fun s=>by rw [Vt];exact RQ
 have ahk:∀ p ∈ tm,get tm p.1 = some p.2:=fun p hp=>by
  rw [htg]
  rw [Vt] at hp
  exact DW hp
 have hpv:∀ j (h:j < pre.length),j ∈ nD → ∃ pv s,nQ Γ true ⟨tm,gJ.ob.filter (fun p=>!(kJ.flatMap (uS tm)).contains p.1)⟩ pre[j].1 = some (pv,s) ∧ ∀ s,pre[j].1.dst = some s → get tm s = some pv:=by
  intro j h hj
  have h1:=alY.mp RS j hj
  rw [al8,alT h,Option.getD_some] at h1
  obtain ⟨q,hq⟩:=am6.mp h1
  obtain ⟨pv',s'⟩:=q
  refine ⟨pv',s',hq,fun s hs=>?_⟩
  obtain ⟨pv,st,hcj⟩:=hall j h
  obtain ⟨d1,d2,d3⟩:=vB (Γ:=Γ) hD hall j (by omega)
  have hV:=hD.fl j hj h
  obtain ⟨_,g1⟩:=vv (σ:=⟨tm,gJ.ob.filter (fun p=>!(kJ.flatMap (uS tm)).contains p.1)⟩) (σ2:=⟨tm,gJ.ob⟩) hV (fun _ _=>rfl) (fun k o hk=>(get_filter (p:=fun k=>!(kJ.flatMap (uS tm)).contains k) hk).2) hq
  have hsame:Same (rd pre[j].1) ⟨jS Γ gJ.ob pre gJ.tm j,gJ.ob⟩ ⟨tm,gJ.ob⟩:=by
   intro s hs
   show get tm s = get (jS Γ gJ.ob pre gJ.tm j) s
   rw [htg]
   by_cases hw:∃ i,∃ (hi:i < pre.length),pre[i].1.dst = some s
   ·obtain ⟨i,hi,his⟩:=hw
    have hie:=hD.data j h (by omega) s hs i hi his
    obtain ⟨pv',st',hc'⟩:=hall i hi
    rw [c1 i pv' st' hc' hi s his,d1 i pv' st' hc' (hD.lt j (by omega) i hie) s his]
   ·have hw':∀ i (h:i < pre.length),pre[i].1.dst ≠ some s:=fun i h e=>hw ⟨i,h,e⟩
    rw [c2 s (fun i h _=>hw' i h),d2 s (fun i h _=>hw' i h)]
  obtain ⟨_,g2⟩:=vv (σ2:=⟨tm,gJ.ob⟩) hV hsame (fun k o hk=>hk) hcj.ev
  rw [g1] at g2
  simp only [alI,alK] at g2
  rw [htg,c1 j pv st hcj h s hs,g2.1]
 have over:∀ (fuel:Nat) (l:Array Bool) (σ:St) (a:Act) (w:World),l.size = ops.size → (∀ i,pre.length ≤ i → ¬ Dn l i) → Down ops l → left l ≤ fuel → Ok bK w0 bJ N jo σ a w → N7 Γ pre gJ l σ → (∀ i,i < pre.length → i ∉ nD → Dn l i) → wpAny P .any ops Q fuel l a w:=by
  intro fuel l σ a w hl hno hdn hf h hI hdone
  refine XB (tm:=tm) (obS:=gJ.ob) (RP:=RP) hD heq mV hC hc hQ ahk hpv hE fuel 0 l σ.tm sob a w hl (amn _) (fun i hi XC=>⟨fun hd=>absurd hd (hno i XC),fun hd=>by omega⟩) hdone hdn hf (by rw [amG];exact hL) (fun k o _ hk=>?_) (fun s hs=>?_) (h.less (fun _ hp=>hp) (fun p hp=>?_))
  ·rw [aa4,JU]
   ·exact hk
   ·intro p hp e
    obtain ⟨j,pv,st,hcj,hN,hpt⟩:=hnews p hp
    have hk':=ahj hD hall hfr hcj hN p hpt
    have:=(ko.mp (hfr j hcj.lt hN)).1 _ (get_mem hk)
    exact this.1 (by show k = _;rw [← e,hk'])
  ·rw [htg]
   by_cases hw:∃ j,∃ (h:j < pre.length),pre[j].1.dst = some s
   ·obtain ⟨j,hj,hjs⟩:=hw
    obtain ⟨pv,st,hcj⟩:=hall j hj
    have hdj:Dn l j:=amo fun hn=>hs j hj hn hjs
    rw [c1 j pv st hcj hj s hjs]
    exact hI.tg1 j pv st hcj hdj s hjs
   ·have hw':∀ j (h:j < pre.length),pre[j].1.dst ≠ some s:=fun j h e=>hw ⟨j,h,e⟩
    rw [c2 s (fun j h _=>hw' j h)]
    exact hI.tg2 s (fun j h _=>hw' j h)
  ·rw [aa4] at hp
   rcases amj.mp hp with hp | hp
   ·obtain ⟨j,pv,st,hcj,hN,hpt⟩:=hnews p hp
    refine hI.ob2 j pv st hcj (hdone j hcj.lt (fun hj=>?_)) hN p hpt
    exact DV (hD.fl j hj hcj.lt) hN
   ·obtain ⟨news,ho,_⟩:=hI.ob1
    rw [ho]
    exact List.mem_append_right _ hp
 induction fuel with
 | zero =>
  intro l σ a w hl hno hdn hf h hI
  refine over 0 l σ a w hl hno hdn hf h hI fun i hi _=>?_
  apply amo
  intro hn
  have:=pJ (l:=l) (i:=i) (by omega) hn
  omega
 | succ fuel ih =>
  intro l σ a w hl hno hdn hf h hI
  by_cases hdone:∀ i,i < pre.length → i ∉ nD → Dn l i
  ·exact over (fuel + 1) l σ a w hl hno hdn hf h hI hdone
  ·have:∃ i,i < pre.length ∧ i ∉ nD ∧ ¬ Dn l i:=by
    apply amo
    intro hc
    exact hdone fun i hi hif=>amo fun hn=>hc ⟨i,hi,hif,hn⟩
   obtain ⟨i0,hi0,ahl,hn0⟩:=this
   rw [mg]
   refine ⟨fun hn=>absurd hn (ru hD hl (by omega) hn0),fun i hi=>?_⟩
   obtain ⟨hi1,hi2,hi3⟩:=(iq hl).mp hi
   have him:i < pre.length:=by
    apply amo
    intro hge
    rcases hD.tl i (by omega) hi1 i0 (by omega) with hb | ⟨_,hb,_⟩
    ·exact hn0 (hdn.bef hD hb (fun _=>hi3))
    ·exact ahl hb
   obtain ⟨pv,σ1,h1,h2⟩:=aa3 hD hall hfr hI hl hdn him hi1 hi2 hi3
   unfold wpOp
   rw [al9 hi1]
   have hg:=hcg.2 i (by simpa using hi1) (by simp;omega)
   rw [List.getElem_append_left (by simpa using him)] at hg
   simp only [amP,Array.getElem_toList] at hg
   refine yR heq mV hC hg h h1 fun a' w' h'=>?_
   refine ih _ _ a' w' (by simp [hl]) (fun j hj hd=>?_) (q9 hdn hl hi1 hi3) ?_ h' h2
   ·rcases (Dn.set (by omega)).mp hd with rfl | hd
    ·omega
    ·exact hno j hj hd
   ·have:=pJ (l:=l) (i:=i) (by omega) hi2
    omega
theorem XE {id:Nat} (hm:P.follows .mixedOrders = true) (hD:NZ ops pre nD kJ rest) (heq:∀ t ∈ X.eqs,mI P t) (mV:jg P Γ) (hC:fE P Γ) (hc:kX P X ops N.ok ops.toList = some (pre.map (·.1) ++ (kJ ++ rest))) (h:Ok bK w0 bJ N jo σ a w) (hE:ZI Γ pre nD kJ rest σ = some σ')
  (hQ:∀ a' w',Ok bK w0 bJ N jo σ' a' w' → Q .normal a' w'):(Code.region id ops true).wp P Q a w:=by
 refine wp_region_any hm ?_
 unfold ZI at hE
 split at hE
 ·rename_i hfr
  obtain ⟨s,h1,h2⟩:=zbm hE
  split at h2
  ·rename_i RS
   obtain ⟨ob,h3,h4⟩:=zbm h2
   obtain ⟨e1,e2,news,e3,e4⟩:=Fp (Γ:=Γ) (tO:=σ.ob) (pre:=pre) (Bq:=σ.tm) pre.length 0 σ.ob s (by omega) (by rw [amG];exact h1)
   have hall:∀ j,j < pre.length → ∃ pv st,Can Γ σ.ob pre σ.tm j pv st:=fun j hj=>e1 j (by omega) hj
   have aa5:∀ i (h:i < pre.length),kK pre[i].1.i = true → fresh σ (dY (pre[i].1.dst.getD 999)) = true:=by
    intro i hi hN
    have:=alY.mp hfr pre[i] (List.getElem_mem hi)
    rw [hN] at this
    exact this
   have hoff:∀ i,¬ Dn (Array.replicate ops.size false) i:=by
    intro i hd
    unfold Dn at hd
    rw [amq,Array.getElem?_replicate] at hd
    split at hd <;> simp at hd
   rw [e2] at RS h3 h4
   refine XD (gJ:=σ) hD heq mV hC hc hQ hall aa5 rfl e3 (fun p hp=>?_) RS h3 h4 ops.size _ σ a _ (by simp) (fun i _=>hoff i) (fun i hi hd=>absurd hd (hoff i)) ?_ ?_ ⟨fun i pv st h hd=>absurd hd (hoff i),fun s _=>rfl,⟨[],rfl,fun p hp=>by simp at hp⟩,fun i pv st h hd=>absurd hd (hoff i),fun i hi hN _=>aa5 i hi hN⟩
   ·obtain ⟨j,pv,st,_,_,h5,h6,h7⟩:=e4 p hp
    exact ⟨j,pv,st,h5,h6,h7⟩
   ·unfold left
    exact alU (List.length_filter_le _ _) (by simp)
   ·obtain ⟨Fz,κ,hr,hk⟩:=h
    exact ⟨Fz,κ,hr.grow (w':={ w with drawn:=w.drawn + 1 }) (alC _) (fun _ _=>rfl) ⟨rfl,rfl⟩,hk⟩
  ·cases h2
 ·cases hE
end
end
section
open Go
def Ext (w w':World):Prop:=w.heap.size ≤ w'.heap.size ∧ ∀ b,b < w.heap.size → w'.heap[b]? = w.heap[b]?
theorem Ext.refl (w:World):Ext w w:=⟨alC _,fun _ _=>rfl⟩
theorem Ext.trans {w w1 w2:World} (h:Ext w w1) (h':Ext w1 w2):Ext w w2:=⟨alU h.1 h'.1,fun b hb=>(h'.2 b (amk hb h.1)).trans (h.2 b hb)⟩
theorem Ext.cell {w w':World} (h:Ext w w') {b o:Nat} {v:Value} (hc:w.cell? ⟨b,o,none⟩ = some v):w'.cell? ⟨b,o,none⟩ = some v:=by
 have hb:b < w.heap.size:=by
  apply amo
  intro hn
  have:w.heap[b]? = none:=amL (by omega)
  simp [World.cell?,this] at hc
 rw [cell_of (h.2 b hb),hc]
section
variable {P : Program} {Γ:Env} {bK Fz:Nat → Prop} {w0 w:World} {bJ:List Nat} {N:Fr} {d:Nat} {q:Bool} {κ:Nat → Value} {σ σ':St} {a:Act} {pv:PV} {o:Oper}
theorem rA {t:TypeId} {g:Bool} {n b o:Nat} {xs:List PL} {vs:List Value} {u:CV} (hg:wN P t = some g) (hn:mU P t = some n) (hx:bG Fz κ w xs vs) (hc:∀ j v,vs[j]? = some v → w.cell? ⟨b,o + j,none⟩ = some v)
  (hl:vs.length = if g then n else 1) (hm:mk g xs = some u):∃ v,(∀ w',Ext w w' → (loadVar t ⟨b,o,none⟩).run P w' = .ok v w') ∧ gX Fz κ w u v:=by
 unfold loadVar
 cases g with
 | true =>
  cases hm
  refine ⟨.agg vs.toArray,fun w' hw=>?_,vs.toArray,rfl,hx⟩
  have:=xO (P:=P) (w:=w') b o vs (fun j v h=>hw.cell (hc j v h))
  rw [hl,alx rfl] at this
  simp only [Sem.run_bind,nL hg,oW hn,this,Result.andThen_ok,ama,Sem.run_pure]
 | false =>
  simp only [mk,al4,alV] at hm
  split at hm
  ·rename_i x
   cases hm
   cases vs with
   | nil=>exact hx.elim
   | cons v vs =>
    have h1:=hc 0 v rfl
    rw [Nat.add_zero] at h1
    refine ⟨v,fun w' hw=>?_,hx.1⟩
    simp only [Sem.run_bind,nL hg,Result.andThen_ok,al4,alV]
    rw [run_load,hw.cell h1]
  ·cases hm
theorem N8 (h:Rel bK w0 bJ N Fz κ σ a w) {t:TypeId} {x:Operand} {x':eX} {g:Bool} {n:Nat} (hg:wN P t = some g) (hn:mU P t = some n) (hx:gD x = some x') (hE:dL Γ q σ d (.load (if g then n else 1) g x') = some (pv,σ')) :
  σ' = σ ∧ ∃ v,(∀ w',Ext w w' → (Instr.loadAt t (a.eval x)).run P w' = .ok v w') ∧ jc Fz κ w pv v:=by
 obtain ⟨v,h1,h2⟩:=zbm hE
 have hv:=h.eval hx h1
 split at h2
 ·rename_i key off
  split at h2
  ·rename_i xs gY
   obtain ⟨l,h3,h4⟩:=zbm h2
   obtain ⟨u,h5,h6⟩:=zmm h4
   cases h6
   obtain ⟨b,e1,e2⟩:=hv
   obtain ⟨b',cs,e,e3,e4,e5⟩:=h.obj gY
   rw [e1] at e3
   cases e3
   obtain ⟨e6,e7,e8⟩:=e5.seg h3
   obtain ⟨r,e9,e10⟩:=rA (P:=P) (b:=b) (o:=off) hg hn e6 (fun j v hj=>by
    have:=l9 (w:=w) (b:=b) (o:=0) (off:=off) (vs:=cs.toList) (n:=if g then n else 1) (fun j v hj=>by
     rw [amc]
     simp only [World.cell?,e4]
     simpa using hj) j v hj
    rwa [amc] at this) e7 h5
   exact ⟨rfl,r,fun w' hw=>by rw [e2];exact e9 w' hw,e10⟩
  ·cases h2
 ·rename_i cs
  obtain ⟨l,h3,h4⟩:=zbm h2
  obtain ⟨u,h5,h6⟩:=zmm h4
  cases h6
  obtain ⟨b,o,e1,e2,e3⟩:=hv
  obtain ⟨vs,e4,e5⟩:=e3.cells
  obtain ⟨e6,e7,e8⟩:=e4.seg h3
  obtain ⟨r,e9,e10⟩:=rA (P:=P) (b:=b) (o:=o) hg hn (e6.ZK (κ:=κ)) (fun j v hj=>by
    have:=l9 (w:=w) (b:=b) (o:=o) (off:=0) e5 j v hj
    rwa [Nat.add_zero] at this) e7 h5
  exact ⟨rfl,r,fun w' hw=>by rw [e1];exact e9 w' hw,e10⟩
 ·rename_i key z i off
  split at h2
  ·rename_i sz rows gY
   split at h2
   ·cases h2
   ·rename_i hz
    obtain ⟨rr,h3,h4⟩:=zbm h2
    obtain ⟨l,h5,h6⟩:=zbm h4
    obtain ⟨u,h7,h8⟩:=zmm h6
    cases h8
    obtain ⟨b,n',c,e1,e2⟩:=hv
    obtain ⟨e3,vs,e4,e5⟩:=JC (h.obj gY) e1 h3
    have hz':sz = z:=aml.mp hz
    subst hz'
    obtain ⟨e6,e7,e8⟩:=e4.seg h5
    obtain ⟨r,e9,e10⟩:=rA (P:=P) (b:=b) (o:=i * sz + off) hg hn (e6.ZK (κ:=κ)) (l9 e5) e7 h7
    exact ⟨rfl,r,fun w' hw=>by rw [e2];exact e9 w' hw,e10⟩
  ·cases h2
 ·cases h2
theorem N9 (h:Rel bK w0 bJ N Fz κ σ a w) {x:Operand} {x':eX} (hx:gD x = some x') (hE:dL Γ q σ d (.nC x') = some (pv,σ')) (ho:o.op = .nilCheck x) :
  σ' = σ ∧ ∃ v,(∀ w',(execOp a.eval o).run P w' = .ok (.value v) w') ∧ jc Fz κ w pv v:=by
 obtain ⟨v,h1,h2⟩:=zbm hE
 have hv:=h.eval hx h1
 have key:∀ ad,a.eval x = .pointer (some ad) → σ' = σ → pv = .c v → σ' = σ ∧ ∃ v,(∀ w',(execOp a.eval o).run P w' = .ok (.value v) w') ∧ jc Fz κ w pv v:=by
  intro ad he e1 e2
  subst e1 e2
  refine ⟨rfl,.pointer (some ad),fun w'=>?_,by rw [← he];exact hv⟩
  unfold execOp
  simp only [ho,he]
  rfl
 split at h2
 ·cases h2;obtain ⟨b,_,e⟩:=hv;exact key _ e rfl rfl
 ·cases h2;obtain ⟨b,_,e,_⟩:=hv;exact key _ e rfl rfl
 ·cases h2;obtain ⟨b,_,_,_,e⟩:=hv;exact key _ e rfl rfl
 ·cases h2
theorem XF (h:Rel bK w0 bJ N Fz κ σ a w) {op:BinOp} {c:Ar} {t:TypeId} {x y:Operand} {x' y':eX} (ho:ZJ op = some c) (hx:gD x = some x') (hy:gD y = some y') (hE:dL Γ q σ d (.ar c x' y') = some (pv,σ')) :
  σ' = σ ∧ ∃ v,(∀ w',(do eqGuard op t x y (a.eval x) (a.eval y);binOp op t (a.eval x) (a.eval y):Sem Value).run P w' = .ok v w') ∧ jc Fz κ w pv v:=by
 obtain ⟨u,h1,h2⟩:=zbm hE
 obtain ⟨v,h3,h4⟩:=zbm h2
 obtain ⟨m,h5,h6⟩:=zbm h4
 obtain ⟨n,h7,h8⟩:=zbm h6
 split at h8
 ·rename_i hk
  obtain ⟨r,h9,h10⟩:=zbm h8
  cases h10
  have e1:=iT h5 (h.eval hx h1)
  have e2:=iT h7 (h.eval hy h3)
  obtain ⟨k,m⟩:=m
  obtain ⟨k',n⟩:=n
  simp only at hk e1 e2 h9
  subst hk
  refine ⟨rfl,.int k r,fun w'=>?_,rfl⟩
  rw [e1,e2]
  exact kS oV (BR ho h9)
 ·cases h8
theorem XG (h:Rel bK w0 bJ N Fz κ σ a w) {t e:TypeId} {sz:Nat} {x y:Operand} {x' y':eX} (hu:Vp P t = some e) (hn:mU P e = some sz) (hx:gD x = some x') (hy:gD y = some y') (hE:dL Γ q σ d (.ia sz x' y') = some (pv,σ')) :
  σ' = σ ∧ ∃ v,(∀ w',(Instr.indexAt t (a.eval x) (a.eval y)).run P w' = .ok v w') ∧ jc Fz κ w pv v:=by
 obtain ⟨v,h1,h2⟩:=zbm hE
 obtain ⟨j,h3,h4⟩:=zbm h2
 obtain ⟨p,h5,h6⟩:=zbm h4
 have hv:=h.eval hx h1
 have hj:=iT h5 (h.eval hy h3)
 have run:∀ b o len c,a.eval x = .slice (some ⟨b,o,none⟩) len c → 0 ≤ p.2 → p.2 < len → ∀ w',(Instr.indexAt t (a.eval x) (a.eval y)).run P w' = .ok (.pointer (some ⟨b,o + p.2.toNat * sz,none⟩)) w':=by
  intro b o len c he h0 hl w'
  rw [he,hj]
  unfold Instr.indexAt
  simp only [Sem.run_bind,jw,run_underlying (zw hu),Result.andThen_ok,Sem.run_pure]
  simp only [alx (And.intro h0 hl),Sem.run_bind,oW hn,Result.andThen_ok,Sem.run_pure,nT]
 split at h6
 ·rename_i h0
  split at h6
  ·rename_i rows
   obtain ⟨r,h7,h8⟩:=zbm h6
   split at h8
   ·rename_i hl
    cases h8
    simp only [gX,fD,fU] at hv
    obtain ⟨A,c,e1,e2,e3,e4⟩:=hv
    rcases e4 with e4 | ⟨b,o,sz',rfl,e5,e6⟩
    ·subst e4;simp at h7
    ·obtain ⟨e7,e8⟩:=e6.get h7
     have hlt:p.2.toNat < rows.length:=(amm.mp h7).1
     have:sz' = sz:=by omega
     subst this
     exact ⟨rfl,_,run b o _ c e1 h0 (by omega),b,_,rfl,e5,e8⟩
   ·cases h8
  ·rename_i key n
   split at h6
   ·rename_i sz' rows gY
    split at h6
    ·rename_i hc
     cases h6
     obtain ⟨e1,A,c,e2⟩:=hv
     obtain ⟨h00,e,inner,A',c',e3,e4,e5⟩:=h.obj gY
     obtain ⟨e6,e7⟩:=e4
     rcases e7 with ⟨e7,e8⟩ | ⟨g,cap,cur,e7,e8⟩
     ·exfalso
      rw [hc.2.2,e8] at hc
      have:=hc.2.1
      omega
     ·rw [e2] at e1
      rw [e7] at e1
      injection e1 with e9 e10 e11
      subst e9
      refine ⟨rfl,_,run g 0 n c e2 h0 hc.2.1,g,_,_,e7,?_⟩
      simp
    ·cases h6
   ·cases h6
  ·cases h6
 ·cases h6
end
section
variable {P : Program} {ops:Array Oper} {Q:Exit → Act → World → Prop} {M:Nat → Bool} {S:World → Prop}
def XH (P:Program) (ops:Array Oper) (Q:Exit → Act → World → Prop) (M:Nat → Bool) (S:World → Prop):Nat → Array Bool → Act → World → Prop
 | 0,l,a,w=>Region.ready .any ops l = [] ∧ Q .normal a w
 | n + 1,l,a,w=>(Region.ready .any ops l = [] → Q .normal a w) ∧ ∀ i ∈ Region.ready .any ops l,wpOp P ops Q i (fun a' w'=>(M i = true → S w → S w') ∧ XH P ops Q M S n (l.setIfInBounds i true) a' w') a w
theorem JV : ∀ (n:Nat) (l:Array Bool) (a:Act) (w:World),XH P ops Q M S n l a w → wpAny P .any ops Q n l a w
 | 0,_,_,_,h=>h
 | n + 1,_,_,_,h=>⟨h.1,fun i hi=>wpOp_mono (fun a' w' h'=>JV n _ a' w' h'.2) (h.2 i hi)⟩
theorem LC {i:Nat} {oi:Oper} {v:Value} (hi:ops[i]? = some oi) (hsel:∀ (j:Nat) (o:Oper) cs b,ops[j]? = some o → o.op ≠ .select cs b) (hQ:∀ c a w,¬ Q (.panic c) a w)
  (hM:∀ l j,l.size = ops.size → Down ops l → j ∈ Region.ready .any ops l → ¬ Dn l i → j ≠ i → M j = true) :
  ∀ (n:Nat) (l:Array Bool) (a:Act) (w:World),l.size = ops.size → Down ops l → (∀ j oj,ops[j]? = some oj → j ≠ i → l.getD j true = false → (∀ e ∈ oj.after,Region.binds .any e = true → e.on ≠ i) → oi.apart ops oj = true) →
   i ∈ Region.ready .any ops l → YieldsIf P ops S oi v a → S w → XH P ops Q M S n (l.setIfInBounds i true) (a.put oi.dst v) w → XH P ops Q M S (n + 1) l a w:=by
 intro n
 induction n with
 | zero =>
  intro l a w _ _ _ hr hy hS H
  refine ⟨fun h=>(by rw [h] at hr;cases hr),fun j hj=>?_⟩
  by_cases hji:j = i
  ·subst hji;exact hy.wpOp hi hS ⟨fun _ _=>hS,H⟩
  ·have:=ready_mono hj hji
   rw [H.1] at this
   cases this
 | succ n ih =>
  intro l a w hl hdn hfree hr hy hS H
  refine ⟨fun h=>(by rw [h] at hr;cases hr),fun j hj=>?_⟩
  by_cases hji:j = i
  ·subst hji;exact hy.wpOp hi hS ⟨fun _ _=>hS,H⟩
  ·have h1:=H.2 j (ready_mono hj hji)
   obtain ⟨hjun,oj,hoj,hall⟩:=mem_ready.1 hj
   have hnot:∀ e ∈ oj.after,Region.binds .any e = true → e.on ≠ i:=fun e he hb heq=>by
    have h1:=hall e he hb
    have h0:=(mem_ready.1 hr).1
    rw [heq] at h1
    rcases amV i l.size with h' | h'
    ·simp [h'] at h0 h1;rw [h0] at h1;cases h1
    ·simp [amL h'] at h1
   have hap:=hfree j oj hoj hji hjun hnot
   obtain ⟨hj1,hj2,hj3⟩:=(iq hl).mp hj
   have hMj:=hM l j hl hdn hj ((iq hl).mp hr).2.1 hji
   have h2:=wpOp_putIf hoj hap (fun cs b=>hsel i oi cs b hi) (fun cs b=>hsel j oj cs b hoj) (fun c a w h=>absurd h (hQ _ _ _)) hy h1
   have hfree':∀ k ok,ops[k]? = some ok → k ≠ i → (l.setIfInBounds j true).getD k true = false → (∀ e ∈ ok.after,Region.binds .any e = true → e.on ≠ i) → oi.apart ops ok = true:=fun k ok hk hki hun hno=>by
    refine hfree k ok hk hki ?_ hno
    by_cases hjk:j = k
    ·subst hjk;exact hjun
    ·rw [getD_set_ne true hjk] at hun;exact hun
   refine wpOp_mono (fun a' w' h3=>⟨fun _ _=>h3.2.1 hMj hS,ih (l.setIfInBounds j true) a' w' (by simp [hl]) (q9 hdn hl hj1 hj3) hfree' (ready_mono hr (Ne.symm hji)) h3.1 (h3.2.1 hMj hS) ?_⟩) h2
   rw [Array.setIfInBounds_comm _ _ hji]
   exact h3.2.2
theorem Io {i:Nat} {o:Oper} {e:TypeId} {z:List PL} (hi:ops[i]? = some o) (ho:o.op = .alloc e) (hz:Dr P e = some z) {w1:World} {K:Act → World → Prop} {a:Act} {w:World} (h:wpOp P ops Q i K a w) :
  wpOp P ops Q i (fun a' w'=>(Ext w1 w → Ext w1 w') ∧ K a' w') a w:=by
 unfold wpOp at *
 simp only [hi] at *
 split
 ·rename_i hw
  rw [alx hw] at h
  rcases h with h | h
  ·refine .inl ?_
   unfold Oper.wp at *
   have hr:∃ v x,(execOp a.eval o).run P w = .ok (.value v) (w.alloc x):=by
    obtain ⟨i,h3,h4⟩:=zbm hz
    obtain ⟨zv,h5,h6⟩:=zbm h4
    unfold execOp
    simp only [ho]
    unfold Instr.alloc
    simp only [Sem.run_bind,zeroValue,typeInfo]
    simp [h3,h5,newVar,newRow]
    exact ⟨_,rfl⟩
   obtain ⟨v,x,hr⟩:=hr
   rw [hr] at h ⊢
   simp only [Oper.upon] at h ⊢
   obtain ⟨_,g1,g2⟩:=nM w x
   exact ⟨fun hx=>hx.trans ⟨by omega,g1⟩,h⟩
  ·exact .inr h
 ·rename_i hw
  rw [aly hw] at h
  exact ⟨id,h⟩
end
end
section
open Go
def kE : List (List Nat) → List (List Nat) → List (List Nat)
 | acc,[]=>acc
 | acc,es :: l=>kE (acc ++ [(List.range acc.length).filter fun x=>es.any fun e=>e == x || (acc.getD e []).contains x]) l
def DX : List G → Nat
 | []=>0
 | g :: l=>if RN g.i || (kK g.i && g.gd.isNone) then DX l + 1 else 0
def XI {α:Type} (n:Nat) (k:Nat → α):α:=match n with
 | 0=>k 0
 | j + 1=>k (j + 1)
theorem Ip {α:Type} {n:Nat} {k:Nat → α}:XI n k = k n:=by cases n <;> rfl
def aa6 : Nat → List (List Nat) → Nat
 | i,[]=>i
 | i,es :: l=>XI (aa6 (i + 1) l) fun r=>if r == i + 1 && es.length == i then i else r
def aa7 (C:List (List Nat)) (gs:List G):Nat:=min (DX gs) (aa6 0 C)
def Oa (gs:List G) (C:List (List Nat)) (m j:Nat):List Nat:=((List.range m).filter fun i=>i != j && kK (gs.getD i default).i && !(C.getD j []).contains i).map fun i=>dY ((gs.getD i default).dst.getD 999)
def Vu : List G → Nat
 | []=>0
 | g :: l=>if isLt g then Vu l + 1 else 0
def aa8 (C:List (List Nat)) (m nl:Nat):List Nat:=(List.range m).filter fun j=>(List.range nl).any fun t=>!(C.getD (m + t) []).contains j
def ahm (nD:List Nat) (n:Nat):Nat:=if nD.isEmpty then 0 else n
def XJ (E C:List (List Nat)) (gs:List G) (n m:Nat) (nD:List Nat) (nl:Nat):Bool :=
 (List.range n).all (fun i=>(E.getD i []).all (· < i)) &&
 (List.range m).all (fun i=>(rd (gs.getD i default)).all fun s=>(List.range m).all fun j=>!((gs.getD j default).dst == some s) || (E.getD i []).contains j) &&
 (List.range m).all (fun i=>(List.range m).all fun j=>i == j || (gs.getD i default).dst.isNone || !((gs.getD i default).dst == (gs.getD j default).dst)) &&
 (List.range m).all (fun i=>RN (gs.getD i default).i || (kK (gs.getD i default).i && (gs.getD i default).gd.isNone)) &&
 (List.range n).all (fun k=>k < m || (List.range k).all fun j=>(C.getD k []).contains j || (j < m && nD.contains j && k < m + nl)) &&
 nD.all (fun j=>RN (gs.getD j default).i) &&
 ((gs.drop m).take nl).all isLt &&
 (List.range nl).all (fun t=>(rd (gs.getD (m + t) default)).all fun s=>(List.range m).all fun j=>!((gs.getD j default).dst == some s) || (E.getD (m + t) []).contains j)
structure Hi where
 ks:List Nat
 Di:List Nat
 rws:List (Nat × Nat)
def aa9 (k:Array Bool → Option (List (List Nat))) (l:Array Bool):List Nat → Option (List (List Nat))
 | []=>some []
 | i :: is=>(k (l.setIfInBounds i true)).bind fun a=>(aa9 k l is).map fun b=>a.map (i :: ·) ++ b
def Oc (ops:Array Oper) (i:Nat):Bool:=match ops[i]? with
 | some o=>(match o.op with
  | .move _=>true
  | .assign _=>true
  | .fieldAddr _ _ _=>true
  | .build _ _=>true
  | .extract _ _=>true
  | _=>false)
 | none=>false
def exts (ops:Array Oper):Nat → Array Bool → Option (List (List Nat))
 | 0,l=>if Region.ready .any ops l = [] then some [[]] else none
 | n + 1,l=>match Region.ready .any ops l with
  | []=>some [[]]
  | i :: is=>match (i :: is).find? (fun j=>Oc ops j && Region.free .any ops l j) with
   | some j=>(exts ops n (l.setIfInBounds j true)).map fun a=>a.map (j :: ·)
   | none=>aa9 (exts ops n) l (i :: is)
def abb : Nat → List Nat → Nat
 | i,[]=>i
 | i,j :: l=>if i == j then abb (i + 1) l else i
def Fw (C:List (List Nat)):Nat → Nat → Nat
 | 0,_=>C.length
 | n + 1,k=>XI (Fw C n (k + 1)) fun r=>XI (abb 0 (C.getD k [])) fun p=>if p < k then min p r else r
def JW (E C:List (List Nat)) (n h:Nat):Bool:=(List.range n).all (fun i=>(E.getD i []).all (· < i)) && (List.range n).all fun k=>(C.getD k []).take (min k h) == List.range (min k h)
def mask (h n:Nat):Array Bool:=(List.replicate h true ++ List.replicate (n - h) false).toArray
def Od (ops:Array Oper):Option (List (List Nat)) :=
 let E:=ops.toList.map jq
 let C:=kE [] E
 XI (Fw C ops.size 0) fun h=>if h ≤ ops.size ∧ JW E C ops.size h = true then (exts ops (ops.size - h) (mask h ops.size)).map fun a=>a.map (List.range h ++ ·) else none
def RU (ops:Array Oper) (i:Nat):Bool:=Oc ops i || match ops[i]? with
 | some o=>(match o.op with
  | .load _ _=>true
  | .nilCheck _=>true
  | .binOp .sub _ _ _ _=>true
  | .indexAddr _ _ (.tmp _)=>true
  | _=>false)
 | none=>false
def Iq (ops:Array Oper) (i:Nat):Bool:=match ops[i]? with
 | some o=>(match o.op with
  | .alloc _=>true
  | _=>false)
 | none=>false
def Oe (ops:Array Oper):Nat → Nat → Nat
 | 0,i=>i
 | n + 1,i=>if RU ops i then Oe ops n (i + 1) else i
def Ir (E C:List (List Nat)) (ops:Array Oper) (h:Nat):Bool:=(List.range ops.size).all (fun i=>(E.getD i []).all (· < i)) && ((List.range h).all (fun i=>RU ops i && Region.free .any ops (mask i ops.size) i) && (List.range ops.size).all fun k=>decide (k < h) || Iq ops k || (C.getD k []).take h == List.range h)
def Og (ops:Array Oper):Option (List (List Nat)) :=
 let E:=ops.toList.map jq
 let C:=kE [] E
 XI (Oe ops ops.size 0) fun h=>if h ≤ ops.size ∧ Ir E C ops h = true then (exts ops (ops.size - h) (mask h ops.size)).map fun a=>a.map (List.range h ++ ·) else none
def abd (P:Program) (X:Hx) (N:Nat → Bool) (ops:Array Oper) (draw:Bool) (ks Di:List Nat):Option CC :=
 (kX P X ops N ops.toList).bind fun gs=>match draw with
  | false=>some (.reg gs ks)
  | true=>match Di with
   | 0 :: _=>if Region.noSelect ops then (Og ops).map fun o=>.any gs o ks Di else none
   | _ :: _=>if Region.noSelect ops then (Od ops).map fun o=>.any gs o ks Di else none
   | [] =>
   let E:=ops.toList.map jq
   let C:=kE [] E
   XI (aa7 C gs) fun m =>
   let nl0:=Vu (gs.drop m)
   let nD:=aa8 C m nl0
   let nl:=ahm nD nl0
   if XJ E C gs ops.size m nD nl then some (.qc ((List.range m).map fun j=>(gs.getD j default,Oa gs C m j)) nD ((gs.drop m).take nl) ((gs.drop m).drop nl) ks) else none
def comp (P:Program) (X:Hx) (N:Nat → Bool):Code → List Hi → Option (CC × List Hi)
 | .skip,h=>some (.skip,h)
 | .region _ ops draw,h=>match h with
  | []=>none
  | k :: h=>(abd P X N ops draw k.ks k.Di).map fun c=>(c,h)
 | .seq x y,h=>(comp P X N x h).bind fun p=>(comp P X N y p.2).map fun r=>(.seq p.1 r.1,r.2)
 | .cond c x y,h=>(gD c).bind fun o=>(comp P X N x h).bind fun p=>(comp P X N y p.2).map fun r=>(.cond o p.1 r.1,r.2)
 | .block id c,h=>(comp P X N c h).map fun p=>(.block id p.1,p.2)
 | .loop c,h=>match h with
  | []=>none
  | k :: h=>(comp P X N c h).map fun p=>(.loop k.ks k.Di k.rws p.1,p.2)
 | .exit id,h=>some (.exit id,h)
 | .ret,h=>some (.ret,h)
 | .scope c,h=>comp P X N c h
 | .label _,h=>some (.skip,h)
 | _,_=>none
section
variable {P : Program} {Γ:Env} {bK:Nat → Prop} {w0 w w':World} {bJ:List Nat} {N:Fr} {F:Nat} {jo:Nat → Value} {σ gJ σ':St} {a:Act} {X:Hx} {ops:Array Oper} {gs:List G} {Q:Exit → Act → World → Prop}
theorem zK : ∀ (l acc:List (List Nat)),(∀ j,∀ x ∈ acc.getD j [],LB ops x j) → (∀ k,k < l.length → ∃ h:acc.length + k < ops.size,l[k]? = some (jq ops[acc.length + k])) → ∀ j,∀ x ∈ (kE acc l).getD j [],LB ops x j
 | [],acc,h,_=>h
 | es :: l,acc,h,hl=>by
  unfold kE
  obtain ⟨h0,h1⟩:=hl 0 (by simp)
  simp only [List.getElem?_cons_zero,alI,Nat.add_zero] at h1
  refine zK l _ (fun j x hx=>?_) (fun k hk=>?_)
  ·rw [al8,anx] at hx
   split at hx
   ·rename_i hj
    exact h j x (by rw [al8];exact hx)
   ·by_cases hj:j - acc.length = 0
    ·have hje:j = acc.length:=by omega
     subst hje
     simp only [Nat.sub_self,List.getElem?_cons_zero,Option.getD_some] at hx
     obtain ⟨_,hx⟩:=am4.mp hx
     obtain ⟨e,he,hor⟩:=amF.mp hx
     rw [h1] at he
     rw [amv] at hor
     rcases hor with hor | hor
     ·have:e = x:=by simpa using hor
      subst this
      exact .dir h0 he
     ·exact .step h0 he (h e x (by simpa using hor))
    ·rw [am0 (by simp;omega)] at hx
     simp at hx
  ·obtain ⟨h2,h3⟩:=hl (k + 1) (by simpa using hk)
   simp only [alX,List.length_cons,List.length_nil]
   refine ⟨by omega,?_⟩
   simp only [List.getElem?_cons_succ] at h3
   rw [h3]
   congr 3
   omega
theorem Ci : ∀ (gs:List G),DX gs ≤ gs.length
 | []=>alC _
 | g :: l=>by
  unfold DX
  have:=Ci l
  split <;> simp <;> omega
theorem RV (C:List (List Nat)) (gs:List G):aa7 C gs ≤ gs.length:=by
 exact alU (Nat.min_le_left _ _) (Ci gs)
theorem LD {nD:List Nat} {nl m:Nat} (hm:m ≤ gs.length) (h:kX P X ops N.ok ops.toList = some gs) (hb:XJ (ops.toList.map jq) (kE [] (ops.toList.map jq)) gs ops.size m nD nl = true) :
  NZ ops ((List.range m).map fun j=>(gs.getD j default,Oa gs (kE [] (ops.toList.map jq)) m j)) nD ((gs.drop m).take nl) ((gs.drop m).drop nl) ∧
  ((List.range m).map fun j=>(gs.getD j default,Oa gs (kE [] (ops.toList.map jq)) m j)).map (·.1) ++ ((gs.drop m).take nl ++ (gs.drop m).drop nl) = gs:=by
 obtain ⟨hlen,_⟩:=jA h
 rw [Array.length_toList] at hlen
 unfold XJ at hb
 simp only [alN] at hb
 obtain ⟨⟨⟨⟨⟨⟨⟨b1,b2⟩,b3⟩,b4⟩,b5⟩,b6⟩,b7⟩,b8⟩:=hb
 have hE:∀ i (hi:i < ops.size),(ops.toList.map jq).getD i [] = jq ops[i]:=by
  intro i hi
  rw [al8,alG,amR,al9 hi]
  rfl
 have hC:∀ j,∀ x ∈ (kE [] (ops.toList.map jq)).getD j [],LB ops x j:=zK _ _ (fun j x hx=>by simp at hx) (fun k hk=>by
  have hk':k < ops.size:=by simpa using hk
  refine ⟨by simpa using hk',?_⟩
  rw [alG,amR,al9 hk']
  simp)
 refine ⟨⟨?_,fun i hi e he=>?_,fun i hi hi' s hs j hj hjs=>?_,fun i j hi hj hne s h1 h2=>?_,fun i hi=>?_,fun i j hi hj hne hN=>?_,fun k h1 h2 j hj=>?_,fun j hj h=>?_,fun g hg=>alY.mp b7 g hg,fun t ht ht' s hs j hj hjs=>?_⟩,?_⟩
 ·simp only [alA,am2,al5,alP]
  omega
 ·have:=alY.mp b1 i (amh.mpr hi)
  rw [hE i hi] at this
  have:=alY.mp this e he
  simpa using this
 ·simp only [alA,am2] at hi hj
  simp only [amP,anm] at hs hjs
  have:=alY.mp b2 i (amh.mpr hi)
  have:=alY.mp this s hs
  have:=alY.mp this j (amh.mpr hj)
  rw [hjs,hE i hi'] at this
  simpa using this
 ·simp only [alA,am2] at hi hj
  simp only [amP,anm] at h1 h2
  have:=alY.mp b3 i (amh.mpr hi)
  have:=alY.mp this j (amh.mpr hj)
  rw [h1,h2] at this
  simp [hne] at this
 ·simp only [alA,am2] at hi
  have:=alY.mp b4 i (amh.mpr hi)
  simp only [amP,anm]
  rw [amv,alN] at this
  rcases this with h | h
  ·exact .inl h
  ·exact .inr ⟨h.1,by simpa using h.2⟩
 ·simp only [alA,am2] at hi hj
  simp only [amP,anm] at hN ⊢
  cases hcc:((kE [] (ops.toList.map jq)).getD j []).contains i with
  | true=>exact .inr (hC j i (by simpa using hcc))
  | false =>
   left
   unfold Oa
   refine al6.mpr ⟨i,am4.mpr ⟨amh.mpr hi,?_⟩,rfl⟩
   rw [hN,hcc]
   simp [hne]
 ·simp only [alA,am2] at h1 ⊢
  have:=alY.mp b5 k (amh.mpr h2)
  rw [amv] at this
  rcases this with h | h
  ·have:k < m:=by simpa using h
   omega
  ·have:=alY.mp h j (amh.mpr hj)
   rw [amv,alN,alN] at this
   rcases this with h | ⟨⟨g1,g2⟩,g3⟩
   ·exact .inl (hC k j (by simpa using h))
   ·refine .inr ⟨by simpa using g1,by simpa using g2,?_⟩
    have g3':k < m + nl:=by simpa using g3
    simp only [alP,al5]
    omega
 ·simp only [alA,am2] at h
  simp only [amP,anm]
  exact alY.mp b6 j hj
 ·simp only [alA,am2] at hj ht' ⊢
  simp only [alP,al5] at ht
  simp only [amP,anm] at hjs
  have h1:=alY.mp b8 t (amh.mpr (by omega))
  have hgt:((gs.drop m).take nl)[t]'(by simp only [alP,al5];omega) = gs.getD (m + t) default:=by
   rw [List.getElem_take,List.getElem_drop,al8,alT (by omega)]
   rfl
  rw [hgt] at hs
  have h2:=alY.mp h1 s hs
  have h3:=alY.mp h2 j (amh.mpr hj)
  rw [hjs,hE _ ht'] at h3
  simpa using h3
 ·rw [List.map_map]
  have:((List.range m).map ((fun x:G × List Nat=>x.1) ∘ fun j=>(gs.getD j default,Oa gs (kE [] (ops.toList.map jq)) m j))) = gs.take m:=by
   refine List.ext_getElem (by simp;omega) fun i h1 h2=>?_
   simp only [alA,am2] at h1
   simp only [amP,anm,Function.comp,List.getElem_take]
   rw [al8,alT (by omega)]
   rfl
  rw [this,ank,ank]
def DY : Out → Exit
 | .jP=>.normal
 | .ext id=>.exit id
 | .ret=>.ret
theorem Rel.put' {Fz:Nat → Prop} {κ:Nat → Value} (h:Rel bK w0 bJ N Fz κ σ a w) {d:Nat} {pv:PV} (hv:jc Fz κ w pv (a.tmps.getD d undef)):Rel bK w0 bJ N Fz κ ⟨Ev.put σ.tm d pv,σ.ob⟩ a w where
 tm:=fun p hp=>by
  rcases iY hp with rfl | ⟨hp,_⟩
  ·exact hv
  ·exact h.tm p hp
 sz:=h.sz
 kM:=h.kM
 fs:=h.fs
 ob:=h.ob
 wM:=h.wM
 pos:=h.pos
 fz:=h.fz
 Bc:=h.Bc
 big:=h.big
 ext:=h.ext
 kp:=h.kp
theorem Ok.keep (h:Ok bK w0 bJ N jo σ a w) (ks:List Nat):Ok bK w0 bJ N jo ⟨pick ks σ.tm,σ.ob⟩ a w:=h.less (fun _ hp=>lH hp) (fun _ hp=>hp)
theorem Ok.jP : ∀ (l:List (Nat × Nat)) {σ:St},Ok bK w0 bJ N jo σ a w → Ok bK w0 bJ N jo (Ev.jP σ l) a w
 | [],σ,h=>h
 | (s,sz) :: l,σ,h=>by
  unfold Ev.jP
  split
  ·rename_i hg
   split
   ·exact Ok.jP l h
   ·rename_i hz
    split
    ·rename_i t hn
     refine Ok.jP l ?_
     obtain ⟨Fz,κ,hr,hk⟩:=h
     have hv:a.tmps.getD s undef = .slice none 0 0:=hr.val hg
     have hnew:=hr.new (w':=w) (v:=.slice none 0 0) hn (alC _) (fun _ _=>rfl) (fun b hb=>by cases hb) ⟨rfl,rfl⟩ ⟨by omega,0,[],none,0,by rw [cK];rfl,by rw [cK];exact World.ownsRow_nil w _ _ _,rfl⟩
     refine ⟨Fz,qO κ (dY s) (.slice none 0 0),hnew.put' ⟨?_,none,0,hv⟩,fun k hk'=>?_⟩
     ·rw [cK];exact hv
     ·rw [fG (fun e=>by unfold dY at e;omega)];exact hk k hk'
    ·exact Ok.jP l h
  ·exact Ok.jP l h
theorem Ok.res (h:Ok bK w0 bJ N jo σ a w) (ks os:List Nat) (rws:List (Nat × Nat)):Ok bK w0 bJ N jo (Ev.res ks os rws σ) a w :=
 (Ok.jP rws h).less (fun _ hp=>lH hp) (fun _ hp=>lH hp)
theorem su : ∀ (n:Nat) (l:Array Bool),exts ops n l ≠ some []
 | 0,l,h=>by unfold exts at h;split at h <;> simp at h
 | n + 1,l,h=>by
  unfold exts at h
  split at h
  ·simp at h
  ·split at h
   ·obtain ⟨A,h1,h2⟩:=zmm h
    have:A = []:=by
     cases A with
     | nil=>rfl
     | cons _ _=>simp at h2
    subst this
    exact su n _ h1
   ·obtain ⟨A,h1,h2⟩:=zbm h
    obtain ⟨B,_,h3⟩:=zmm h2
    have:A = []:=by
     cases A with
     | nil=>rfl
     | cons _ _=>simp at h3
    subst this
    exact su n _ h1
theorem mH.app {ks pE:List Nat} {r:St}:∀ {A B:List (List Nat)},mH Γ gs ks pE σ r (A ++ B) → mH Γ gs ks pE σ r A ∧ mH Γ gs ks pE σ r B
 | [],_,h=>⟨trivial,h⟩
 | _ :: A,_,h=>⟨⟨h.1,(mH.app (A:=A) h.2).1⟩,(mH.app (A:=A) h.2).2⟩
theorem mH.step {ks pE:List Nat} {r:St} {i:Nat}:∀ {A:List (List Nat)},mH Γ gs ks pE σ r (A.map (i :: ·)) → A ≠ [] → ∃ s,Rc Γ false σ (gs.getD i default) = some s ∧ mH Γ gs ks pE s r A
 | [],_,h=>absurd rfl h
 | x :: A,h,_=>by
  obtain ⟨⟨s,h1,h2⟩,h3⟩:=h
  obtain ⟨s1,h4,h5⟩:=zbm h1
  refine ⟨s1,h4,⟨s,h5,h2⟩,?_⟩
  by_cases hA:A = []
  ·subst hA;trivial
  ·obtain ⟨s2,g1,g2⟩:=mH.step h3 hA
   rw [h4] at g1;cases g1
   exact g2
theorem LG {Fz:Nat → Prop} {κ:Nat → Value} (h:Rel bK w0 bJ N Fz κ σ a w) {t:TypeId} {ps:Array (Nat × Operand)} {z:List PL} {l:List (Nat × Nat × eX)} {d:Nat} {p:PV × St} (hz:Dr P t = some z) (hp:(∃ fs,P.underlying t = some (.struct fs) ∧ fs.toList.all (fun (f:Field)=>(mU P f.type).isSome) = true ∧ parts P fs ps.toList = some l) ∨ ∃ n e sz,P.underlying t = some (.array n e) ∧ mU P e = some sz ∧ qV sz ps.toList = some l) (hE:dL Γ false σ d (.build z l) = some p) :
  p.2 = σ ∧ ∃ v,(∀ w',(Instr.build t (ps.map fun (i,x)=>(i,a.eval x))).run P w' = .ok v w') ∧ jc Fz κ w p.1 v:=by
 obtain ⟨vs,h1,h2⟩:=zbm hE
 obtain ⟨z',h3,h4⟩:=zmm h2
 cases h4
 obtain ⟨i,zv,e1,e2,e3⟩:=wP (Fz:=Fz) (κ:=κ) (w:=w) hz
 refine ⟨rfl,?_⟩
 rcases hp with ⟨fs,hu,hall,hp⟩ | ⟨n,e,sz,hu,hn,hp⟩
 ·have hpl:∃ places:List (Nat × Nat),fs.toList.mapM (fun (f:Field)=>(P.info? f.type).map fun i=>(f.offset,i.size)) = some places ∧ ∀ i:Nat,places.toArray[i]? = (fs[i]?.bind fun (f:Field)=>(mU P f.type).map fun n=>(f.offset,n)):=by
   have key:∀ (l:List Field),l.all (fun (f:Field)=>(mU P f.type).isSome) = true → ∃ places:List (Nat × Nat),l.mapM (fun (f:Field)=>(P.info? f.type).map fun i=>(f.offset,i.size)) = some places ∧ ∀ i:Nat,places[i]? = (l[i]?.bind fun (f:Field)=>(mU P f.type).map fun n=>(f.offset,n)):=by
    intro l
    induction l with
    | nil=>intro _;exact ⟨[],rfl,fun i=>by simp⟩
    | cons f l ih =>
     intro ha
     simp only [List.all_cons,alN] at ha
     obtain ⟨pl,e1,e2⟩:=ih ha.2
     obtain ⟨n,hn⟩:=am6.mp ha.1
     obtain ⟨inf,hi,hs⟩:=zmm hn
     refine ⟨(f.offset,n) :: pl,by simp [List.mapM_cons,hi,hs,e1],fun i=>?_⟩
     cases i with
     | zero=>simp [hn]
     | succ i=>simpa using e2 i
   obtain ⟨pl,e1,e2⟩:=key fs.toList hall
   exact ⟨pl,e1,fun i=>by have:=e2 i;simpa using this⟩
  obtain ⟨places,e4,e5⟩:=hpl
  obtain ⟨cs',e6,e7,_⟩:=nG h (place:=(places.toArray[·]?)) (ps:=ps.toList) (cs:=zv.cells) (fun _=>trivial) (by
   refine (zy hp).imp fun {p r} hpr=>⟨?_,hpr.2⟩
   rw [e5];exact hpr.1) h1 h3 e3
  refine ⟨.agg cs',fun w'=>run_build w' t _ cs' ?_,cs',rfl,e7⟩
  unfold Program.built
  rw [e1,hu]
  simp only [e2,e4]
  rw [amS]
  exact e6
 ·obtain ⟨ie,g1,g2⟩:=zmm hn
  obtain ⟨cs',e6,e7,_⟩:=nG h (place:=fun i=>some (i * sz,sz)) (ps:=ps.toList) (cs:=zv.cells) (fun _=>trivial) (r9 hp) h1 h3 e3
  refine ⟨.agg cs',fun w'=>run_build w' t _ cs' ?_,cs',rfl,e7⟩
  unfold Program.built
  rw [e1,hu]
  simp only [e2,g1]
  rw [amS,g2]
  exact e6
theorem RX {Fz:Nat → Prop} {κ:Nat → Value} (h:Rel bK w0 bJ N Fz κ σ a w) {x:Operand} {x':eX} {i d:Nat} {p:PV × St} (hx:gD x = some x') (hE:dL Γ false σ d (.ext x' i) = some p) :
  p.2 = σ ∧ ∃ v,(∀ w',(Instr.extract (a.eval x) i).run P w' = .ok v w') ∧ jc Fz κ w p.1 v:=by
 simp only [dL] at hE
 split at hE
 ·rename_i l hl
  obtain ⟨v,h1,h2⟩:=zmm hE
  cases h2
  obtain ⟨vs,e1,e2⟩:=h.JA hx hl
  have key:∀ (l:List CV) (us:List Value) (i:Nat) (v:CV),eG Fz κ w l us → l[i]? = some v → ∃ u,us[i]? = some u ∧ gX Fz κ w v u:=by
   intro l
   induction l with
   | nil=>intro us i v _ h;simp at h
   | cons x l ih =>
    intro us i v h h2
    cases us with
    | nil=>exact h.elim
    | cons u us =>
     cases i with
     | zero=>simp at h2;subst h2;exact ⟨u,rfl,h.1⟩
     | succ i=>simp at h2;exact ih us i v h.2 h2
  obtain ⟨u,h3,h4⟩:=key _ _ _ _ e2 h1
  refine ⟨rfl,u,fun w'=>?_,h4⟩
  rw [e1]
  rw [amR] at h3
  simp [Instr.extract,h3]
 ·cases hE
theorem JX {i:Nat} {o:Oper} {g:G} (ho:ops[i]? = some o) (hp:Oc ops i = true) (hg:uY P X ops N.ok o = some g) (h:Ok bK w0 bJ N jo σ a w) (hE:Rc Γ false σ g = some σ'):∃ v,Yields P ops o v a ∧ Ok bK w0 bJ N jo σ' (a.put o.dst v) w:=by
 obtain ⟨Fz,κ,hr,hk⟩:=h
 obtain ⟨p,h1,rfl⟩:=zmm hE
 obtain ⟨i',hi,h2⟩:=zbm hg
 split at h2
 ·rename_i hd
  cases h2
  have hput:∀ {pv v},jc Fz κ w pv v → Ok bK w0 bJ N jo (tq σ o.dst pv) (a.put o.dst v) w:=by
   intro pv v hv
   refine ⟨Fz,κ,?_,hk⟩
   cases hdst:o.dst with
   | none=>exact hr.Nl v
   | some d =>
    rw [hdst] at hd
    exact hr.put (by simpa using hd) hv
  obtain ⟨t,h3,h4⟩:=zbm h1
  cases t with
  | false =>
   rw [aly (by decide)] at h4
   cases h4
   exact ⟨undef,.inr ⟨Fh hr h3,rfl⟩,hput rfl⟩
  | true =>
   rw [alx rfl] at h4
   have hw:=Fh hr h3
   unfold Oc at hp
   rw [ho] at hp
   simp only at hp
   have mv:∀ x,(o.op = .move x ∨ o.op = .assign x) → ∃ v,Yields P ops o v a ∧ Ok bK w0 bJ N jo (tq p.2 o.dst p.1) (a.put o.dst v) w:=by
    intro x hx
    have hi2:(gD x).map I.mv = some i':=by
     unfold uX uW kG at hi
     rcases hx with hx | hx <;> simp only [hx] at hi <;> (split at hi <;> first | (split at hi <;> first | (cases hi;assumption) | cases hi) | cases hi)
    obtain ⟨y,h5,rfl⟩:=zmm hi2
    obtain ⟨v,h6,h7⟩:=zmm h4
    cases h7
    refine ⟨a.eval x,.inl ⟨hw,fun w'=>?_⟩,hput (hr.JA h5 h6)⟩
    unfold execOp
    rcases hx with hx | hx <;> simp only [hx] <;> rfl
   split at hp
   ·rename_i x hx;exact mv x (.inl hx)
   ·rename_i x hx;exact mv x (.inr hx)
   ·rename_i s x f hx
    have hi2:kG P X o = some i':=by
     unfold uX uW at hi
     simp only [hx] at hi
     split at hi
     ·split at hi
      ·cases hi
      ·cases hi;assumption
     ·cases hi
    unfold kG at hi2
    simp only [hx] at hi2
    obtain ⟨fl,h5,hi2⟩:=zbm hi2
    obtain ⟨n,h6,hi2⟩:=zbm hi2
    split at hi2
    ·cases hi2
    ·rename_i h0
     obtain ⟨y,h7,rfl⟩:=zmm hi2
     obtain ⟨v,h8,h9⟩:=zbm h4
     have hv:=hr.eval h7 h8
     obtain ⟨fs,hu,hfi⟩:=Dw h5
     have run:∀ b o' (w':World),a.eval x = .pointer (some ⟨b,o',none⟩) → (execOp a.eval o).run P w' = .ok (.value (.pointer (some ⟨b,o' + fl.offset,none⟩))) w':=by
      intro b o' w' he
      unfold execOp
      simp only [hx,he]
      unfold Instr.fieldAt
      simp only [Sem.run_bind,run_underlying hu,Result.andThen_ok,hfi]
      simp only [Instr.sureAddr,Sem.run_bind,Sem.run_pure,Result.andThen_ok,qW h6 h0]
     split at h9
     ·cases h9;obtain ⟨b,e1,e2⟩:=hv;exact ⟨_,.inl ⟨hw,fun w'=>run _ _ w' e2⟩,hput ⟨b,e1,rfl⟩⟩
     ·cases h9;obtain ⟨b,o',e1,e2,e3⟩:=hv;exact ⟨_,.inl ⟨hw,fun w'=>run _ _ w' e1⟩,hput ⟨b,_,rfl,e2,e3.drop _⟩⟩
     ·cases h9;obtain ⟨b,n',c,e1,e2⟩:=hv;exact ⟨_,.inl ⟨hw,fun w'=>run _ _ w' e2⟩,hput ⟨b,n',c,e1,by rw [Nat.add_assoc]⟩⟩
     ·cases h9
   ·rename_i s t ps hx
    have hi2:kG P X o = some i':=by
     unfold uX uW at hi
     simp only [hx] at hi
     split at hi
     ·split at hi
      ·cases hi
      ·cases hi;assumption
     ·cases hi
    unfold kG at hi2
    simp only [hx] at hi2
    have hb:∃ z l,Dr P t = some z ∧ i' = .build z l ∧ ((∃ fs,P.underlying t = some (.struct fs) ∧ fs.toList.all (fun (f:Field)=>(mU P f.type).isSome) = true ∧ parts P fs ps.toList = some l) ∨ ∃ n e sz,P.underlying t = some (.array n e) ∧ mU P e = some sz ∧ qV sz ps.toList = some l):=by
     split at hi2
     ·rename_i fs hu
      split at hi2
      ·rename_i hall
       obtain ⟨z,g1,g2⟩:=zbm hi2
       obtain ⟨l,g3,rfl⟩:=zmm g2
       exact ⟨z,l,g1,rfl,.inl ⟨fs,hu,hall,g3⟩⟩
      ·cases hi2
     ·rename_i n e hu
      obtain ⟨sz,g0,g00⟩:=zbm hi2
      obtain ⟨z,g1,g2⟩:=zbm g00
      obtain ⟨l,g3,rfl⟩:=zmm g2
      exact ⟨z,l,g1,rfl,.inr ⟨n,e,sz,hu,g0,g3⟩⟩
     ·cases hi2
    obtain ⟨z,l,g1,rfl,g2⟩:=hb
    obtain ⟨g3,v,g4,g5⟩:=LG hr g1 g2 h4
    refine ⟨v,.inl ⟨hw,fun w'=>?_⟩,by rw [g3];exact hput g5⟩
    unfold execOp
    simp only [hx,Sem.run_bind,g4,Result.andThen_ok,Sem.run_pure]
   ·rename_i s x n hx
    have hi2:kG P X o = some i':=by
     unfold uX uW at hi
     simp only [hx] at hi
     split at hi
     ·split at hi
      ·cases hi
      ·cases hi;assumption
     ·cases hi
    unfold kG at hi2
    simp only [hx] at hi2
    obtain ⟨y,g1,rfl⟩:=zmm hi2
    obtain ⟨g3,v,g4,g5⟩:=RX (P:=P) hr g1 h4
    refine ⟨v,.inl ⟨hw,fun w'=>?_⟩,by rw [g3];exact hput g5⟩
    unfold execOp
    simp only [hx,Sem.run_bind,g4,Result.andThen_ok,Sem.run_pure]
   ·cases hp
 ·cases h2
theorem DZ (heq:∀ t ∈ X.eqs,mI P t) (mV:jg P Γ) (hC:fE P Γ) {ks pE:List Nat} {r:St} {Q:Exit → Act → World → Prop} (hns:Region.noSelect ops = true) (hg:kX P X ops N.ok ops.toList = some gs) (ZM:∀ c a w,¬ Q (.panic c) a w) (hQ:∀ a' w',Ok bK w0 bJ N jo r a' w' → Q .normal a' w'):∀ (n:Nat) (l:Array Bool) (os:List (List Nat)) {σ:St} {a:Act} {w:World},l.size = ops.size → exts ops n l = some os → mH Γ gs ks pE σ r os → Ok bK w0 bJ N jo σ a w → wpAny P .any ops Q n l a w
 | 0,l,os,σ,a,w,hl,he,hA,hO=>by
  unfold exts at he
  split at he
  ·rename_i hn
   cases he
   obtain ⟨⟨s,h1,h2⟩,_⟩:=hA
   cases h1
   exact ⟨hn,hQ a w (h2 ▸ hO.less (fun _ hp=>lH hp) (fun _ hp=>lH hp))⟩
  ·cases he
 | n + 1,l,os,σ,a,w,hl,he,hA,hO=>by
  unfold exts at he
  obtain ⟨e1,e2⟩:=jA hg
  have hgd:∀ i (hi1:i < ops.size),uY P X ops N.ok ops[i] = some (gs.getD i default):=by
   intro i hi1
   have hgi:=e2 i (by simpa using hi1) (by rw [← e1];simpa using hi1)
   rw [al8,alT (by rw [← e1];simpa using hi1)]
   simpa using hgi
  split at he
  ·rename_i hn
   cases he
   obtain ⟨⟨s,h1,h2⟩,_⟩:=hA
   cases h1
   rw [mg]
   exact ⟨fun _=>hQ a w (h2 ▸ hO.less (fun _ hp=>lH hp) (fun _ hp=>lH hp)),fun i hi=>by rw [hn] at hi;simp at hi⟩
  ·rename_i i0 is0 hn
   split at he
   ·rename_i j hf
    obtain ⟨A,h1,rfl⟩:=zmm he
    have hj:=List.find?_some hf
    rw [alN] at hj
    have hjr:j ∈ Region.ready .any ops l:=by rw [hn];exact anH hf
    obtain ⟨hj1,hj2,hj3⟩:=(iq hl).mp hjr
    obtain ⟨s,g1,g2⟩:=hA.step (fun e=>su n _ (e ▸ h1))
    obtain ⟨v,hy,D5⟩:=JX (al9 hj1) hj.1 (hgd j hj1) hO g1
    exact wpAny_take (al9 hj1) hns hj.2 (by simpa using hjr) (fun c a w h=>absurd h (ZM c _ w)) hy (DZ heq mV hC hns hg ZM hQ n _ A (by simp [hl]) h1 g2 D5)
   ·rw [mg]
    refine ⟨fun h=>(by rw [hn] at h;cases h),?_⟩
    rw [hn]
    have hall:∀ i ∈ i0 :: is0,i ∈ Region.ready .any ops l:=fun i hi=>by rw [hn];exact hi
    rename_i hfn
    clear hfn
    generalize i0 :: is0 = is at he hall
    clear hn
    induction is generalizing os with
    | nil=>intro i hi;simp at hi
    | cons j is ih =>
     obtain ⟨A,h1,h2⟩:=zbm he
     obtain ⟨B,h3,rfl⟩:=zmm h2
     obtain ⟨hA1,hA2⟩:=hA.app
     intro i hi
     rcases alZ.mp hi with rfl | hi
     ·obtain ⟨hi1,hi2,hi3⟩:=(iq hl).mp (hall i (by simp))
      obtain ⟨s,g1,g2⟩:=hA1.step (fun e=>su n _ (e ▸ h1))
      unfold wpOp
      rw [al9 hi1]
      exact DU heq mV hC (hgd i hi1) hO g1 fun a' w' h'=>DZ heq mV hC hns hg ZM hQ n _ A (by simp [hl]) h1 g2 h'
     ·exact ih B hA2 h3 (fun i hi=>hall i (amu _ hi)) i hi
theorem mH.pre {ks pE:List Nat} {r:St}:∀ {p:List Nat} {A:List (List Nat)} {σ:St},mH Γ gs ks pE σ r (A.map (p ++ ·)) → A ≠ [] → ∃ s,yP Γ false (p.map fun i=>gs.getD i default) σ = some s ∧ mH Γ gs ks pE s r A
 | [],A,σ,h,_=>⟨σ,rfl,by simpa using h⟩
 | i :: p,A,σ,h,hA=>by
  have e:A.map (i :: p ++ ·) = (A.map (p ++ ·)).map (i :: ·):=by rw [List.map_map];rfl
  rw [e] at h
  obtain ⟨s,h1,h2⟩:=h.step (by simpa using hA)
  obtain ⟨s',h3,h4⟩:=mH.pre h2 hA
  refine ⟨s',?_,h4⟩
  show (Rc Γ false σ _).bind _ = _
  rw [h1]
  exact h3
theorem Fx (ops:Array Oper):∀ j,∀ x ∈ (kE [] (ops.toList.map jq)).getD j [],LB ops x j:=zK _ _ (fun j x hx=>by simp at hx) (fun k hk=>by
 have hk':k < ops.size:=by simpa using hk
 refine ⟨by simpa using hk',?_⟩
 rw [alG,amR,al9 hk']
 simp)
theorem Oh {l:Array Bool} (hd:Down ops l) {i j:Nat} (hb:LB ops j i):(∀ (h:i < ops.size),∀ e ∈ jq ops[i],Dn l e) → Dn l j:=by
 induction hb with
 | dir h he=>intro hr;exact hr h _ he
 | step h he hj ih=>intro hr;exact ih (fun h'=>hd _ h' (hr h _ he))
theorem D6 {h n i:Nat} (hh:h ≤ n):Dn (mask h n) i ↔ i < h:=by
 unfold Dn mask
 rw [amq,List.getElem?_toArray,anx,List.length_replicate]
 split
 ·rename_i h1;simp [List.getElem?_replicate,h1]
 ·rename_i h1
  rw [List.getElem?_replicate]
  split <;> simp [h1]
theorem Fy {h n:Nat} (hh:h < n):(mask h n).setIfInBounds h true = mask (h + 1) n:=by
 unfold mask
 refine Array.ext' ?_
 rw [Array.toList_setIfInBounds]
 refine amQ fun i=>?_
 rw [List.getElem?_set]
 simp only [anx,List.length_replicate,List.getElem?_replicate,alX]
 by_cases h1:h = i
 ·subst h1
  rw [alx rfl,alx (by simp;omega),alx (by omega),alx (by omega)]
 ·rw [aly h1]
  by_cases h2:i < h
  ·rw [alx h2,alx h2,alx (by omega),alx (by omega)]
  ·have h4:¬ i < h + 1:=by omega
   simp only [h2,h4,alV]
   by_cases h3:i < n
   ·rw [alx (by omega),alx (by omega)]
   ·rw [aly (by omega),aly (by omega)]
theorem JY (heq:∀ t ∈ X.eqs,mI P t) (mV:jg P Γ) (hC:fE P Γ) {Q:Exit → Act → World → Prop} (hg:kX P X ops N.ok ops.toList = some gs) {h:Nat} (hh:h ≤ ops.size) (hB:JW (ops.toList.map jq) (kE [] (ops.toList.map jq)) ops.size h = true) {σh:St}
  (hK:∀ a' w',Ok bK w0 bJ N jo σh a' w' → wpAny P .any ops Q (ops.size - h) (mask h ops.size) a' w'):∀ (m i:Nat) {σ:St} {a:Act} {w:World},m + i = h → yP Γ false ((List.range' i m).map fun i=>gs.getD i default) σ = some σh → Ok bK w0 bJ N jo σ a w → wpAny P .any ops Q (ops.size - i) (mask i ops.size) a w
 | 0,i,σ,a,w,hm,hE,hO=>by
  have:i = h:=by omega
  subst this
  cases hE
  exact hK a w hO
 | m + 1,i,σ,a,w,hm,hE,hO=>by
  obtain ⟨e1,e2⟩:=jA hg
  have hi:i < ops.size:=by omega
  have hgd:uY P X ops N.ok ops[i] = some (gs.getD i default):=by
   have hgi:=e2 i (by simpa using hi) (by rw [← e1];simpa using hi)
   rw [al8,alT (by rw [← e1];simpa using hi)]
   simpa using hgi
  unfold JW at hB
  rw [alN] at hB
  have hEd:∀ k (hk:k < ops.size),∀ e ∈ jq ops[k],e < k:=fun k hk e he=>by
   have h1:=alY.mp hB.1 k (amh.mpr hk)
   rw [al8,alG,amR,al9 hk] at h1
   simpa using alY.mp h1 e he
  have hsz:(mask i ops.size).size = ops.size:=by simp [mask];omega
  have hdn:∀ j,Dn (mask i ops.size) j ↔ j < i:=fun j=>D6 (by omega)
  have Oi:Down ops (mask i ops.size):=fun j hj hd e he=>(hdn e).mpr (by have:=(hdn j).mp hd;have:=hEd j hj e he;omega)
  have hri:i ∈ Region.ready .any ops (mask i ops.size):=(iq hsz).mpr ⟨hi,fun hd=>by have:=(hdn i).mp hd;omega,fun e he=>(hdn e).mpr (hEd i hi e he)⟩
  rw [show ops.size - i = (ops.size - (i + 1)) + 1 from by omega,mg]
  refine ⟨fun hn=>by rw [hn] at hri;simp at hri,fun j hj=>?_⟩
  obtain ⟨hj1,hj2,hj3⟩:=(iq hsz).mp hj
  have hij:j = i:=by
   apply amo
   intro hne
   have hlt:i < j:=by
    have:¬ j < i:=fun hx=>hj2 ((hdn j).mpr hx)
    omega
   have h1:=alY.mp hB.2 j (amh.mpr hj1)
   have h2:(List.getD (kE [] (ops.toList.map jq)) j []).take (min j h) = List.range (min j h):=by simpa using h1
   have h3:i ∈ (kE [] (ops.toList.map jq)).getD j []:=List.mem_of_mem_take (by rw [h2];exact amh.mpr (by omega))
   have:=(hdn i).mp (Oh Oi (Fx ops j i h3) (fun _=>hj3))
   omega
  subst hij
  rw [List.range'_succ,alD] at hE
  obtain ⟨s,g1,g2⟩:=zbm hE
  unfold wpOp
  rw [al9 hi]
  refine DU heq mV hC hgd hO g1 fun a' w' h'=>?_
  rw [Fy hi]
  exact JY heq mV hC hg hh (by unfold JW;rw [alN];exact hB) hK m (j + 1) (by omega) g2 h'
theorem XK (hm:P.follows .mixedOrders = true) (heq:∀ t ∈ X.eqs,mI P t) (mV:jg P Γ) (hC:fE P Γ) {ks pE:List Nat} {os:List (List Nat)} {o:Out} {id:Nat} (hns:Region.noSelect ops = true) (hg:kX P X ops N.ok ops.toList = some gs) (he:Od ops = some os) (hO:Ok bK w0 bJ N jo σ a w) (hE:evO Γ gs ks pE σ os = some (o,σ')) (hQ:∀ a' w',Ok bK w0 bJ N jo σ' a' w' → Q (DY o) a' w'):(Code.region id ops true).wp P Q a w:=by
 refine wp_mono (Q:=fun e a w=>e = .normal ∧ Q e a w) ?_ (fun _ _ _ h=>h.2)
 refine wp_region_any hm ?_
 replace hO:Ok bK w0 bJ N jo σ a { w with drawn:=w.drawn + 1 }:=by
  obtain ⟨Fz,κ,hr,hk⟩:=hO
  exact ⟨Fz,κ,hr.grow (w':={ w with drawn:=w.drawn + 1 }) (alC _) (fun _ _=>rfl) ⟨rfl,rfl⟩,hk⟩
 cases os with
 | nil=>cases hE
 | cons o1 os =>
  obtain ⟨s,h1,h2⟩:=zbm hE
  split at h2
  ·rename_i hA
   cases h2
   unfold Od at he
   simp only [Ip] at he
   split at he
   ·rename_i hcond
    obtain ⟨A,h5,h6⟩:=zmm he
    have hA':mH Γ gs ks pE σ _ (A.map (List.range (Fw (kE [] (ops.toList.map jq)) ops.size 0) ++ ·)):=h6 ▸ (show mH Γ gs ks pE σ ⟨pick ks s.tm,pick pE s.ob⟩ (o1 :: os) from ⟨⟨s,h1,rfl⟩,hA⟩)
    obtain ⟨sh,h7,h8⟩:=hA'.pre (fun e=>su _ _ (e ▸ h5))
    have hm0:Array.replicate ops.size false = mask 0 ops.size:=by
     unfold mask
     refine Array.ext' ?_
     simp
    rw [hm0]
    refine JY (i:=0) (h:=Fw (kE [] (ops.toList.map jq)) ops.size 0) heq mV hC hg hcond.1 hcond.2 (fun a' w' h'=>?_) (Fw (kE [] (ops.toList.map jq)) ops.size 0) (by omega) (by rw [← List.range_eq_range'];exact h7) hO
    exact DZ heq mV hC hns hg (fun c a w h=>by cases h.1) (fun a' w' h=>⟨rfl,hQ a' w' h⟩) _ _ A (by simp [mask];omega) h5 h8 h'
   ·cases he
  ·cases h2
theorem Oj {i:Nat} {o:Oper} {g:G} (ho:ops[i]? = some o) (hp:RU ops i = true) (hg:uY P X ops N.ok o = some g) (h:Ok bK w0 bJ N jo σ a w) (hE:Rc Γ false σ g = some σ'):∃ v,YieldsIf P ops (Ext w) o v a ∧ Ok bK w0 bJ N jo σ' (a.put o.dst v) w:=by
 unfold RU at hp
 cases hpo:Oc ops i with
 | true=>obtain ⟨v,h1,h2⟩:=JX ho hpo hg h hE;exact ⟨v,h1.yieldsIf,h2⟩
 | false =>
 rw [hpo,Bool.false_or,ho] at hp
 simp only at hp
 obtain ⟨Fz,κ,hr,hk⟩:=h
 obtain ⟨p,h1,rfl⟩:=zmm hE
 obtain ⟨i',hi,h2⟩:=zbm hg
 split at h2
 ·rename_i hd
  cases h2
  have hput:∀ {pv v},jc Fz κ w pv v → Ok bK w0 bJ N jo (tq σ o.dst pv) (a.put o.dst v) w:=by
   intro pv v hv
   refine ⟨Fz,κ,?_,hk⟩
   cases hdst:o.dst with
   | none=>exact hr.Nl v
   | some d =>
    rw [hdst] at hd
    exact hr.put (by simpa using hd) hv
  obtain ⟨t,h3,h4⟩:=zbm h1
  cases t with
  | false =>
   rw [aly (by decide)] at h4
   cases h4
   exact ⟨undef,.inr ⟨Fh hr h3,rfl⟩,hput rfl⟩
  | true =>
   rw [alx rfl] at h4
   have hw:=Fh hr h3
   have h0:(∀ c,o.op ≠ .call c) → kG P X o = some i':=by
    intro hn
    unfold uX uW at hi
    split at hi
    ·rename_i hh
     split at hh
     ·rename_i c hc;exact absurd hc (hn c)
     ·cases hh
    ·split at hi
     ·split at hi
      ·cases hi
      ·cases hi;assumption
     ·cases hi
   have fin:∀ {v:Value},p.2 = σ → jc Fz κ w p.1 v → (∀ w',Ext w w' → (execOp a.eval o).run P w' = .ok (.value v) w') → ∃ v,YieldsIf P ops (Ext w) o v a ∧ Ok bK w0 bJ N jo (tq p.2 o.dst p.1) (a.put o.dst v) w:=fun {v} e1 e2 e3=>⟨v,.inl ⟨hw,e3⟩,by rw [e1];exact hput e2⟩
   split at hp
   ·rename_i t x hx
    have hi2:=h0 (fun c hc=>by rw [hx] at hc;cases hc)
    unfold kG at hi2
    simp only [hx] at hi2
    obtain ⟨g,g1,hi2⟩:=zbm hi2
    obtain ⟨n,g2,hi2⟩:=zbm hi2
    obtain ⟨y,g3,rfl⟩:=zmm hi2
    obtain ⟨g4,v,g5,g6⟩:=N8 (P:=P) hr g1 g2 g3 h4
    refine fin g4 g6 fun w' hw'=>?_
    unfold execOp
    simp only [hx,Sem.run_bind,g5 w' hw',Result.andThen_ok,Sem.run_pure]
   ·rename_i x hx
    have hi2:=h0 (fun c hc=>by rw [hx] at hc;cases hc)
    unfold kG at hi2
    simp only [hx] at hi2
    obtain ⟨y,g3,rfl⟩:=zmm hi2
    obtain ⟨g4,v,g5,g6⟩:=N9 (P:=P) hr g3 h4 hx
    exact fin g4 g6 fun w' _=>g5 w'
   ·rename_i t x y u hx
    have hi2:=h0 (fun c hc=>by rw [hx] at hc;cases hc)
    unfold kG at hi2
    simp only [hx] at hi2
    obtain ⟨x',g1,hi2⟩:=zbm hi2
    obtain ⟨y',g2,hi2⟩:=zbm hi2
    have hb:i' = .ar .sub x' y':=by
     split at hi2 <;> first | (cases hi2;done) | (simp [ZJ] at hi2;done) | (simp [ZJ] at hi2;exact hi2.symm) | skip
     all_goals (split at hi2 <;> first | (cases hi2;done) | (simp at hi2;done))
    subst hb
    obtain ⟨g4,v,g5,g6⟩:=XF (P:=P) (op:=.sub) (t:=t) (x:=x) (y:=y) hr rfl g1 g2 h4
    refine fin g4 g6 fun w' _=>?_
    unfold execOp
    simp only [hx]
    rw [Sem.run_bind,g5 w']
    rfl
   ·rename_i t x z hx
    have hi2:=h0 (fun c hc=>by rw [hx] at hc;cases hc)
    unfold kG at hi2
    simp only [hx,RA] at hi2
    obtain ⟨e,g1,hi2⟩:=zbm hi2
    obtain ⟨sz,g2,hi2⟩:=zbm hi2
    obtain ⟨x',g3,hi2⟩:=zbm hi2
    obtain ⟨y',g4,rfl⟩:=zmm hi2
    obtain ⟨g5,v,g6,g7⟩:=XG (P:=P) hr g1 g2 g3 g4 h4
    refine fin g5 g7 fun w' _=>?_
    unfold execOp
    simp only [hx,Sem.run_bind,g6,Result.andThen_ok,Sem.run_pure]
   ·cases hp
 ·cases h2
theorem zL (hg:kX P X ops N.ok ops.toList = some gs) {Q:Exit → Act → World → Prop} {h:Nat} {w1:World}:∀ (n:Nat) (l:Array Bool) (a:Act) (w:World),l.size = ops.size → (∀ i,i < h → Dn l i) → wpAny P .any ops Q n l a w → XH P ops Q (fun j=>decide (j < h) || Iq ops j) (Ext w1) n l a w
 | 0,_,_,_,_,_,hh=>hh
 | n + 1,l,a,w,hl,hd,hh=>by
  refine ⟨hh.1,fun i hi=>?_⟩
  obtain ⟨hi1,hi2,hi3⟩:=(iq hl).mp hi
  have rcu:∀ a' w',wpAny P .any ops Q n (l.setIfInBounds i true) a' w' → XH P ops Q (fun j=>decide (j < h) || Iq ops j) (Ext w1) n (l.setIfInBounds i true) a' w':=fun a' w' hx=>zL hg n _ a' w' (by simp [hl]) (fun j hj=>(Dn.set (by omega)).mpr (.inr (hd j hj))) hx
  cases hal:Iq ops i with
  | false=>exact wpOp_mono (fun a' w' hx=>⟨fun hm=>by have hm':(decide (i < h) || Iq ops i) = true:=hm;rw [hal,Bool.or_false] at hm';exact absurd (hd i (alQ hm')) hi2,rcu a' w' hx⟩) (hh.2 i hi)
  | true =>
   unfold Iq at hal
   rw [al9 hi1] at hal
   simp only at hal
   split at hal
   ·rename_i e he
    obtain ⟨e1,e2⟩:=jA hg
    have hgi:=e2 i (by simpa using hi1) (by rw [← e1];simpa using hi1)
    obtain ⟨i',g1,_⟩:=zbm hgi
    have hz:∃ z,Dr P e = some z:=by
     have he':(ops.toList[i]'(by simpa using hi1)).op = .alloc e:=by simpa using he
     unfold uX uW kG at g1
     simp only [he'] at g1
     cases hz:Dr P e with
     | none=>rw [hz] at g1;cases g1
     | some z=>exact ⟨z,rfl⟩
    obtain ⟨z,hz⟩:=hz
    exact wpOp_mono (fun a' w' hx=>⟨fun _=>hx.1,rcu a' w' hx.2⟩) (Io (al9 hi1) he hz (hh.2 i hi))
   ·cases hal
theorem FB {Q:Exit → Act → World → Prop} (ZM:∀ c a w,¬ Q (.panic c) a w) (hns:Region.noSelect ops = true) (hg:kX P X ops N.ok ops.toList = some gs) {h:Nat} (hh:h ≤ ops.size) (hB:Ir (ops.toList.map jq) (kE [] (ops.toList.map jq)) ops h = true) {σh:St}
  (hK:∀ a' w',Ok bK w0 bJ N jo σh a' w' → wpAny P .any ops Q (ops.size - h) (mask h ops.size) a' w'):∀ (m i:Nat) {σ:St} {a:Act},m + i = h → yP Γ false ((List.range' i m).map fun i=>gs.getD i default) σ = some σh → Ok bK w0 bJ N jo σ a w → XH P ops Q (fun j=>decide (j < h) || Iq ops j) (Ext w) (ops.size - i) (mask i ops.size) a w
 | 0,i,σ,a,hm,hE,hO=>by
  have:i = h:=by omega
  subst this
  cases hE
  exact zL hg _ _ _ _ (by simp [mask];omega) (fun j hj=>(D6 hh).mpr hj) (hK a w hO)
 | m + 1,i,σ,a,hm,hE,hO=>by
  obtain ⟨e1,e2⟩:=jA hg
  have hi:i < ops.size:=by omega
  have hgd:uY P X ops N.ok ops[i] = some (gs.getD i default):=by
   have hgi:=e2 i (by simpa using hi) (by rw [← e1];simpa using hi)
   rw [al8,alT (by rw [← e1];simpa using hi)]
   simpa using hgi
  have hB':=hB
  unfold Ir at hB
  rw [alN,alN] at hB
  have hEd:∀ k (hk:k < ops.size),∀ e ∈ jq ops[k],e < k:=fun k hk e he=>by
   have h1:=alY.mp hB.1 k (amh.mpr hk)
   rw [al8,alG,amR,al9 hk] at h1
   simpa using alY.mp h1 e he
  have hsz:(mask i ops.size).size = ops.size:=by simp [mask];omega
  have hdn:∀ j,Dn (mask i ops.size) j ↔ j < i:=fun j=>D6 (by omega)
  have Oi:Down ops (mask i ops.size):=fun j hj hd e he=>(hdn e).mpr (by have:=(hdn j).mp hd;have:=hEd j hj e he;omega)
  have hri:i ∈ Region.ready .any ops (mask i ops.size):=(iq hsz).mpr ⟨hi,fun hd=>by have:=(hdn i).mp hd;omega,fun e he=>(hdn e).mpr (hEd i hi e he)⟩
  have hV:=alY.mp hB.2.1 i (amh.mpr (by omega))
  rw [alN] at hV
  rw [List.range'_succ,alD] at hE
  obtain ⟨s,g1,g2⟩:=zbm hE
  obtain ⟨v,hy,D5⟩:=Oj (al9 hi) hV.1 hgd hO g1
  rw [show ops.size - i = (ops.size - (i + 1)) + 1 from by omega]
  refine LC (al9 hi) (Region.noSelect_spec hns) ZM (fun l j hl hd hj hni hne=>?_) _ _ _ _ hsz Oi (Region.free_spec (al9 hi) hV.2) hri hy (Ext.refl w) ?_
  ·obtain ⟨hj1,hj2,hj3⟩:=(iq hl).mp hj
   have h1:=alY.mp hB.2.2 j (amh.mpr hj1)
   rw [amv] at h1
   rcases h1 with h1 | h1
   ·exact h1
   ·have h2:(List.getD (kE [] (ops.toList.map jq)) j []).take h = List.range h:=by simpa using h1
    have h3:i ∈ (kE [] (ops.toList.map jq)).getD j []:=List.mem_of_mem_take (by rw [h2];exact amh.mpr (by omega))
    exact absurd (Oh hd (Fx ops j i h3) (fun _=>hj3)) hni
  ·rw [Fy hi]
   exact FB ZM hns hg hh hB' hK m (i + 1) (by omega) g2 D5
theorem RY (hm:P.follows .mixedOrders = true) (heq:∀ t ∈ X.eqs,mI P t) (mV:jg P Γ) (hC:fE P Γ) {ks pE:List Nat} {os:List (List Nat)} {o:Out} {id:Nat} (hns:Region.noSelect ops = true) (hg:kX P X ops N.ok ops.toList = some gs) (he:Og ops = some os) (hO:Ok bK w0 bJ N jo σ a w) (hE:evO Γ gs ks pE σ os = some (o,σ')) (hQ:∀ a' w',Ok bK w0 bJ N jo σ' a' w' → Q (DY o) a' w'):(Code.region id ops true).wp P Q a w:=by
 refine wp_mono (Q:=fun e a w=>e = .normal ∧ Q e a w) ?_ (fun _ _ _ h=>h.2)
 refine wp_region_any hm ?_
 replace hO:Ok bK w0 bJ N jo σ a { w with drawn:=w.drawn + 1 }:=by
  obtain ⟨Fz,κ,hr,hk⟩:=hO
  exact ⟨Fz,κ,hr.grow (w':={ w with drawn:=w.drawn + 1 }) (alC _) (fun _ _=>rfl) ⟨rfl,rfl⟩,hk⟩
 cases os with
 | nil=>cases hE
 | cons o1 os =>
  obtain ⟨s,h1,h2⟩:=zbm hE
  split at h2
  ·rename_i hA
   cases h2
   unfold Og at he
   simp only [Ip] at he
   split at he
   ·rename_i hcond
    obtain ⟨A,h5,h6⟩:=zmm he
    have hA':mH Γ gs ks pE σ _ (A.map (List.range (Oe ops ops.size 0) ++ ·)):=h6 ▸ (show mH Γ gs ks pE σ ⟨pick ks s.tm,pick pE s.ob⟩ (o1 :: os) from ⟨⟨s,h1,rfl⟩,hA⟩)
    obtain ⟨sh,h7,h8⟩:=hA'.pre (fun e=>su _ _ (e ▸ h5))
    have hm0:Array.replicate ops.size false = mask 0 ops.size:=by
     unfold mask
     refine Array.ext' ?_
     simp
    rw [hm0]
    refine JV _ _ _ _ (FB (i:=0) (h:=Oe ops ops.size 0) (fun c a w h=>by cases h.1) hns hg hcond.1 hcond.2 (fun a' w' h'=>?_) (Oe ops ops.size 0) (by omega) (by rw [← List.range_eq_range'];exact h7) hO)
    exact DZ heq mV hC hns hg (fun c a w h=>by cases h.1) (fun a' w' h=>⟨rfl,hQ a' w' h⟩) _ _ A (by simp [mask];omega) h5 h8 h'
   ·cases he
  ·cases h2
theorem FD (hm:P.follows .mixedOrders = true) (heq:∀ t ∈ X.eqs,mI P t) (mV:jg P Γ) (hC:fE P Γ):∀ (c:Code) {h h':List Hi} {cc:CC} {σ σ':St} {o:Out} {a:Act} {w:World} {Q:Exit → Act → World → Prop},comp P X N.ok c h = some (cc,h') → Ok bK w0 bJ N jo σ a w → ev Γ F cc σ = some (o,σ') →
  (∀ a' w',Ok bK w0 bJ N jo σ' a' w' → Q (DY o) a' w') → c.wp P Q a w:=by
 intro c
 induction c with
 | skip =>
  intro h h' cc σ σ' o a w Q hc hO hE hQ
  cases hc
  cases hE
  exact wp_skip (hQ a w hO)
 | region id ops draw =>
  intro h h' cc σ σ' o a w Q hc hO hE hQ
  cases h with
  | nil=>cases hc
  | cons k h =>
  obtain ⟨cr,h1,h2⟩:=zmm hc
  cases h2
  obtain ⟨gs,h3,h4⟩:=zbm h1
  cases draw with
  | false =>
   cases h4
   obtain ⟨s,h5,h6⟩:=zmm hE
   cases h6
   exact wp_region_list (NV heq mV hC h3 hO h5 fun a' w' h=>hQ a' w' (h.keep _))
  | true =>
   simp only [Ip] at h4
   split at h4
   ·split at h4
    ·rename_i hns
     obtain ⟨os,h5,h6⟩:=zmm h4
     cases h6
     exact RY hm heq mV hC hns h3 h5 hO hE hQ
    ·cases h4
   ·split at h4
    ·rename_i hns
     obtain ⟨os,h5,h6⟩:=zmm h4
     cases h6
     exact XK hm heq mV hC hns h3 h5 hO hE hQ
    ·cases h4
   split at h4
   ·rename_i hb
    cases h4
    obtain ⟨s,h5,h6⟩:=zmm hE
    cases h6
    obtain ⟨g1,g2⟩:=LD (RV _ _) h3 hb
    exact XE hm g1 heq mV hC (by rw [g2];exact h3) hO h5 fun a' w' h=>hQ a' w' (h.keep _)
   ·cases h4
 | seq x y ihx ihy =>
  intro h h' cc σ σ' o a w Q hc hO hE hQ
  obtain ⟨p,h1,h2⟩:=zbm hc
  obtain ⟨r,h3,h4⟩:=zmm h2
  cases h4
  obtain ⟨s,h5,h6⟩:=zbm hE
  refine wp_seq (ihx h1 hO h5 fun a' w' D5=>?_)
  cases hs:s.1 with
  | jP=>rw [hs] at h6;exact ihy h3 D5 h6 hQ
  | ext id=>rw [hs] at h6;cases h6;exact hQ a' w' D5
  | ret=>rw [hs] at h6;cases h6;exact hQ a' w' D5
 | cond c x y ihx ihy =>
  intro h h' cc σ σ' o a w Q hc hO hE hQ
  obtain ⟨co,h0,hc⟩:=zbm hc
  obtain ⟨p,h1,h2⟩:=zbm hc
  obtain ⟨r,h3,h4⟩:=zmm h2
  cases h4
  obtain ⟨v,h5,h6⟩:=zbm hE
  obtain ⟨t,h7,h8⟩:=zbm h6
  have hv:a.eval c = .bool t:=by
   obtain ⟨Fz,κ,hr,_⟩:=hO
   exact Du h7 (hr.eval h0 h5)
  refine wp_cond hv ?_
  cases t with
  | true=>exact ihx h1 hO h8 hQ
  | false=>exact ihy h3 hO h8 hQ
 | block id c ih =>
  intro h h' cc σ σ' o a w Q hc hO hE hQ
  obtain ⟨p,h1,h2⟩:=zmm hc
  cases h2
  obtain ⟨s,h3,h4⟩:=zmm hE
  refine wp_block (ih h1 hO h3 fun a' w' D5=>?_)
  cases hs:s.1 with
  | jP=>rw [hs] at h4;cases h4;exact hQ a' w' D5
  | ret=>rw [hs] at h4;cases h4;exact hQ a' w' D5
  | ext i =>
   rw [hs] at h4
   simp only [DY,Exit.inBlock]
   by_cases hi:i = id
   ·simp only [alx hi] at h4
    cases h4;rw [alx hi];exact hQ a' w' D5
   ·simp only [aly hi] at h4
    cases h4;rw [aly hi];exact hQ a' w' D5
 | loop c ih =>
  intro h h' cc σ σ' o a w Q hc hO hE hQ
  cases h with
  | nil=>cases hc
  | cons k h =>
   obtain ⟨p,h1,h2⟩:=zmm hc
   cases h2
   have key:∀ (n:Nat) (σ:St) (a:Act) (w:World),Ok bK w0 bJ N jo σ a w → iter (ev Γ F p.1) (Ev.res k.ks k.Di k.rws) n σ = some (o,σ') → Code.rounds P c Q n a w:=by
    intro n
    induction n with
    | zero=>intro σ a w _ hE;cases hE
    | succ n ihn =>
     intro σ a w hO hE
     obtain ⟨s,h3,h4⟩:=zbm hE
     rw [rounds_succ]
     refine ih h1 (hO.res k.ks k.Di k.rws) h3 fun a' w' D5=>?_
     cases hs:s.1 with
     | jP=>rw [hs] at h4;exact ihn s.2 a' w' D5 h4
     | ext id=>rw [hs] at h4;cases h4;exact hQ a' w' D5
     | ret=>rw [hs] at h4;cases h4;exact hQ a' w' D5
   exact wp_loop_rounds F (key F σ a w hO hE)
 | exit id =>
  intro h h' cc σ σ' o a w Q hc hO hE hQ
  cases hc
  cases hE
  exact wp_exit (hQ a w hO)
 | ret =>
  intro h h' cc σ σ' o a w Q hc hO hE hQ
  cases hc
  cases hE
  exact wp_ret (hQ a w hO)
 | scope c ih =>
  intro h h' cc σ σ' o a w Q hc hO hE hQ
  refine wp_scope_straight (ih hc hO hE fun a' w' h'=>?_)
  have:=hQ a' w' h'
  cases o <;> exact this
 | label l =>
  intro h h' cc σ σ' o a w Q hc hO hE hQ
  cases hc
  cases hE
  exact wp_label (hQ a w hO)
 | _=>intro h h' cc σ σ' o a w Q hc;cases hc
end
end
section
open Go
section
variable {P : Program} {Γ:Env} {bK Fz bR:Nat → Prop} {w0 w w':World} {bJ bs:List Nat} {N:Fr} {F:Nat} {κ jo:Nat → Value} {σ gJ σ':St} {a:Act} {X:Hx}
theorem FE {bo:List Nat}:∀ {gN:List AV} {vals:List Value} {bx bs:List Nat} {i:Nat} {pend:List PL} {kD:List Value} {oG:List CV} {κ:Nat → Value} {σ σ':St},dA bK w0 bJ N (bx ++ bs) Fz κ σ a w → gQ Fz w gN vals bx → (∀ j v,vals[j]? = some v → a.tmps.getD (i + j) undef = v) → bG Fz κ w pend kD → enter bo i pend σ gN = some (oG,σ') →
  ∃ gq,dA bK w0 bJ N bs Fz gq σ' a w ∧ eG Fz gq w oG vals ∧ bG Fz gq w pend kD
 | [],[],bx,bs,i,pend,kD,oG,κ,σ,σ',h,hx,ht,hp,hs=>by cases hs;cases hx;exact ⟨κ,h,trivial,hp⟩
 | [],_ :: _,_,_,_,_,_,_,_,_,_,_,hx,_,_,_=>hx.elim
 | _ :: _,[],_,_,_,_,_,_,_,_,_,_,hx,_,_,_=>hx.elim
 | x :: gN,v :: vals,bx,bs,i,pend,kD,oG,κ,σ,σ',h,hx,ht,hp,hs=>by
  obtain ⟨b1,b2,h1,h2,rfl⟩:=hx
  obtain ⟨p,h3,h4⟩:=zbm hs
  obtain ⟨r,h5,h6⟩:=zmm h4
  cases h6
  obtain ⟨Bp,e1,e2,e3,_⟩:=NP (Kp:=fun _=>True) (fun _ _=>trivial) (fun _ _ _=>trivial) trivial (bs:=b2 ++ bs) (by rw [← amt];exact h) h1 hp h3
  have hv:a.tmps.getD i undef = v:=by have:=ht 0 v rfl;rwa [Nat.add_zero] at this
  have hrel:dA bK w0 bJ N (b2 ++ bs) Fz Bp ⟨Ev.put p.2.tm i (.c p.1),p.2.ob⟩ a w:=⟨e1.rel.put' (by rw [hv];exact e2),e1.kM,e1.ap⟩
  obtain ⟨Ih,g1,g2,g3⟩:=FE hrel h2 (fun j u hj=>by have:=ht (j + 1) u (by simpa using hj);rwa [show i + 1 + j = i + (j + 1) from by omega]) (show bG Fz Bp w (Ev.cells p.1 ++ pend) (Ev.Fb p.1 v ++ kD) from e2.Fb.app e3) h5
  obtain ⟨g5,g6⟩:=g3.DR (by have:=e2.Fb.length;omega)
  exact ⟨Ih,g1,⟨gX.NQ (fun xs hx=>by rw [hx] at e2;obtain ⟨cs,h,_⟩:=e2;exact ⟨cs,h⟩) g5,g2⟩,g6⟩
theorem yS (h:dA bK w0 bJ N bs Fz κ σ a w) {x:PL} {y:TV} {v:Value} (hx:fD Fz κ w x v) (hs:outT σ x = some (y,σ')):∃ bR bx,dA bK w0 bJ N (bx ++ bs) bR κ σ' a w ∧ (∀ b,Fz b → bR b) ∧ pI bR w y v bx:=by
 cases x with
 | f x=>cases hs;exact ⟨Fz,[],h,fun _ h=>h,hx,rfl⟩
 | dz=>cases hs;exact ⟨Fz,[],h,fun _ h=>h,by simp only [fU];exact ⟨none,0,hx,alC _,by simp,.inl trivial⟩,rfl⟩
 | iW=>cases hs;exact ⟨Fz,[],h,fun _ h=>h,hx,rfl⟩
 | gu=>cases hs;exact ⟨Fz,[],h,fun _ h=>h,hx,rfl⟩
 | fp cs=>cases hs;exact ⟨Fz,[],h,fun _ h=>h,fD.mono (κ:=κ) (gq:=fun _=>undef) (fun _ h=>h) (fun _ _=>rfl) (fun k hk=>by cases hk) hx,rfl⟩
 | fn f cs=>cases hs;exact ⟨Fz,[],h,fun _ h=>h,fD.mono (κ:=κ) (gq:=fun _=>undef) (fun _ h=>h) (fun _ _=>rfl) (fun k hk=>by cases hk) hx,rfl⟩
 | own key n =>
  obtain ⟨p,h1,h2⟩:=zmm hs
  cases h2
  obtain ⟨bR,g1,g2,g3⟩:=h.y9 hx h1
  exact ⟨bR,[],g1,g2,g3,rfl⟩
 | mp key =>
  simp only [outT] at hs
  split at hs
  ·rename_i sh ents gY
   cases hs
   obtain ⟨b,h1,h2⟩:=h.rel.obj gY
   exact ⟨Fz,[b],h.take gY (by rw [h1];rfl),fun _ h=>h,b,by rw [hx.1,h1],h2,rfl⟩
  ·cases hs
 | ptr key off =>
  cases off with
  | succ n=>cases hs
  | zero =>
   simp only [outT] at hs
   split at hs
   ·rename_i xs gY
    obtain ⟨p,h1,h2⟩:=zmm hs
    cases h2
    obtain ⟨b,cs,e,g1,g2,g3⟩:=h.rel.obj gY
    obtain ⟨b',g4,g5⟩:=hx
    rw [g1] at g4
    cases g4
    obtain ⟨F1,bx,e1,e2,e3⟩:=DJ (h.take gY (by rw [g1];rfl)) g3 h1
    exact ⟨F1,b :: bx,e1.perm List.perm_middle,e2,b,cs,e,bx,g5,g2,e3,rfl⟩
   ·cases hs
 | _=>cases hs
theorem FH : ∀ {xs:List PL} {ys:List TV} {vs:List Value} {bs:List Nat} {Fz:Nat → Prop} {σ σ':St},dA bK w0 bJ N bs Fz κ σ a w → bG Fz κ w xs vs → xL σ xs = some (ys,σ') → ∃ bR bx,dA bK w0 bJ N (bx ++ bs) bR κ σ' a w ∧ (∀ b,Fz b → bR b) ∧ ny bR w ys vs bx
 | [],ys,[],bs,Fz,σ,σ',h,_,hs=>by cases hs;exact ⟨Fz,[],h,fun _ h=>h,rfl⟩
 | x :: xs,ys,v :: vs,bs,Fz,σ,σ',h,hx,hs=>by
  obtain ⟨p,h1,h2⟩:=zbm hs
  obtain ⟨r,h3,h4⟩:=zmm h2
  cases h4
  obtain ⟨F1,b1,e1,e2,e3⟩:=yS h hx.1 h1
  obtain ⟨F2,b2,e4,e5,e6⟩:=FH e1 (bG.mono e2 (fun _ _=>rfl) xs (fun _ _=>rfl) vs hx.2) h3
  refine ⟨F2,b1 ++ b2,e4.perm ?_,fun b hb=>e5 b (e2 b hb),b1,b2,e3.mono e5 (fun _ _=>rfl) (fun _ _=>rfl),e6,rfl⟩
  rw [← amt]
  exact List.perm_append_comm.append_right bs
 | [],_,_ :: _,_,_,_,_,_,h,_=>h.elim
 | _ :: _,_,[],_,_,_,_,_,h,_=>h.elim
theorem RZ (h:dA bK w0 bJ N bs Fz κ σ a w) {x:CV} {y:AV} {v:Value} (hx:gX Fz κ w x v) (hs:Rw σ x = some (y,σ')):∃ bR bx,dA bK w0 bJ N (bx ++ bs) bR κ σ' a w ∧ (∀ b,Fz b → bR b) ∧ qZ bR w y v bx:=by
 cases x with
 | one x =>
  obtain ⟨p,h1,h2⟩:=zmm hs
  cases h2
  exact yS h hx h1
 | agg xs =>
  obtain ⟨p,h1,h2⟩:=zmm hs
  cases h2
  obtain ⟨cs,rfl,hx⟩:=hx
  obtain ⟨F1,b1,e1,e2,e3⟩:=FH h hx h1
  exact ⟨F1,b1,e1,e2,cs,rfl,e3⟩
theorem R3 (h:dA bK w0 bJ N bs Fz κ σ a w) {sz:Nat} {x:PL} {y:TV} {v:Value} (hx:fD Fz κ w x v) (hs:Dl sz σ x = some (y,σ')):∃ bx,dA bK w0 bJ N (bx ++ bs) Fz κ σ' a w ∧ pI Fz w y v bx:=by
 cases x with
 | own key n =>
  simp only [Dl] at hs
  split at hs
  ·rename_i z rows gY
   split at hs
   ·rename_i hz
    subst hz
    cases hs
    obtain ⟨g1,g2⟩:=h.JF gY
    exact ⟨_,g1,by rw [hx.1];exact g2⟩
   ·cases hs
  ·cases hs
 | dz =>
  simp only [Dl] at hs
  split at hs
  ·cases hs
  ·rename_i hz
   cases hs
   have hv:v = .slice none 0 0:=hx
   subst hv
   exact ⟨[],h,by omega,0,[],none,0,rfl,World.ownsRow_nil w _ _ _,rfl,rfl⟩
 | _=>cases hs
theorem R4 (h:dA bK w0 bJ N bs Fz κ σ a w) {fl:Option Nat} {x:CV} {y:AV} {v:Value} (hx:gX Fz κ w x v) (hs:Dm fl σ x = some (y,σ')):∃ bR bx,dA bK w0 bJ N (bx ++ bs) bR κ σ' a w ∧ (∀ b,Fz b → bR b) ∧ qZ bR w y v bx:=by
 cases fl with
 | none=>exact RZ h hx (by cases x <;> exact hs)
 | some sz =>
  cases x with
  | one x =>
   obtain ⟨p,h1,h2⟩:=zmm hs
   cases h2
   obtain ⟨bx,e1,e2⟩:=R3 h hx h1
   exact ⟨Fz,bx,e1,fun _ h=>h,e2⟩
  | agg xs=>cases hs
theorem FJ : ∀ {xs:List CV} {ys:List AV} {vs:List Value} {fl:List (Option Nat)} {bs:List Nat} {Fz:Nat → Prop} {σ σ':St},dA bK w0 bJ N bs Fz κ σ a w → eG Fz κ w xs vs → nR fl σ xs = some (ys,σ') → ∃ bR bx,dA bK w0 bJ N (bx ++ bs) bR κ σ' a w ∧ (∀ b,Fz b → bR b) ∧ gQ bR w ys vs bx
 | [],ys,[],fl,bs,Fz,σ,σ',h,_,hs=>by cases hs;exact ⟨Fz,[],h,fun _ h=>h,rfl⟩
 | x :: xs,ys,v :: vs,fl,bs,Fz,σ,σ',h,hx,hs=>by
  obtain ⟨p,h1,h2⟩:=zbm hs
  obtain ⟨r,h3,h4⟩:=zmm h2
  cases h4
  obtain ⟨F1,b1,e1,e2,e3⟩:=R4 h hx.1 h1
  obtain ⟨F2,b2,e4,e5,e6⟩:=FJ e1 (eG.mono e2 (fun _ _=>rfl) xs (fun _ _=>rfl) vs hx.2) h3
  refine ⟨F2,b1 ++ b2,e4.perm ?_,fun b hb=>e5 b (e2 b hb),b1,b2,e3.mono e5 (fun _ _=>rfl) (fun _ _=>rfl),e6,rfl⟩
  rw [← amt]
  exact List.perm_append_comm.append_right bs
 | [],_,_ :: _,_,_,_,_,_,_,h,_=>h.elim
 | _ :: _,_,[],_,_,_,_,_,_,h,_=>h.elim
theorem FL {x:PL} {y z:TV} {v:Value} {H7:List Nat} {F0:Nat → Prop} {u0:World} (h:dA bK w0 bJ N bs Fz κ σ a w) {Ol:Nat → Value} (hx:fD F0 Ol u0 x v) (M6:∀ k,k % 2 = 1 → κ k = Ol k) (hy:pI F0 u0 y v H7) (hf:∀ b,F0 b → Fz b) (hw:∀ b,F0 b → w.heap[b]? = u0.heap[b]?) (hs:kL σ x y = some (z,σ')) :
  ∃ bR bx,dA bK w0 bJ N (bx ++ bs) bR κ σ' a w ∧ (∀ b,Fz b → bR b) ∧ pI bR w z v bx:=by
 have plain:H7 = [] → some (y,σ) = some (z,σ') → ∃ bR bx,dA bK w0 bJ N (bx ++ bs) bR κ σ' a w ∧ (∀ b,Fz b → bR b) ∧ pI bR w z v bx:=by
  intro hb hs
  cases hs
  subst hb
  exact ⟨Fz,[],h,fun _ h=>h,hy.mono hf hw (fun b hb=>by simp at hb)⟩
 cases y with
 | ptr cs =>
  cases x with
  | ptr key off =>
   cases off with
   | succ n=>cases hs
   | zero =>
    simp only [kL] at hs
    split at hs
    ·rename_i hk
     exact yS h (show fD Fz κ w (.ptr key 0) v by obtain ⟨b,h1,h2⟩:=hx;exact ⟨b,(M6 key hk).trans h1,h2⟩) hs
    ·cases hs
  | _=>cases hs
 | mp sh ents =>
  cases x with
  | mp key =>
   simp only [kL] at hs
   split at hs
   ·rename_i hk
    exact yS h (show fD Fz κ w (.mp key) v by obtain ⟨h1,h2⟩:=hx;exact ⟨h1.trans (M6 key hk).symm,h2⟩) hs
   ·cases hs
  | ptr key off=>cases off <;> cases hs
  | _=>cases hs
 | own sz rows =>
  have g:z = .any → σ' = σ → ∃ bR bx,dA bK w0 bJ N (bx ++ bs) bR κ σ' a w ∧ (∀ b,Fz b → bR b) ∧ pI bR w z v bx:=by
   rintro rfl rfl
   exact ⟨Fz,[],h,fun _ h=>h,rfl⟩
  cases x with
  | ptr key off=>cases off <;> (cases hs;exact g rfl rfl)
  | own key n =>
   simp only [kL] at hs
   split at hs
   ·rename_i hk
    split at hs
    ·rename_i z' rows' gY
     cases hs
     obtain ⟨g1,g2⟩:=h.JF gY
     refine ⟨Fz,_,g1,fun _ h=>h,?_⟩
     rw [hx.1,← M6 key hk]
     exact g2
    ·cases hs
   ·cases hs;exact g rfl rfl
  | _=>cases hs;exact g rfl rfl
 | fp cs =>
  cases x with
  | ptr key off=>cases off <;> exact plain hy.2 hs
  | _=>exact plain hy.2 hs
 | fn f cs =>
  cases x with
  | ptr key off=>cases off <;> exact plain hy.2 hs
  | _=>exact plain hy.2 hs
 | any =>
  cases x with
  | ptr key off=>cases off <;> exact plain hy hs
  | _=>exact plain hy hs
 | f y =>
  cases x with
  | ptr key off=>cases off <;> exact plain hy.2 hs
  | _=>exact plain hy.2 hs
 | iW =>
  cases x with
  | ptr key off=>cases off <;> exact plain hy.2 hs
  | _=>exact plain hy.2 hs
 | gu =>
  cases x with
  | ptr key off=>cases off <;> exact plain hy.2 hs
  | _=>exact plain hy.2 hs
theorem Cj {F0:Nat → Prop} {u0:World} {Ol:Nat → Value} (M6:∀ k,k % 2 = 1 → κ k = Ol k):∀ {xs:List PL} {ys zs:List TV} {vs:List Value} {bs H7:List Nat} {Fz:Nat → Prop} {σ σ':St},dA bK w0 bJ N bs Fz κ σ a w → bG F0 Ol u0 xs vs → ny F0 u0 ys vs H7 → (∀ b,F0 b → Fz b) → (∀ b,F0 b → w.heap[b]? = u0.heap[b]?) → qh σ xs ys = some (zs,σ') →
  ∃ bR bx,dA bK w0 bJ N (bx ++ bs) bR κ σ' a w ∧ (∀ b,Fz b → bR b) ∧ ny bR w zs vs bx
 | [],[],zs,[],bs,H7,Fz,σ,σ',h,hx,hy,hf,hw,hs=>by cases hs;exact ⟨Fz,[],h,fun _ h=>h,rfl⟩
 | x :: xs,y :: ys,zs,v :: vs,bs,H7,Fz,σ,σ',h,hx,hy,hf,hw,hs=>by
  obtain ⟨y1,y2,h1,h2,_⟩:=hy
  obtain ⟨p,h3,h4⟩:=zbm hs
  obtain ⟨r,h5,h6⟩:=zmm h4
  cases h6
  obtain ⟨F1,b1,e1,e2,e3⟩:=FL h hx.1 M6 h1 hf hw h3
  obtain ⟨F2,b2,e4,e5,e6⟩:=Cj M6 e1 hx.2 h2 (fun b hb=>e2 b (hf b hb)) hw h5
  refine ⟨F2,b1 ++ b2,e4.perm ?_,fun b hb=>e5 b (e2 b hb),b1,b2,e3.mono e5 (fun _ _=>rfl) (fun _ _=>rfl),e6,rfl⟩
  rw [← amt]
  exact List.perm_append_comm.append_right bs
 | [],[],_,_ :: _,_,_,_,_,_,_,hx,_,_,_,_=>hx.elim
 | _ :: _,_ :: _,_,[],_,_,_,_,_,_,hx,_,_,_,_=>hx.elim
 | [],_ :: _,_,_,_,_,_,_,_,_,_,_,_,_,hs=>by cases hs
 | _ :: _,[],_,_,_,_,_,_,_,_,_,_,_,_,hs=>by cases hs
theorem Om {F0:Nat → Prop} {u0:World} {Ol:Nat → Value} (M6:∀ k,k % 2 = 1 → κ k = Ol k) {x:CV} {y z:AV} {v:Value} {H7:List Nat} (h:dA bK w0 bJ N bs Fz κ σ a w) (hx:gX F0 Ol u0 x v) (hy:qZ F0 u0 y v H7) (hf:∀ b,F0 b → Fz b) (hw:∀ b,F0 b → w.heap[b]? = u0.heap[b]?) (hs:zk σ x y = some (z,σ')) :
  ∃ bR bx,dA bK w0 bJ N (bx ++ bs) bR κ σ' a w ∧ (∀ b,Fz b → bR b) ∧ qZ bR w z v bx:=by
 cases x with
 | one x =>
  cases y with
  | one y =>
   obtain ⟨p,h1,h2⟩:=zmm hs
   cases h2
   exact FL h hx M6 hy hf hw h1
  | agg ys=>cases hs
 | agg xs =>
  cases y with
  | one y=>cases hs
  | agg ys =>
   obtain ⟨p,h1,h2⟩:=zmm hs
   cases h2
   obtain ⟨cs,rfl,hx⟩:=hx
   obtain ⟨cs',hcs,hy⟩:=hy
   cases hcs
   obtain ⟨F1,b1,e1,e2,e3⟩:=Cj M6 h hx hy hf hw h1
   exact ⟨F1,b1,e1,e2,cs,rfl,e3⟩
theorem Ck {F0:Nat → Prop} {u0:World} {Ol:Nat → Value} (M6:∀ k,k % 2 = 1 → κ k = Ol k):∀ {xs:List CV} {ys zs:List AV} {vs:List Value} {bs H7:List Nat} {Fz:Nat → Prop} {σ σ':St},dA bK w0 bJ N bs Fz κ σ a w → eG F0 Ol u0 xs vs → gQ F0 u0 ys vs H7 → (∀ b,F0 b → Fz b) → (∀ b,F0 b → w.heap[b]? = u0.heap[b]?) → kW σ xs ys = some (zs,σ') →
  ∃ bR bx,dA bK w0 bJ N (bx ++ bs) bR κ σ' a w ∧ (∀ b,Fz b → bR b) ∧ gQ bR w zs vs bx
 | [],[],zs,[],bs,H7,Fz,σ,σ',h,hx,hy,hf,hw,hs=>by cases hs;exact ⟨Fz,[],h,fun _ h=>h,rfl⟩
 | x :: xs,y :: ys,zs,v :: vs,bs,H7,Fz,σ,σ',h,hx,hy,hf,hw,hs=>by
  obtain ⟨y1,y2,h1,h2,_⟩:=hy
  obtain ⟨p,h3,h4⟩:=zbm hs
  obtain ⟨r,h5,h6⟩:=zmm h4
  cases h6
  obtain ⟨F1,b1,e1,e2,e3⟩:=Om M6 h hx.1 h1 hf hw h3
  obtain ⟨F2,b2,e4,e5,e6⟩:=Ck M6 e1 hx.2 h2 (fun b hb=>e2 b (hf b hb)) hw h5
  refine ⟨F2,b1 ++ b2,e4.perm ?_,fun b hb=>e5 b (e2 b hb),b1,b2,e3.mono e5 (fun _ _=>rfl) (fun _ _=>rfl),e6,rfl⟩
  rw [← amt]
  exact List.perm_append_comm.append_right bs
 | [],[],_,_ :: _,_,_,_,_,_,_,hx,_,_,_,_=>hx.elim
 | _ :: _,_ :: _,_,[],_,_,_,_,_,_,hx,_,_,_,_=>hx.elim
 | [],_ :: _,_,_,_,_,_,_,_,_,_,_,_,_,hs=>by cases hs
 | _ :: _,[],_,_,_,_,_,_,_,_,_,_,_,_,hs=>by cases hs
end
end
section
open Go
def oL (P:Program):List ResultVar → Option (List Rs)
 | []=>some []
 | .tmp t :: l=>(oL P l).map fun r=>.t t :: r
 | .cell a t :: l=>(wN P t).bind fun g=>(mU P t).bind fun n=>(oL P l).map fun r=>.cell a (if g then n else 1) g :: r
section
variable {P : Program} {Γ:Env} {bK Fz bR:Nat → Prop} {w0 w w':World} {bJ bs:List Nat} {N:Fr} {F:Nat} {κ jo:Nat → Value} {σ gJ σ':St} {a:Act} {X:Hx}
def Cm (tmps:Array Value) (r:ResultVar):Sem Value:=match r with
 | .tmp t=>pure (tmps.getD t undef)
 | .cell a t=>do loadVar t (← asAddr (tmps.getD a undef))
theorem zM (h:Rel bK w0 bJ N Fz κ σ a w):∀ {rv:List ResultVar} {rs:List Rs} {oG:List CV},oL P rv = some rs → slots σ rs = some oG → ∃ vs,(rv.mapM (Cm a.tmps)).run P w = .ok vs w ∧ eG Fz κ w oG vs
 | [],rs,oG,hc,hs=>by cases hc;cases hs;exact ⟨[],by simp,trivial⟩
 | .tmp t :: l,rs,oG,hc,hs=>by
  obtain ⟨r,h1,rfl⟩:=zmm hc
  obtain ⟨x,h2,hs⟩:=zbm hs
  obtain ⟨m,h3,rfl⟩:=zmm hs
  obtain ⟨vs,e1,e2⟩:=zM h h1 h3
  have hv:=h.eval (x:=.tmp t) (y:=.t t) rfl h2
  refine ⟨a.tmps.getD t undef :: vs,?_,hv,e2⟩
  rw [List.mapM_cons]
  simp [Cm,e1]
 | .cell ad t :: l,rs,oG,hc,hs=>by
  obtain ⟨g,hg,hc⟩:=zbm hc
  obtain ⟨n,hn,hc⟩:=zbm hc
  obtain ⟨r,h1,rfl⟩:=zmm hc
  obtain ⟨x,h2,hs⟩:=zbm hs
  obtain ⟨m,h3,rfl⟩:=zmm hs
  obtain ⟨vs,e1,e2⟩:=zM h h1 h3
  simp only [slot] at h2
  split at h2
  ·rename_i key off hk
   split at h2
   ·rename_i xs gY
    obtain ⟨sg,h5,h6⟩:=zbm h2
    have hv:jc Fz κ w (.c (.one (.ptr key off))) (a.tmps.getD ad undef):=h.val hk
    obtain ⟨b,g1,g2⟩:=hv
    obtain ⟨b',cs,e,g3,g4,g5⟩:=h.obj gY
    rw [g1] at g3
    cases g3
    obtain ⟨e6,e7,e8⟩:=g5.seg h5
    obtain ⟨v,e9,e10⟩:=oJ (P:=P) (b:=b) (o:=off) hg hn e6 (fun j v hj=>by
     have:=l9 (w:=w) (b:=b) (o:=0) (off:=off) (vs:=cs.toList) (n:=if g then n else 1) (fun j v hj=>by
      rw [amc]
      simp only [World.cell?,g4]
      simpa using hj) j v hj
     rwa [amc] at this) e7 h6
    refine ⟨v :: vs,?_,e10,e2⟩
    have ha:(asAddr (a.tmps.getD ad undef)).run P w = .ok ⟨b,off,none⟩ w:=by rw [g2];rfl
    have hro:(Cm a.tmps (.cell ad t)).run P w = .ok v w:=by
     simp only [Cm,Sem.run_bind,ha,Result.andThen_ok]
     exact e9
    rw [List.mapM_cons]
    simp only [Sem.run_bind,hro,e1,Result.andThen_ok,Sem.run_pure]
   ·cases h2
  ·cases h2
theorem Iu (h:Rel bK w0 bJ N Fz κ σ a w) {fn:Func} {rs:List Rs} {oG:List CV} (hc:oL P fn.results.toList = some rs) (hs:slots σ rs = some oG):∃ vs,(results fn a.tmps).run P w = .ok (ret vs) w ∧ eG Fz κ w oG vs:=by
 obtain ⟨vs,h1,h2⟩:=zM h hc hs
 refine ⟨vs,?_,h2⟩
 have he:results fn a.tmps = (do let vs ← fn.results.mapM (Cm a.tmps);pure (if h:vs.size = 1 then vs[0] else .tuple vs)):=by
  unfold results Cm
  congr 1
 rw [he,Array.mapM_eq_mapM_toList]
 simp only [Sem.run_bind,Sem.run_map,h1,Result.andThen_ok,Sem.run_pure]
 match vs with
 | []=>rfl
 | [x]=>rfl
 | x :: y :: l=>simp [ret]
theorem Oo {fn:Func} {cf:CF} {gN rs uy:List AV} {vals:List Value} {oG:List CV} {N:Fr} (hr:oL P fn.results.toList = some cf.res) (ha:gQ Fz w gN vals bs) (hap:∀ b ∈ bs,¬ Fz b ∧ b < w.heap.size) (hfz:∀ b,Fz b → b < w.heap.size) (g2:eG Fz jo w oG vals) :
  ∀ a' w',Ok Fz w bs N jo σ a' w' → ((kW σ oG gN).bind fun b=>(slots b.2 cf.res).bind fun l=>(nR cf.ro b.2 l).map fun r=>(r.1,b.1)) = some (rs,uy) →
    a'.defers = N.ds ∧ ∃ v,(results fn a'.tmps).run P w' = .ok v w' ∧ ∃ bR wR b1 b2,Ending.returned v = .returned (ret wR) ∧ Post Fz w vals bs rs uy bR w' wR b1 b2:=by
 rintro a' w' ⟨F1,κ,hr1,hk⟩ hE
 obtain ⟨b,h3,hE⟩:=zbm hE
 obtain ⟨l,h4,hE⟩:=zbm hE
 obtain ⟨r,h5,h6⟩:=zmm hE
 cases h6
 have hmv:∀ b,Fz b → w'.heap[b]? = w.heap[b]?:=fun b hb=>hr1.ext b (hfz b hb) (fun hm=>(hap b hm).1 hb)
 obtain ⟨F2,b1,e1,e2,e3⟩:=Ck hk hr1.x g2 ha (fun b hb=>hr1.Bc b hb) hmv h3
 rw [amC] at e1
 obtain ⟨wR,e4,e5⟩:=Iu e1.rel hr h4
 obtain ⟨F3,b2,e6,e7,e8⟩:=FJ e1 e5 h5
 have hpm:=e6.perm List.perm_append_comm
 refine ⟨hr1.kM,ret wR,e4,F3,wR,b1,b2,rfl,fun b hb=>e7 b (e2 b (hr1.Bc b hb)),fun b hb=>e6.rel.fz b hb,hr1.big,hr1.ext,hr1.kp,e3.mono e7 (fun _ _=>rfl) (fun _ _=>rfl),e8,hpm.kM,fun b hb=>?_⟩
 have:=hpm.ap b hb
 exact ⟨this.1,this.2.1,this.2.2.1⟩
theorem gQ.len : ∀ {xs:List AV} {vs:List Value} {b:List Nat},gQ Fz w xs vs b → vs.length = xs.length
 | [],[],_,_=>rfl
 | [],_ :: _,_,h=>h.elim
 | _ :: _,[],_,h=>h.elim
 | x :: xs,v :: vs,_,⟨_,_,_,h2,_⟩=>by simp [gQ.len h2]
theorem entered {bo:List Nat} {n:Nat} {gN:List AV} {vals:List Value} {oG:List CV} (ha:gQ Fz w gN vals bs) (hnd:bs.Nodup) (hap:∀ b ∈ bs,¬ Fz b ∧ b < w.heap.size) (hfz:∀ b,Fz b → b < w.heap.size)
  (hsz:(vals.toArray ++ Array.replicate (n - vals.toArray.size) undef).size = n) (h1:enter bo 0 [] ⟨[],[]⟩ gN = some (oG,σ)) :
  ∃ jo,Ok Fz w bs (Fr.of n) jo σ { tmps:=vals.toArray ++ Array.replicate (n - vals.toArray.size) undef,defers:=[] } w ∧ eG Fz jo w oG vals:=by
 have abe:dA Fz w bs (Fr.of n) (bs ++ []) Fz (fun _=>undef) ⟨[],[]⟩ { tmps:=vals.toArray ++ Array.replicate (n - vals.toArray.size) undef,defers:=[] } w :=
  ⟨⟨fun p hp=>by simp at hp,hsz,rfl,fun d hd=>by
   rw [amq,amL (by rw [hsz];simpa [Fr.of,Xc] using hd)];rfl,fun p hp=>by simp at hp,fun p hp=>by simp at hp,fun p hp=>by simp at hp,fun b hb=>⟨hfz b hb,.inl hb⟩,fun _ h=>h,alC _,fun _ _ _=>rfl,rfl,rfl⟩,by rw [amC];exact hnd,fun b hb=>by
   rw [amC] at hb
   exact ⟨(hap b hb).1,(hap b hb).2,.inl hb,fun p hp=>by simp at hp⟩⟩
 obtain ⟨jo,g1,g2,_⟩:=FE abe ha (fun j v hj=>by
  rw [amc,amq,Array.getElem?_append_left (by
   have:=(amm.mp hj).1
   simpa using this)]
  simp [hj]) (show bG Fz (fun _=>undef) w [] [] from trivial) h1
 exact ⟨jo,⟨Fz,jo,g1.rel,fun _ _=>rfl⟩,g2⟩
theorem Cn (hm:P.follows .mixedOrders = true) (heq:∀ t ∈ X.eqs,mI P t) (mV:jg P Γ) (hC:fE P Γ) {f:FuncId} {fn:Func} {c:Code} (hf:P.funcs[f]? = some fn) (hb:fn.body = some c) {cf:CF} {hints rest:List Hi}
  (hc:comp P X (Xc fn.ntmps) c hints = some (cf.body,rest)) (hr:oL P fn.results.toList = some cf.res) (hnp:cf.np ≤ fn.ntmps) (F:Nat):Sat P f (M5 Γ F cf):=by
 intro gN rs uy hE Fz w vals bs ha hnd hap hfz
 unfold M5 at hE
 split at hE
 ·cases hE
 ·rename_i hlen
  have hlen':gN.length = cf.np:=aml.mp hlen
  have hvl:vals.length = gN.length:=ha.len
  obtain ⟨e,h1,hE⟩:=zbm hE
  obtain ⟨p,h2,hE⟩:=zbm hE
  refine calls_of_wp hf hb ?_
  have hsz:(vals.toArray ++ Array.replicate (fn.ntmps - vals.toArray.size) undef).size = fn.ntmps:=by simp;omega
  obtain ⟨jo,hok,g2⟩:=entered ha hnd hap hfz hsz h1
  have fin:=fun a' w'=>Oo (σ:=p.2) (N:=Fr.of fn.ntmps) (rs:=rs) (uy:=uy) (cf:=cf) hr ha hap hfz g2 a' w'
  refine FD hm heq mV hC c hc hok h2 fun a' w' hO=>?_
  cases hp:p.1 with
  | jP=>rw [hp] at hE;exact fin a' w' hO hE
  | ret=>rw [hp] at hE;exact fin a' w' hO hE
  | ext id=>rw [hp] at hE;cases hE
end
end
section
open Go
structure Tok {α:Type} (k:α → Prop):Type where
def W {α:Type} (k:α → Prop) (_:Tok k) (x:Option α):Prop:=∃ a,x = some a ∧ k a
section
variable {α β:Type} {k:α → Prop} {u:Tok k}
theorem iJ {a:α}:W k u (some a) ↔ k a:=by simp [W]
theorem wS : W k u none ↔ False:=by simp [W]
theorem Iw {x:Option β} {f:β → Option α}:W k u (x.bind f) ↔ W (fun a=>W k ⟨⟩ (f a)) ⟨⟩ x:=by
 cases x <;> simp [W]
theorem Oq {x:Option β} {f:β → α}:W k u (x.map f) ↔ W (fun a=>k (f a)) ⟨⟩ x:=by
 cases x <;> simp [W]
theorem abf {c:Prop} [Decidable c] {a b:Option α}:W k u (if c then a else b) ↔ (c → W k u a) ∧ (¬ c → W k u b):=by
 by_cases h:c <;> simp [h]
theorem Iy {c:Prop} [Decidable c] {a:Option α}:W k u (if c then a else none) ↔ c ∧ W k u a:=by
 by_cases h:c <;> simp [h,wS]
theorem Iz {c:Prop} [Decidable c] {a:Option α}:W k u (if c then none else a) ↔ ¬ c ∧ W k u a:=by
 by_cases h:c <;> simp [h,wS]
theorem wT {j:α → Prop} {x:Option α} (h:W j ⟨⟩ x) (hi:∀ a,j a → k a):W k u x:=by
 obtain ⟨a,h1,h2⟩:=h;exact ⟨a,h1,hi a h2⟩
end
def V {α:Type} (k:α → Prop) (x:Option α):Prop:=∃ a,x = some a ∧ k a
section
variable {α β:Type} {k:α → Prop} {u:Tok k}
theorem eT {x:Option α}:W k u x ↔ V k x:=alM
theorem bO {a:α}:V k (some a) ↔ k a:=by simp [V]
theorem jX : V k none ↔ False:=by simp [V]
theorem bF {x:Option β} {f:β → Option α}:V k (x.bind f) ↔ V (fun a=>V k (f a)) x:=by
 cases x <;> simp [V]
theorem dG {x:Option β} {f:β → α}:V k (x.map f) ↔ V (fun a=>k (f a)) x:=by
 cases x <;> simp [V]
theorem bV {c:Prop} [Decidable c] {a:Option α}:V k (if c then a else none) ↔ c ∧ V k a:=by
 by_cases h:c <;> simp [h,jX]
theorem dR {c:Prop} [Decidable c] {a:Option α}:V k (if c then none else a) ↔ ¬ c ∧ V k a:=by
 by_cases h:c <;> simp [h,jX]
theorem dI {j:β → Prop}:V k none ↔ V j none:=jX.trans jX.symm
theorem mX {j:β → Prop} {a:α} {b:β} (h:k a ↔ j b):V k (some a) ↔ V j (some b):=bO.trans (h.trans bO.symm)
theorem dN {x:Option α} {j:α → Prop} (h:∀ a,j a ↔ k a):V j x ↔ V k x:=by
 have:j = k:=funext fun a=>propext (h a)
 rw [this]
end
structure Tk2 (A B:Unit → Prop):Type where
def Br (b:Bool) (A B:Unit → Prop) (_:Tk2 A B):Prop:=(b = true → A ()) ∧ (b = false → B ())
theorem R5 {A B:Unit → Prop} {u:Tk2 A B}:Br true A B u ↔ A ():=by simp [Br]
theorem Ot {A B:Unit → Prop} {u:Tk2 A B}:Br false A B u ↔ B ():=by simp [Br]
theorem XL {b:Bool} {A B:Unit → Prop} {u:Tk2 A B}:Br (!b) A B u ↔ Br b B A ⟨⟩:=by cases b <;> simp [Br]
theorem bQ {b:Bool} {A B:Unit → Prop} {u:Tk2 A B} (h1:b = true → A ()) (h2:b = false → B ()):Br b A B u:=⟨h1,h2⟩
theorem Ou {α:Type} {x:Option α} {a:α} (h:W (fun b=>b = a) ⟨⟩ x):x = some a:=by
 obtain ⟨b,h1,rfl⟩:=h;exact h1
theorem D7 {body:St → Option (Out × St)} {rs:St → St} {k:Out × St → Prop} {u:Tok k} (I:Nat → St → Prop)
  (hstep:∀ m σ,I m σ → W (fun p=>match p.1 with
   | .jP=>∃ j,j < m ∧ I j p.2
   | o=>k (o,p.2)) ⟨⟩ (body (rs σ))):∀ (F m:Nat) (σ:St),m < F → I m σ → W k u (iter body rs F σ)
 | 0,m,σ,h,_=>by omega
 | F + 1,m,σ,h,hI=>by
  obtain ⟨p,h1,h2⟩:=hstep m σ hI
  unfold iter
  rw [h1,Option.bind_some]
  obtain ⟨o,s⟩:=p
  cases o with
  | jP =>
   obtain ⟨j,hj,hI'⟩:=h2
   exact D7 I hstep F j s (by omega) hI'
  | ext i=>exact iJ.mpr h2
  | ret=>exact iJ.mpr h2
theorem JZ {body:St → Option (Out × St)} {rs:St → St} {k:Out × St → Prop} {u:Tok k} {F:Nat} (N:Nat) (S:Nat → St) (P:Nat → Prop) (hF:N < F) (h0:P 0)
  (step:∀ i,i < N → P i → W (fun p=>match p.1 with
   | .jP=>p.2 = S (i + 1) ∧ P (i + 1)
   | o=>k (o,p.2)) ⟨⟩ (body (rs (S i))))
  (last:P N → W (fun p=>match p.1 with
   | .jP=>False
   | o=>k (o,p.2)) ⟨⟩ (body (rs (S N)))):W k u (iter body rs F (S 0)):=by
 refine D7 (fun m σ=>∃ i,i ≤ N ∧ m = N - i ∧ σ = S i ∧ P i) ?_ F N (S 0) hF ⟨0,amn _,rfl,rfl,h0⟩
 rintro m σ ⟨i,hi,rfl,rfl,hP⟩
 by_cases hlt:i < N
 ·refine wT (step i hlt hP) fun p hp=>?_
  obtain ⟨o,s⟩:=p
  cases o with
  | jP=>exact ⟨N - (i + 1),by omega,i + 1,by omega,rfl,hp.1,hp.2⟩
  | ext j=>exact hp
  | ret=>exact hp
 ·have:i = N:=by omega
  subst this
  refine wT (last hP) fun p hp=>?_
  obtain ⟨o,s⟩:=p
  cases o with
  | jP=>exact hp.elim
  | ext j=>exact hp
  | ret=>exact hp
def look : List (FuncId × CF) → FuncId → Option CF
 | [],_=>none
 | (k,c) :: l,f=>if k = f then some c else look l f
noncomputable def Gm (zN:List (FuncId × CF)) (ext:Env) (F:Nat):Nat → Env
 | 0=>fun _ _=>none
 | n + 1=>fun f gN=>match look zN f with
  | some cf=>M5 (Gm zN ext F n) F cf gN
  | none=>ext f gN
structure jy (P:Program) (f:FuncId) (cf:CF):Prop where
 ok:∃ fn c X hints rest,P.funcs[f]? = some fn ∧ (fn.name == "runtime.NumGoroutine") = false ∧ fn.body = some c ∧ (∀ t ∈ X.eqs,mI P t) ∧ comp P X (Xc fn.ntmps) c hints = some (cf.body,rest) ∧ oL P fn.results.toList = some cf.res ∧ cf.np ≤ fn.ntmps
theorem zO : ∀ {l:List (FuncId × CF)} {f:FuncId} {c:CF},look l f = some c → (f,c) ∈ l
 | [],_,_,h=>by cases h
 | (k,d) :: l,f,c,h=>by
  unfold look at h
  split at h
  ·rename_i e;subst e;cases h;simp
  ·exact amu _ (zO h)
theorem Ov {P:Program} {zN:List (FuncId × CF)} {ext:Env} {F:Nat} (hm:P.follows .mixedOrders = true) (ht:∀ p ∈ zN,jy P p.1 p.2) (he:jg P ext) (hec:fE P ext):∀ n,jg P (Gm zN ext F n) ∧ fE P (Gm zN ext F n)
 | 0=>⟨fun f gN rs uy h=>by simp [Gm] at h,fun f gN r h=>by simp [Gm] at h⟩
 | n + 1=>by
  obtain ⟨h1,h2⟩:=Ov hm ht he hec n
  constructor
  ·intro f
   cases hl:look zN f with
   | none =>
    have:Gm zN ext F (n + 1) f = ext f:=by funext gN;simp only [Gm,hl]
    rw [this];exact he f
   | some cf =>
    have:Gm zN ext F (n + 1) f = M5 (Gm zN ext F n) F cf:=by funext gN;simp only [Gm,hl]
    rw [this]
    obtain ⟨fn,c,X,hints,rest,e1,_,e2,e3,e4,e5,e6⟩:=(ht _ (zO hl)).ok
    exact Cn hm e3 h1 h2 e1 e2 e4 e5 e6 F
  ·intro f gN r h
   cases hl:look zN f with
   | none=>exact hec f gN r (by simpa only [Gm,hl] using h)
   | some cf =>
    obtain ⟨fn,c,X,hints,rest,e1,e0,e2,_⟩:=(ht _ (zO hl)).ok
    exact ⟨fn,e1,e0,by rw [e2];rfl⟩
theorem cZ {zN:List (FuncId × CF)} {ext:Env} {F n:Nat} {f:FuncId} {cf:CF} {gN:List AV} {r:List AV × List AV} (hl:look zN f = some cf) (h:W (fun z=>z = r) ⟨⟩ (M5 (Gm zN ext F n) F cf gN)):Gm zN ext F (n + 1) f gN = some r:=by
 simp only [Gm,hl]
 exact Ou h
theorem kY {zN:List (FuncId × CF)} {ext:Env} {F n:Nat} {f:FuncId} (hl:look zN f = none):Gm zN ext F (n + 1) f = ext f:=by
 funext gN;simp only [Gm,hl]
end
section
open Go Go.RowKit
def YK : SV → TV
 | .int k n=>.f (.int k n)
 | .bool b=>.f (.bool b)
 | .str s=>.f (.str s)
def IW (l:List SV):List AV:=l.map fun x=>.one (YK x)
section
variable {P : Program} {Fz:Nat → Prop} {w:World}
theorem Kh {x:SV} {v:Value} {bs:List Nat}:pI Fz w (YK x) v bs ↔ v = encS x ∧ bs = []:=by
 cases x <;> simp only [YK,pI,fU,encS]
theorem zW : ∀ {l:List SV} {vs:List Value} {bs:List Nat},gQ Fz w (IW l) vs bs → vs = l.map encS ∧ bs = []
 | [],[],_,h=>⟨rfl,h⟩
 | [],_ :: _,_,h=>h.elim
 | _ :: _,[],_,h=>h.elim
 | x :: l,v :: vs,_,⟨b1,b2,h1,h2,e⟩=>by
  obtain ⟨e1,e2⟩:=Kh.mp h1
  obtain ⟨e3,e4⟩:=zW (l:=l) h2
  subst e1;subst e2;subst e3;subst e4
  exact ⟨rfl,by rw [e];rfl⟩
theorem vI : ∀ {l:List SV},gQ Fz w (IW l) (l.map encS) []
 | []=>rfl
 | x :: l=>⟨[],[],Kh.mpr ⟨rfl,rfl⟩,vI (l:=l),rfl⟩
theorem Sat.yx {f:FuncId} {g:List AV → Option (List AV × List AV)} (h:∀ gN r,g gN = some r → ∃ ZZ9 rs:List SV,gN = IW ZZ9 ∧ r = (IW rs,IW ZZ9) ∧
  ∀ w:World,Calls P f (ZZ9.map encS).toArray w fun e w'=>e = .returned (ret (rs.map encS)) ∧ Below w.heap.size w w'):Sat P f g:=by
 intro gN rs uy hg Fz w vals bs ha hnd hap hfz
 obtain ⟨ZZ9,rs',rfl,e,hc⟩:=h gN _ hg
 cases e
 obtain ⟨rfl,rfl⟩:=zW ha
 refine (hc w).mono fun e w' ⟨h1,hb'⟩=>?_
 exact ⟨Fz,rs'.map encS,[],[],h1,fun _ h=>h,fun b hb=>⟨amk (hfz b hb) hb'.size,.inl hb⟩,hb'.size,fun b hb _=>hb'.block b hb,⟨hb'.os,hb'.output⟩,vI,vI,by simp,fun b hb=>by simp at hb⟩
def pV : List (FuncId × (List AV → Option (List AV × List AV))) → Env
 | []=>fun _ _=>none
 | (k,g) :: l=>fun f gN=>if k = f then g gN else pV l f gN
theorem zX : ∀ {l:List (FuncId × (List AV → Option (List AV × List AV)))},(∀ p ∈ l,Sat P p.1 p.2) → jg P (pV l)
 | [],_=>fun f gN rs uy h=>by cases h
 | (k,g) :: l,h=>fun f gN rs uy he=>by
  unfold pV at he
  split at he
  ·rename_i e;subst e;exact h (k,g) (by simp) gN rs uy he
  ·exact zX (fun p hp=>h p (amu _ hp)) f gN rs uy he
theorem uz : ∀ {l:List (FuncId × (List AV → Option (List AV × List AV)))},(∀ p ∈ l,∃ fn,P.funcs[p.1]? = some fn ∧ (fn.name == "runtime.NumGoroutine") = false ∧ fn.body.isSome = true) → fE P (pV l)
 | [],_=>fun f gN r h=>by cases h
 | (k,g) :: l,h=>fun f gN r he=>by
  unfold pV at he
  split at he
  ·rename_i e;subst e;exact h (k,g) (by simp)
  ·exact uz (fun p hp=>h p (amu _ hp)) f gN r he
end
end
section
open Go
def Wm (n:Nat) (ks:List Nat):Nat → Bool:=fun d=>decide (d < n) && !ks.contains d
noncomputable def Ph (Γ:Env) (F:Nat) (ca cb:CC) (s:Nat) (D:St → Option St) (cf:CF) (gN:List AV):Option (List AV × List AV) :=
 if gN.length ≠ cf.np then none else (enter cf.bo 0 [] ⟨[],[]⟩ gN).bind fun e=>(ev Γ F ca e.2).bind fun p=>match p.1 with
  | .jP=>(ev Γ F cb ⟨put p.2.tm s (.c (.one .any)),p.2.ob⟩).bind fun q=>match q.1 with
   | .ext _=>none
   | _=>(D q.2).bind fun t=>(kW t e.1 gN).bind fun b=>(slots b.2 cf.res).bind fun l=>(nR cf.ro b.2 l).map fun r=>(r.1,b.1)
  | _=>none
section
variable {P : Program} {Γ:Env} {bK Fz bR:Nat → Prop} {w0 w w':World} {bJ bs:List Nat} {N:Fr} {F:Nat} {κ jo:Nat → Value} {σ gJ σ':St} {a:Act} {X:Hx}
theorem Ok.reN (h:Ok bK w0 bJ N jo σ a w) (N':Fr) (hn:N'.n = N.n) (hfs:∀ d,N'.ok d = false → a.tmps.getD d undef = N'.vs d):Ok bK w0 bJ N' jo σ { a with defers:=N'.ds } w:=by
 obtain ⟨Fz,κ,h,hk⟩:=h
 exact ⟨Fz,κ,⟨h.tm,h.sz.trans hn.symm,rfl,hfs,h.ob,h.wM,h.pos,h.fz,h.Bc,h.big,h.ext,h.kp⟩,hk⟩
theorem IX (hm:P.follows .mixedOrders = true) (heq:∀ t ∈ X.eqs,mI P t) (mV:jg P Γ) (hC:fE P Γ) {f g:FuncId} {fn gn:Func} {a1 a2 r:Code} {id s c1 c2 t1 t2:Nat} {p1 p2:String} {IB IC:Array Edge} (hf:P.funcs[f]? = some fn)
  (hb:fn.body = some (.seq a1 (.seq a2 (.seq (.region id #[{ dst:=some s,op:=.makeFunc (.func g) #[] #[.tmp c1,.tmp c2],type:=t1,pos:=p1,after:=IB,guard:=none },{ dst:=none,op:=.defer { callee:=.value (.tmp s),args:=#[],argTypes:=#[] },type:=t2,pos:=p2,after:=IC,guard:=none }] false) r))))
  (hg:P.funcs[g]? = some gn) (hgn:(gn.name == "runtime.NumGoroutine") = false) (hgb:gn.body.isSome = true) {cf:CF} {ca cb:CC} {ha hb' ra rb:List Hi}
  (hca:comp P X (Xc fn.ntmps) (.seq a1 a2) ha = some (ca,ra)) (hcb:comp P X (Wm fn.ntmps [c1,c2]) r hb' = some (cb,rb)) (hr:oL P fn.results.toList = some cf.res) (hnp:cf.np ≤ fn.ntmps) (hs:s < fn.ntmps) (hs1:c1 ≠ s) (hs2:c2 ≠ s) {D:St → Option St}
  (hD:∀ (bK:Nat → Prop) (w0:World) (bJ:List Nat) (N:Fr) (jo:Nat → Value) (σ σ':St) (a:Act) (w:World),Ok bK w0 bJ N jo σ a w → D σ = some σ' → CallsD P g #[a.tmps.getD c1 undef,a.tmps.getD c2 undef] .returning w fun e u w'=>u = .returning ∧ (∃ v,e = .returned v) ∧ Ok bK w0 bJ N jo σ' a w')
  (F:Nat):Sat P f (Ph Γ F ca cb s D cf):=by
 intro gN rs uy hE Fz w vals bs ZL hnd hap hfz
 unfold Ph at hE
 split at hE
 ·cases hE
 rename_i hlen
 have hlen':gN.length = cf.np:=aml.mp hlen
 have hvl:vals.length = gN.length:=ZL.len
 obtain ⟨e,h1,hE⟩:=zbm hE
 obtain ⟨p,h2,hE⟩:=zbm hE
 refine calls_of_wp_defers hf hb ?_
 have hsz:(vals.toArray ++ Array.replicate (fn.ntmps - vals.toArray.size) undef).size = fn.ntmps:=by simp;omega
 obtain ⟨jo,hok,g2⟩:=entered (bo:=cf.bo) ZL hnd hap hfz hsz h1
 cases hp:p.1 with
 | ext i=>rw [hp] at hE;cases hE
 | ret=>rw [hp] at hE;cases hE
 | jP =>
 rw [hp] at hE
 obtain ⟨q,h3,hEq⟩:=zbm hE
 obtain ⟨x1,hx1,hx2⟩:=zbm hca
 obtain ⟨x2,hx3,hx4⟩:=zmm hx2
 cases hx4
 obtain ⟨y1,hy1,hy2⟩:=zbm h2
 have hyn:y1.1 = .jP ∧ ev Γ F x2.1 y1.2 = some p:=by
  cases hy:y1.1 with
  | jP=>rw [hy] at hy2;exact ⟨rfl,hy2⟩
  | ext i=>rw [hy] at hy2;cases hy2;cases hp
  | ret=>rw [hy] at hy2;cases hy2;cases hp
 obtain ⟨hy3,hy4⟩:=hyn
 refine wp_seq (FD hm heq mV hC a1 hx1 hok hy1 fun b1 u1 k1=>?_)
 rw [hy3]
 refine wp_seq (FD hm heq mV hC a2 hx3 k1 hy4 fun b2 u2 k2=>?_)
 rw [hp]
 refine wp_seq ?_
 have hmk:∀ v1 v2:Value,(Instr.makeFunc (.func g) #[] #[v1,v2]).run P u2 = .ok (.func (.func g) #[] #[v1,v2]) u2:=fun _ _=>rfl
 obtain ⟨v1,hv1⟩:∃ v,v = b2.tmps.getD c1 undef:=⟨_,rfl⟩
 obtain ⟨v2,hv2⟩:∃ v,v = b2.tmps.getD c2 undef:=⟨_,rfl⟩
 obtain ⟨b3,hb3⟩:∃ b,b = b2.put (some s) (.func (.func g) #[] #[v1,v2]):=⟨_,rfl⟩
 have hdef:b2.defers = []:=by obtain ⟨_,_,hr2,_⟩:=k2;exact hr2.kM
 have hsz2:b2.tmps.size = fn.ntmps:=by obtain ⟨_,_,hr2,_⟩:=k2;exact hr2.sz
 have hk3:Ok Fz w bs (Fr.of fn.ntmps) jo ⟨put p.2.tm s (.c (.one .any)),p.2.ob⟩ b3 u2:=by
  obtain ⟨F2,Ih,hr2,hk2⟩:=k2
  rw [hb3]
  exact ⟨F2,Ih,hr2.put (by simpa [Fr.of,Xc] using hs) (pv:=.c (.one .any)) trivial,hk2⟩
 have hts:∀ d,d ≠ s → b3.tmps.getD d undef = b2.tmps.getD d undef:=fun d hd=>by
  rw [hb3]
  simp only [Act.put,amq,amJ]
  rw [aly (fun e=>hd e.symm)]
 obtain ⟨N1,hN1⟩:∃ N:Fr,N = ⟨fn.ntmps,[{ target:=.fn (.func g) #[v1,v2],args:=#[] }],Wm fn.ntmps [c1,c2],fun d h=>by simp [Wm] at h;omega,fun d=>b3.tmps.getD d undef⟩:=⟨_,rfl⟩
 have hk4:=hk3.reN N1 (by rw [hN1];rfl) (fun d _=>by rw [hN1])
 refine wp_region_lit (l:=[_,_]) ?_
 unfold wpList
 rw [alx (show Region.wanted _ _ = true from rfl)]
 left
 have r1:(execOp b2.eval { dst:=some s,op:=.makeFunc (.func g) #[] #[.tmp c1,.tmp c2],type:=t1,pos:=p1,after:=IB,guard:=none }).run P u2 = .ok (.value (.func (.func g) #[] #[v1,v2])) u2:=by
  unfold execOp
  simp [Act.eval,hmk,← hv1,← hv2]
 unfold Oper.wp
 rw [r1]
 show wpList P _ _ _ (b2.put (some s) _) u2
 rw [← hb3]
 unfold wpList
 rw [alx (show Region.wanted _ _ = true from rfl)]
 left
 have r2:(execOp b3.eval { dst:=none,op:=.defer { callee:=.value (.tmp s),args:=#[],argTypes:=#[] },type:=t2,pos:=p2,after:=IC,guard:=none }).run P u2 = .ok (.defer { target:=.fn (.func g) #[v1,v2],args:=#[] }) u2:=by
  have hvs:b3.eval (.tmp s) = .func (.func g) #[] #[v1,v2]:=by
   rw [hb3]
   simp only [Act.eval,Act.put,amq,amJ]
   rw [alx trivial,alx (by rw [hsz2];exact hs)]
   rfl
  unfold execOp resolve
  simp only [hvs]
  simp [Deferred.ofValue]
 unfold Oper.wp
 rw [r2]
 show wpList P _ _ _ { b3 with defers:={ target:=.fn (.func g) #[v1,v2],args:=#[] } :: b3.defers } u2
 unfold wpList
 show r.wp P _ _ _
 have hd3:b3.defers = []:=by rw [hb3];exact hdef
 rw [hd3]
 rw [hN1] at hk4
 refine FD hm heq mV hC r hcb hk4 h3 fun b4 u4 k4=>?_
 have hkeep:∀ d,(d = c1 ∨ d = c2) → b4.tmps.getD d undef = b3.tmps.getD d undef:=fun d hd=>by
  obtain ⟨_,_,hr4,_⟩:=k4
  exact hr4.fs d (by simp [Wm];rcases hd with rfl | rfl <;> simp)
 have hds:b4.defers = [{ target:=.fn (.func g) #[v1,v2],args:=#[] }]:=by obtain ⟨_,_,hr4,_⟩:=k4;exact hr4.kM
 have fin:(∃ t,D q.2 = some t ∧ ((kW t e.1 gN).bind fun b=>(slots b.2 cf.res).bind fun l=>(nR cf.ro b.2 l).map fun r=>(r.1,b.1)) = some (rs,uy)) → Leaves P fn b4.tmps (fun e w'=>∃ bR wR b1 b2,e = .returned (ret wR) ∧ Post Fz w vals bs rs uy bR w' wR b1 b2) b4.defers .returning u4:=by
  rintro ⟨t,d1,d2⟩
  rw [hds]
  refine leaves_cons (f:=g) (args:=#[v1,v2]) (by simp) ?_ ?_
  ·show (callFunc g (#[] ++ #[v1,v2])).run P u4 = _
   rw [qG hg hgn hgb]
   simp
  ·have hcd:=hD Fz w bs _ jo q.2 t b4 u4 k4 d1
   rw [hkeep c1 (.inl rfl),hkeep c2 (.inr rfl),hts c1 hs1,hts c2 hs2,← hv1,← hv2] at hcd
   refine hcd.mono ?_
   rintro e' u' w' ⟨rfl,⟨v,rfl⟩,k5⟩
   show Leaves P fn b4.tmps _ [] (settle .returning) w'
   obtain ⟨_,v',g3,g4⟩:=Oo hr ZL hap hfz g2 b4 w' k5 d2
   exact ⟨v',g3,g4⟩
 cases hq:q.1 with
 | ext i=>rw [hq] at hEq;cases hEq
 | jP =>
  rw [hq] at hEq
  obtain ⟨t,d1,d2⟩:=zbm hEq
  exact fin ⟨t,d1,d2⟩
 | ret =>
  rw [hq] at hEq
  obtain ⟨t,d1,d2⟩:=zbm hEq
  exact fin ⟨t,d1,d2⟩
noncomputable def Dcl (Γ:Env) (F:Nat) (cc:CC) (c1 c2:Nat) (σ:St):Option St:=match get σ.tm c1,get σ.tm c2 with
 | some x,some y=>(ev Γ F cc ⟨[(0,x),(1,y)],σ.ob⟩).bind fun p=>match p.1 with
  | .ext _=>none
  | _=>(get p.2.tm 0).map fun z=>⟨[(c1,z)],p.2.ob⟩
 | _,_=>none
theorem YL (hm:P.follows .mixedOrders = true) (heq:∀ t ∈ X.eqs,mI P t) (mV:jg P Γ) (hC:fE P Γ) {g:FuncId} {gn:Func} {c:Code} {cc:CC} {h1 h2:List Hi} {c1 c2:Nat} (hg:P.funcs[g]? = some gn) (hb:gn.body = some c) (hc:comp P X (Wm gn.ntmps [0]) c h1 = some (cc,h2)) (hr:gn.results = #[]) (hn:2 ≤ gn.ntmps) (F:Nat)
  (bK:Nat → Prop) (w0:World) (bJ:List Nat) (N:Fr) (jo:Nat → Value) (σ σ':St) (a:Act) (w:World) (hO:Ok bK w0 bJ N jo σ a w) (hd:Dcl Γ F cc c1 c2 σ = some σ') :
  CallsD P g #[a.tmps.getD c1 undef,a.tmps.getD c2 undef] .returning w fun e u w'=>u = .returning ∧ (∃ v,e = .returned v) ∧ Ok bK w0 bJ N jo σ' a w':=by
 unfold Dcl at hd
 split at hd
 ·rename_i x y hx hy
  obtain ⟨p,h3,hd⟩:=zbm hd
  obtain ⟨b0,hb0⟩:∃ b:Act,b = { tmps:=#[a.tmps.getD c1 undef,a.tmps.getD c2 undef] ++ Array.replicate (gn.ntmps - 2) undef,defers:=[] }:=⟨_,rfl⟩
  have e0:b0.tmps.getD 0 undef = a.tmps.getD c1 undef:=by rw [hb0];simp [amq,Array.getElem?_append]
  have e1:b0.tmps.getD 1 undef = a.tmps.getD c2 undef:=by rw [hb0];simp [amq,Array.getElem?_append]
  obtain ⟨N',hN'⟩:∃ N:Fr,N = ⟨gn.ntmps,[],Wm gn.ntmps [0],fun d h=>by simp [Wm] at h;omega,fun d=>b0.tmps.getD d undef⟩:=⟨_,rfl⟩
  have D5:Ok bK w0 bJ N' jo ⟨[(0,x),(1,y)],σ.ob⟩ b0 w:=by
   obtain ⟨Fz,κ,hr,hk⟩:=hO
   refine ⟨Fz,κ,⟨fun p hp=>?_,by rw [hb0,hN'];simp;omega,by rw [hb0,hN'],fun d _=>by rw [hN'],hr.ob,hr.wM,hr.pos,hr.fz,hr.Bc,hr.big,hr.ext,hr.kp⟩,hk⟩
   simp only [alZ,List.not_mem_nil,or_false] at hp
   rcases hp with rfl | rfl
   ·rw [e0];exact hr.val hx
   ·rw [e1];exact hr.val hy
  have main:∀ b u,Ok bK w0 bJ N' jo p.2 b u → (∃ z,get p.2.tm 0 = some z ∧ σ' = ⟨[(c1,z)],p.2.ob⟩) → b.defers = [] ∧ ∃ v,(results gn b.tmps).run P u = .ok v u ∧ (∃ v',Ending.returned v = .returned v') ∧ Ok bK w0 bJ N jo σ' a u:=by
   rintro b u ⟨Fz,κ,hr2,hk2⟩ ⟨z,hz,rfl⟩
   refine ⟨by have:=hr2.kM;rw [this,hN'],.tuple #[],?_,⟨_,rfl⟩,?_⟩
   ·unfold results
    rw [hr]
    simp
   ·obtain ⟨_,_,hr,_⟩:=hO
    refine ⟨Fz,κ,⟨fun p hp=>?_,hr.sz,hr.kM,hr.fs,hr2.ob,hr2.wM,hr2.pos,hr2.fz,hr2.Bc,hr2.big,hr2.ext,hr2.kp⟩,hk2⟩
    simp only [alZ,List.not_mem_nil,or_false] at hp
    subst hp
    have h5:b.tmps.getD 0 undef = N'.vs 0:=hr2.fs 0 (by rw [hN'];simp [Wm])
    have h6:N'.vs 0 = a.tmps.getD c1 undef:=by rw [hN'];exact e0
    show jc Fz κ u z (a.tmps.getD c1 undef)
    rw [← h6,← h5]
    exact hr2.val hz
  refine callsD_of_wp hg hb ?_
  have hst:({ tmps:=#[a.tmps.getD c1 undef,a.tmps.getD c2 undef] ++ Array.replicate (gn.ntmps - (#[a.tmps.getD c1 undef,a.tmps.getD c2 undef]:Array Value).size) undef,defers:=[] }:Act) = b0:=by rw [hb0];rfl
  rw [hst]
  rw [hN'] at D5
  refine FD hm heq mV hC c hc D5 h3 fun b u hk=>?_
  rw [← hN'] at hk
  cases hp:p.1 with
  | ext i=>rw [hp] at hd;cases hd
  | jP =>
   rw [hp] at hd
   obtain ⟨z,hz,rfl⟩:=zmm hd
   exact main b u hk ⟨z,hz,rfl⟩
  | ret =>
   rw [hp] at hd
   obtain ⟨z,hz,rfl⟩:=zmm hd
   exact main b u hk ⟨z,hz,rfl⟩
 ·cases hd
end
end
section
open Go
open Go.ChangeMaps (setBlock)
def ofS : SV → FV
 | .int k n=>.int k n
 | .bool b=>.bool b
 | .str s=>.str s
def kvC : KV → CV
 | .one x=>.one (.f (ofS x))
 | .agg xs=>.agg (xs.map fun x=>.f (ofS x))
def Pj (step:St → KV → Option St) (σ:St):List KV → Option St
 | []=>some σ
 | k :: l=>(step σ k).bind fun τ=>Pj step τ l
open Classical in
noncomputable def Wn (step:St → KV → Option St) (σ:St) (l:List KV):Option St :=
 if ∃ τ,∀ m:List KV,m.Perm l → Pj step σ m = some τ then Pj step σ l else none
def Gi (ks os:List Nat) (σ:St):St:=⟨pick ks σ.tm,pick os σ.ob⟩
def IY (σ:St) (os:List Nat) (s:Nat):Option (List KV):=match get σ.tm s with
 | some (.c (.one (.mp key)))=>if os.contains key then none else match get σ.ob key with
  | some (.map _ ents)=>some (ents.map (·.1))
  | _=>none
 | _=>none
noncomputable def Ki (Γ:Env) (F:Nat) (ks os:List Nat) (s:Nat) (g6:List G) (k6:List Nat) (cb:CC) (σ:St) (k:KV):Option St :=
 (yP Γ false g6 ⟨put σ.tm s (.c (kvC k)),σ.ob⟩).bind fun t=>(ev Γ F cb ⟨pick k6 t.tm,t.ob⟩).bind fun p=>match p.1 with
  | .jP=>some (Gi ks os p.2)
  | _=>none
noncomputable def fin (cf:CF) (oG:List CV) (gN:List AV) (σ:St):Option (List AV × List AV):=(kW σ oG gN).bind fun b=>(slots b.2 cf.res).bind fun l=>(nR cf.ro b.2 l).map fun r=>(r.1,b.1)
noncomputable def acu (Γ:Env) (F:Nat) (ca:CC) (g4:List G) (sm:Nat) (ks os:List Nat) (s:Nat) (g6:List G) (k6:List Nat) (cb cc:CC) (cf:CF) (gN:List AV):Option (List AV × List AV) :=
 if gN.length ≠ cf.np then none else (enter cf.bo 0 [] ⟨[],[]⟩ gN).bind fun e=>(ev Γ F ca e.2).bind fun p=>match p.1 with
  | .ext _=>none
  | .ret=>fin cf e.1 gN p.2
  | .jP=>(yP Γ false g4 p.2).bind fun t=>(IY t os sm).bind fun l=>(Wn (Ki Γ F ks os s g6 k6 cb) (Gi ks os t) l).bind fun t=>(ev Γ F cc t).bind fun q=>match q.1 with
   | .ext _=>none
   | _=>fin cf e.1 gN q.2
section
variable {P : Program} {Γ:Env} {bK Fz bR:Nat → Prop} {w0 w w':World} {bJ bs:List Nat} {N N':Fr} {F:Nat} {κ gq jo:Nat → Value} {σ gJ σ':St} {a a':Act} {X:Hx}
def blks (κ:Nat → Value) (ob:List (Nat × Ob)):List Nat:=ob.filterMap fun p=>blk (κ p.1)
theorem Gj {b:Nat} {ob:List (Nat × Ob)}:b ∈ blks κ ob ↔ ∃ p ∈ ob,blk (κ p.1) = some b:=List.mem_filterMap
theorem Rel.base (h:Rel bK w0 bJ N Fz κ σ a w):Rel Fz w (blks κ σ.ob) N Fz κ σ a w :=
 ⟨h.tm,h.sz,h.kM,h.fs,h.ob,h.wM,fun p hp b hb=>⟨(h.pos p hp b hb).1,(h.pos p hp b hb).2.1,.inl (Gj.mpr ⟨p,hp,hb⟩)⟩,fun b hb=>⟨(h.fz b hb).1,.inl hb⟩,fun _ h=>h,alC _,fun _ _ _=>rfl,⟨rfl,rfl⟩⟩
theorem Rel.old (h:Rel bK w0 bJ N Fz κ σ a w) {b:Nat} (hb:b ∈ blks κ σ.ob):¬ Fz b ∧ b < w.heap.size ∧ (b ∈ bJ ∨ w0.heap.size ≤ b):=by
 obtain ⟨p,hp,hb⟩:=Gj.mp hb
 exact h.pos p hp b hb
end
end
section
open Go
def I9 (P:Program):List Field → Nat → Bool
 | [],_=>true
 | f :: fs,i=>(f.name != "_") && (f.offset == i) && (H6 P f.type).isSome && I9 P fs (i + 1)
def okT (P:Program) (t:TypeId):Bool:=!P.eqGuardType P.depth t && match P.underlying t with
 | some (.struct fs)=>!P.stoodInHeld t && I9 P fs.toList 0
 | some (.int _)=>true
 | some .string=>true
 | some .bool=>true
 | _=>false
section
variable {P : Program} {t:TypeId} {w:World}
theorem xg {k:SK} (h:H6 P t = some k):(∃ i,P.underlying t = some (.int i) ∧ k = .int i) ∨ (P.underlying t = some .bool ∧ k = .bool) ∨ (P.underlying t = some .string ∧ k = .str):=by
 unfold H6 at h
 split at h <;> simp_all
theorem Wu {d:Nat} {k:SK} (h:H6 P t = some k) {a b:SV} (ha:a.sk = k) (hb:b.sk = k):(Op.equalIn (d + 1) t (encS a) (encS b)).run P w = .ok (decide (a = b)) w:=by
 rcases xg h with ⟨i,hu,rfl⟩ | ⟨hu,rfl⟩ | ⟨hu,rfl⟩
 ·cases a <;> cases b <;> simp_all [SV.sk,encS,Op.equalIn,run_underlying hu]
  rw [Bool.eq_iff_iff];simp
 ·cases a <;> cases b <;> simp_all [SV.sk,encS,Op.equalIn,run_underlying hu]
  rw [Bool.eq_iff_iff];simp
 ·cases a <;> cases b <;> simp_all [SV.sk,encS,Op.equalIn,run_underlying hu]
  exact Mq.wL _ _
theorem El {k:SK} (h:H6 P t = some k) {xs:Array Value} {o:Nat} {v:Value} (hx:xs[o]? = some v):(part t xs o).run P w = .ok v w:=by
 rcases xg h with ⟨i,hu,rfl⟩ | ⟨hu,rfl⟩ | ⟨hu,rfl⟩ <;> simp [part,isAgg,run_underlying hu,hx]
theorem Cu {d:Nat} {xs ys:Array Value}:∀ {fs:List Field} {i:Nat} {ks:List SK} {ZZ9 bs:List SV},I9 P fs i = true → Ls P fs = some ks → ZZ9.map SV.sk = ks → bs.map SV.sk = ks → (∀ j:Nat,xs[i + j]? = ZZ9[j]?.map encS) → (∀ j:Nat,ys[i + j]? = bs[j]?.map encS) →
  (Op.eqFields (d + 1) xs ys fs).run P w = .ok (decide (ZZ9 = bs)) w
 | [],i,ks,ZZ9,bs,_,hk,ha,hb,_,_=>by
  cases hk
  simp only [List.map_eq_nil_iff] at ha hb
  subst ha;subst hb
  simp [Op.eqFields]
 | f :: fs,i,ks,ZZ9,bs,hf,hk,ha,hb,hx,hy=>by
  obtain ⟨k,h1,h2⟩:=zbm hk
  obtain ⟨l,h3,rfl⟩:=zmm h2
  unfold I9 at hf
  simp only [alN,amf,ne_eq,alW] at hf
  obtain ⟨⟨⟨f1,f2⟩,f3⟩,f4⟩:=hf
  cases ZZ9 with
  | nil=>simp at ha
  | cons a ZZ9 =>
  cases bs with
  | nil=>simp at hb
  | cons b bs =>
  simp only [alD,ang] at ha hb
  have ex:xs[f.offset]? = some (encS a):=by rw [f2];simpa using hx 0
  have ey:ys[f.offset]? = some (encS b):=by rw [f2];simpa using hy 0
  have ih:=Cu (d:=d) f4 h3 ha.2 hb.2 (fun j=>by have:=hx (j + 1);rw [show i + 1 + j = i + (j + 1) from by omega];simpa using this) (fun j=>by have:=hy (j + 1);rw [show i + 1 + j = i + (j + 1) from by omega];simpa using this)
  unfold Op.eqFields
  rw [alx f1]
  simp only [Sem.run_bind,El h1 ex,El h1 ey,Result.andThen_ok,Wu h1 ha.1 hb.1,ang]
  by_cases hab:a = b
  ·subst hab;simp [ih]
  ·simp [hab]
theorem TG {e:Bool} {n:Nat} {k:SK} (h:H6 P t = some k) {a:SV} (ha:a.sk = k):(Instr.checkKey e (n + 1) t (encS a)).run P w = .ok () w:=by
 rcases xg h with ⟨i,hu,rfl⟩ | ⟨hu,rfl⟩ | ⟨hu,rfl⟩ <;> cases a <;> simp_all [SV.sk,encS,Instr.checkKey,run_underlying hu]
theorem Gw {e:Bool} {n:Nat} {cs:Array Value}:∀ {fs:List Field} {i:Nat} {ks:List SK} {ZZ9:List SV},I9 P fs i = true → Ls P fs = some ks → ZZ9.map SV.sk = ks → (∀ j:Nat,cs[i + j]? = ZZ9[j]?.map encS) →
  (forIn fs PUnit.unit (fun (f:Field) (_:PUnit)=>(do
   if f.name ≠ "_" then Instr.checkKey e (n + 1) f.type (← part f.type cs f.offset)
   pure (ForInStep.yield PUnit.unit):Sem (ForInStep PUnit)))).run P w = .ok PUnit.unit w
 | [],i,ks,ZZ9,_,_,_,_=>by simp
 | f :: fs,i,ks,ZZ9,hf,hk,ha,hx=>by
  obtain ⟨k,h1,h2⟩:=zbm hk
  obtain ⟨l,h3,rfl⟩:=zmm h2
  unfold I9 at hf
  simp only [alN,amf,ne_eq,alW] at hf
  obtain ⟨⟨⟨f1,f2⟩,f3⟩,f4⟩:=hf
  cases ZZ9 with
  | nil=>simp at ha
  | cons a ZZ9 =>
  simp only [alD,ang] at ha
  have ex:cs[f.offset]? = some (encS a):=by rw [f2];simpa using hx 0
  have ih:=Gw (e:=e) (n:=n) f4 h3 ha.2 (fun j=>by have:=hx (j + 1);rw [show i + 1 + j = i + (j + 1) from by omega];simpa using this)
  rw [List.forIn_cons]
  simp only [alx f1,Sem.run_bind,El h1 ex,Result.andThen_ok,TG h1 ha.1,Sem.run_pure]
  exact ih
theorem TH {e:Bool} {n:Nat} {fs:Array Field} {ks:List SK} {ZZ9:List SV} (hu:P.underlying t = some (.struct fs)) (hf:I9 P fs.toList 0 = true) (hk:Ls P fs.toList = some ks) (ha:ZZ9.map SV.sk = ks):(Instr.checkKey e (n + 2) t (.agg (ZZ9.map encS).toArray)).run P w = .ok () w:=by
 have:=Gw (w:=w) (e:=e) (n:=n) hf hk ha (cs:=(ZZ9.map encS).toArray) (fun j=>by simp)
 unfold Instr.checkKey
 simp only [Sem.run_bind,run_underlying hu,Result.andThen_ok]
 rw [← Array.forIn_toList]
 simp only [ne_eq,ite_not] at this ⊢
 simp at this ⊢
 rw [this]
 rfl
theorem TI {n:Nat} {ZZ9:List SV} (hs:∀ (n:Nat) (a:SV),Instr.sameBits n (encS a) (encS a) = true):Instr.sameBits (n + 1) (.agg (ZZ9.map encS).toArray) (.agg (ZZ9.map encS).toArray) = true:=by
 unfold Instr.sameBits
 simp only [beq_self_eq_true,am1,alY]
 intro p hp
 have:∀ (l:List Value) (p:Value × Value),p ∈ l.zip l → p.1 = p.2 ∧ p.1 ∈ l:=by
  intro l
  induction l with
  | nil=>intro p hp;simp at hp
  | cons x l ih =>
   intro p hp
   rcases alZ.mp hp with rfl | hp
   ·exact ⟨rfl,by simp⟩
   ·exact ⟨(ih p hp).1,amu _ (ih p hp).2⟩
 obtain ⟨h1,h2⟩:=this _ _ hp
 obtain ⟨x,y⟩:=p
 simp only at h1 h2
 subst h1
 simp only [al6] at h2
 obtain ⟨s,_,rfl⟩:=h2
 exact hs _ s
theorem KC {n:Nat} (a:SV):Instr.sameBits n (encS a) (encS a) = true:=by
 cases a <;> simp [encS,Instr.sameBits]
 rw [Mq.wL];simp
theorem Gx {ks:List SK} {a:KV} (h:a.ks = .agg ks):∃ ZZ9,a = .agg ZZ9 ∧ ZZ9.map SV.sk = ks:=by
 cases a with
 | one x=>cases h
 | agg ZZ9=>exact ⟨ZZ9,rfl,by simpa [KV.ks] using h⟩
theorem Cv {k:SK} {a:KV} (h:a.ks = .one k):∃ x,a = .one x ∧ x.sk = k:=by
 cases a with
 | one x=>exact ⟨x,rfl,by simpa [KV.ks] using h⟩
 | agg ZZ9=>cases h
theorem TJ {n:Nat} {d:TypeDesc} (hu:P.underlying t = some d) (hd:∀ ms,d ≠ .interface ms):(Op.eqGuardIn (n + 1) t .nilIface .nilIface).run P w = .ok false w:=by
 unfold Op.eqGuardIn
 simp only [Sem.run_bind,run_underlying hu,Result.andThen_ok]
 cases d <;> first | rfl | exact absurd rfl (hd _)
theorem Em {d:TypeDesc} (hu:P.underlying t = some d) (hd:∀ ms,d ≠ .interface ms) (w:World):(Op.eqGuardIn Op.maxDepth t .nilIface .nilIface).run P w = .ok false w:=by
 unfold Op.maxDepth
 exact TJ hu hd
theorem YQ (h:okT P t = true):mI P t:=by
 unfold okT at h
 rw [alN] at h
 obtain ⟨hg,h⟩:=h
 have hg':P.eqGuardType P.depth t = false:=by simpa using hg
 have gd:(∀ w,(Op.eqGuardIn Op.maxDepth t .nilIface .nilIface).run P w = .ok false w) → ∀ op x y,∀ (a b:Value) (w:World),(eqGuard op t x y a b).run P w = .ok () w:=by
  intro hn op x y a b w
  have key:(Sem.run P (match a,b with
   | .nilIface,.nilIface=>do
    if (x matches .const _) || (y matches .const _) then return
    if ← Op.eqGuardIn Op.maxDepth t a b then unsupported (.noEntry "binop/eql: two nil values of an interface type with methods, neither of them the literal nil")
   | .agg _,.agg _=>do
    if !(← program).eqGuardType (← program).depth t then return
    if ← Op.eqGuardIn Op.maxDepth t a b then unsupported (.noEntry "binop/eql: two nil values of an interface type with methods, in a part of a struct or an array")
   | _,_=>pure ()) w) = .ok () w:=by
   cases a <;> cases b <;> first | rfl | (simp only [Sem.run_bind,run_program,Result.andThen_ok,hg'];rfl) | skip
   cases x <;> cases y <;> first | rfl | simp [hn]
  unfold eqGuard
  split
  ·exact key
  ·exact key
  ·rfl
 cases hu:P.underlying t with
 | none=>rw [hu] at h;cases h
 | some d =>
  rw [hu] at h
  have sc:∀ k,H6 P t = some k → zn P t = some (.one k) → (∀ w,(Op.eqGuardIn Op.maxDepth t .nilIface .nilIface).run P w = .ok false w) → (∀ a:SV,a.sk = k → MapKept.IsKey d (encS a)) → (∀ a b:SV,a.sk = k → b.sk = k → Instr.sameNow d (encS a) (encS b) = some (decide (a = b))) → mI P t:=by
   intro k hk hks hn h1 h2
   have hcase:∀ {sh},zn P t = some sh → sh = .one k:=fun e=>by rw [hks] at e;cases e;rfl
   refine ⟨fun sh e=>?_,fun sh e a b w ha hb=>?_,gd hn⟩
   ·obtain rfl:=hcase e
    refine Mq.Key.Rx hu (fun a ha=>?_) (fun a b ha hb=>?_) (fun a ha=>?_)
    ·obtain ⟨x,rfl,hx⟩:=Cv ha;exact h1 x hx
    ·obtain ⟨x,rfl,hx⟩:=Cv ha
     obtain ⟨y,rfl,hy⟩:=Cv hb
     simp only [pG,KV.one.injEq]
     exact h2 x y hx hy
    ·obtain ⟨x,rfl,hx⟩:=Cv ha;exact KC x
   ·obtain rfl:=hcase e
    obtain ⟨x,rfl,hx⟩:=Cv ha
    obtain ⟨y,rfl,hy⟩:=Cv hb
    simp only [pG,KV.one.injEq]
    unfold Op.equal Op.maxDepth
    exact Wu hk hx hy
  cases d with
  | int i =>
   refine sc (.int i) (by simp [H6,hu]) (by simp [zn,H6,hu]) (Em hu (fun _ h=>by cases h)) (fun a ha=>?_) (fun a b ha hb=>?_)
   ·cases a <;> simp_all [SV.sk,encS,MapKept.IsKey]
   ·cases a <;> cases b <;> simp_all [SV.sk,encS,Instr.sameNow]
    rw [Bool.eq_iff_iff];simp
  | bool =>
   refine sc .bool (by simp [H6,hu]) (by simp [zn,H6,hu]) (Em hu (fun _ h=>by cases h)) (fun a ha=>?_) (fun a b ha hb=>?_)
   ·cases a <;> simp_all [SV.sk,encS,MapKept.IsKey]
   ·cases a <;> cases b <;> simp_all [SV.sk,encS,Instr.sameNow]
    rw [Bool.eq_iff_iff];simp
  | string =>
   refine sc .str (by simp [H6,hu]) (by simp [zn,H6,hu]) (Em hu (fun _ h=>by cases h)) (fun a ha=>?_) (fun a b ha hb=>?_)
   ·cases a <;> simp_all [SV.sk,encS,MapKept.IsKey]
   ·cases a <;> cases b <;> simp_all [SV.sk,encS,Instr.sameNow]
    exact Mq.wL _ _
  | struct fs =>
   simp only [alN,Bool.not_eq_true'] at h
   have hcase:∀ {sh},zn P t = some sh → ∃ ks,Ls P fs.toList = some ks ∧ sh = .agg ks:=fun e=>by
    unfold zn at e
    rw [hu] at e
    obtain ⟨ks,h1,h2⟩:=zmm e
    exact ⟨ks,h1,h2.symm⟩
   have idx:∀ (ZZ9:List SV) (j:Nat),((ZZ9.map encS).toArray)[0 + j]? = ZZ9[j]?.map encS:=fun ZZ9 j=>by simp
   have heq:∀ sh,zn P t = some sh → ∀ (a b:KV) (w:World),a.ks = sh → b.ks = sh → (Op.equal t (pG a) (pG b)).run P w = .ok (decide (a = b)) w:=by
    intro sh e a b w ha hb
    obtain ⟨ks,hks,rfl⟩:=hcase e
    obtain ⟨ZZ9,rfl,ha1⟩:=Gx ha
    obtain ⟨bs,rfl,hb1⟩:=Gx hb
    have hf:P.fieldsOf t = fs:=by simp [Program.fieldsOf,hu]
    unfold Op.equal Op.maxDepth
    simp only [pG,KV.agg.injEq]
    rw [run_equalIn_struct (P:=P) w _ t _ _ (by rw [hf];exact hu) h.1,hf]
    exact Cu h.2 hks ha1 hb1 (idx ZZ9) (idx bs)
   refine ⟨fun sh e=>?_,heq,gd (Em hu (fun _ h=>by cases h))⟩
   ·obtain ⟨ks,hks,rfl⟩:=hcase e
    refine Mq.Key.Nj hu (fun e' a w ha=>?_) (fun a b w ha hb=>heq _ e a b w ha hb) (fun a ha=>?_) (fun a ha=>?_)
    ·obtain ⟨ZZ9,rfl,ha1⟩:=Gx ha
     exact TH (n:=9998) hu h.2 hks ha1
    ·obtain ⟨ZZ9,rfl,ha1⟩:=Gx ha
     exact TI (n:=9999) (fun n a=>KC a)
    ·obtain ⟨ZZ9,rfl,ha1⟩:=Gx ha
     exact ⟨_,rfl⟩
  | _=>simp at h
end
end
end Go.Proofs.YtfokaoeinpnagaaGreat.Ev

/- A part of the proof of ChainFollows: cut, joined and given short names by a program of this session (wip/tools/pack.py); Lean checks it. No condition. -/
import Derived.Test.YtfokaoeinpnagaaGreatPCFwsl
import Derived.Test.YtfokaoeinpnagaaGreatPCFwsf
import Derived.Test.YtfokaoeinpnagaaGreatProg
import Derived.Test.YtfokaoeinpnagaaGreatPCFwsk
import Derived.WalkKit
import Derived.Test.YtfokaoeinpnagaaGreatPCFwsg
import Derived.Test.YtfokaoeinpnagaaGreatPCFwsj
import Derived.Test.YtfokaoeinpnagaaGreatPCFwsh
import Derived.KernelRfl
import Derived.Test.YtfokaoeinpnagaaGreatPCFwsd
set_option linter.unusedSectionVars false
set_option linter.unusedSimpArgs false
set_option linter.unusedVariables false
set_option maxHeartbeats 16000000
set_option maxRecDepth 100000
namespace Go.Proofs.YtfokaoeinpnagaaGreat.Kc
section
open Go Ev
variable {nm : Int → ByteArray → List ByteArray}
def Wq (nm:Int → ByteArray → List ByteArray) (a:ByteArray) (hits:List jB):Nat → ByteArray
 | 0=>a
 | i + 1=>match hits[i]? with
  | some h=>(uL nm h.s).1
  | none=>⟨#[]⟩
theorem Aa {a:ByteArray} {hits:List jB} {i:Nat}:Wq nm a hits (i + 1) = match hits[i]? with | some h=>(uL nm h.s).1 | none=>⟨#[]⟩:=rfl
theorem vK {a:ByteArray} {hits:List jB} {h:jB}:∀ {i:Nat},i ≤ hits.length → Wq nm a (hits ++ [h]) i = Wq nm a hits i
 | 0,_=>rfl
 | i + 1,hi=>by
  rw [Aa,Aa,am3 (by omega)]
theorem Kz {c:Int} {a b:ByteArray} {hits:List jB} (hP:Path nm c a hits b):(∀ i h,hits[i]? = some h → h.s.q = Wq nm a hits i ∧ h.s.t = 5 ∧ h.s.c = c ∧ 1 ≤ h.left ∧ (uL nm h.s).2 = true) ∧ Wq nm a hits hits.length = b:=by
 induction hP with
 | nil=>exact ⟨fun i h hi=>by simp at hi,rfl⟩
 | snoc hP h1 h2 h3 h4 h5 ih =>
  rename_i hits b ZZ8 h
  have ht:uL nm h.s = (ZZ8,true):=by unfold uL;rw [h5]
  refine ⟨fun i x hx=>?_,?_⟩
  ·by_cases hi:i < hits.length
   ·rw [am3 hi] at hx
    rw [vK (by omega)]
    exact ih.1 i x hx
   ·have hl:=(amm.mp hx).1
    rw [alX,List.length_singleton] at hl
    obtain rfl:i = hits.length:=by omega
    rw [anr (alC _),Nat.sub_self] at hx
    cases hx
    rw [vK (alC _),ih.2]
    exact ⟨h1,h2,h3,h4,by rw [ht]⟩
  ·rw [alX,List.length_singleton,Aa]
   rw [anr (alC _),Nat.sub_self]
   show (uL nm h.s).1 = _
   rw [ht]
def nmv (nm:Int → ByteArray → List ByteArray) (a:ByteArray) (c:Ch) (i:Nat):ByteArray:=if i = c.hits.length ∧ c.e = 0 then Wq nm a c.hits (i - 1) else Wq nm a c.hits i
structure acF (nm:Int → ByteArray → List ByteArray) (q:Qn) (c:Ch):Prop where
 len:c.hits.length ≤ 9
 e:0 ≤ c.e ∧ c.e ≤ 4
 key:∀ i h,c.hits[i]? = some h → h.s.q = Wq nm q.q c.hits i ∧ h.s.c = q.c ∧ 1 ≤ h.left
 last:∀ i h,c.hits[i]? = some h → i + 1 = c.hits.length → c.e = 0 → h.s.t = q.t
 mid:∀ i h,c.hits[i]? = some h → ¬ (i + 1 = c.hits.length ∧ c.e = 0) → h.s.t = 5 ∧ (uL nm h.s).2 = true ∧ q.t ≠ 5
 found:c.e = 0 → c.hits ≠ []
 long:c.e = 4 → c.hits ≠ []
 name:c.e ≠ 4 → c.nm = nmv nm q.q c c.hits.length
theorem acG {q:Qn} {c:Ch} (h:Lnk nm q c):acF nm q c:=by
 by_cases h0:c.e = 0
 ·obtain ⟨hits,x,e1,hP,k1,k2,k3,k4,k5⟩:=h.found h0
  obtain ⟨p1,p2⟩:=Kz hP
  have hl:c.hits.length = hits.length + 1:=by rw [e1];simp
  have I8:∀ i y,c.hits[i]? = some y → (i < hits.length ∧ hits[i]? = some y) ∨ (i = hits.length ∧ y = x):=fun i y hy=>by
   have hb:=(amm.mp hy).1
   rw [e1] at hy
   by_cases hi:i < hits.length
   ·rw [am3 hi] at hy;exact .inl ⟨hi,hy⟩
   ·obtain rfl:i = hits.length:=by omega
    rw [anr (alC _),Nat.sub_self] at hy
    cases hy
    exact .inr ⟨rfl,rfl⟩
  refine ⟨h.len,h.e,fun i y hy=>?_,fun i y hy hi _=>?_,fun i y hy hi=>?_,fun _=>by rw [e1];simp,fun e=>by omega,fun _=>?_⟩
  ·rcases I8 i y hy with ⟨hi,hy'⟩ | ⟨rfl,rfl⟩
   ·obtain ⟨g1,g2,g3,g4,g5⟩:=p1 i y hy'
    rw [e1,vK (by omega)]
    exact ⟨g1,g3,g4⟩
   ·rw [e1,vK (alC _),p2]
    exact ⟨k1,k3,k4⟩
  ·rcases I8 i y hy with ⟨hi',hy'⟩ | ⟨rfl,rfl⟩
   ·omega
   ·exact k2
  ·rcases I8 i y hy with ⟨hi',hy'⟩ | ⟨rfl,rfl⟩
   ·obtain ⟨g1,g2,g3,g4,g5⟩:=p1 i y hy'
    exact ⟨g2,g5,k5 (by intro e;rw [e] at hi';simp at hi')⟩
   ·exact absurd ⟨hl.symm,h0⟩ hi
  ·unfold nmv
   rw [alx ⟨rfl,h0⟩,hl,Nat.add_sub_cancel,e1,vK (alC _),p2]
 ·have main:∃ b,Path nm q.c q.q c.hits b ∧ (c.hits ≠ [] → q.t ≠ 5) ∧ (c.e ≠ 4 → b = c.nm) ∧ (c.e = 4 → c.hits ≠ []):=by
   by_cases h4:c.e = 4
   ·obtain ⟨g1,g2,ZZ8,g3⟩:=h.long h4
    exact ⟨ZZ8,g3,fun _=>g1,fun e=>absurd h4 e,fun _=>g2⟩
   ·obtain ⟨g1,g2⟩:=h.rest h0 h4
    exact ⟨_,g1,g2,fun _=>rfl,fun e=>absurd e h4⟩
  obtain ⟨b,hP,g1,g2,g3⟩:=main
  obtain ⟨p1,p2⟩:=Kz hP
  refine ⟨h.len,h.e,fun i y hy=>?_,fun i y hy hi e=>absurd e h0,fun i y hy hi=>?_,fun e=>absurd e h0,g3,fun e=>?_⟩
  ·obtain ⟨k1,k2,k3,k4,k5⟩:=p1 i y hy
   exact ⟨k1,k3,k4⟩
  ·obtain ⟨k1,k2,k3,k4,k5⟩:=p1 i y hy
   exact ⟨k2,k5,g1 (by intro e;rw [e] at hy;simp at hy)⟩
  ·unfold nmv
   rw [aly (fun x=>h0 x.2),p2,g2 e]
theorem acH (s:Sv) (now:Int):PI (eH s now) now where
 key q h:=by
  obtain ⟨-,h1, -⟩:=Eh h
  exact ⟨al2 Qn.q h1,al2 Qn.t h1,al2 Qn.c h1⟩
 live q h:=(Eh h).2.2
theorem acI (s:Sv) (fd:Qn → Ne.Nt × Bool) (now:Int) (q:Qn):acF nm q (Bz nm (eH s now) fd now q):=acG (TA (acH s now) q)
theorem acJ {s:Sv} {now:Int} {q:Qn} {h:jB} (hy:∀ x ∈ s.m,x.d.length ≤ 1000000) (ht:tl (eH s now) now q = some h):h.s.d.length ≤ 1000000000000:=by
 unfold tl at ht
 split at ht
 ·rename_i hc
  cases ht
  have:=hy _ (Eh hc.1).1
  show (eH s now q).1.d.length ≤ _
  omega
 ·cases ht
theorem Ws {a:Sv × Ne.Nv} {now:Int} (W:FW a):∀ (f:Nat) (met:List ByteArray) (hits:List jB) (q:Qn),(∀ h ∈ hits,h.s.d.length ≤ 1000000000000) → (∀ h ∈ (Km nm (eH a.1 now) (Ne.gF a.2 now) now f met hits q).hits,h.s.d.length ≤ 1000000000000) ∧ (Km nm (eH a.1 now) (Ne.gF a.2 now) now f met hits q).iI.s.d.length ≤ 1000000000000
 | 0,met,hits,q,hh=>by unfold Km;exact ⟨hh,amn _⟩
 | f + 1,met,hits,q,hh=>by
  have app:∀ x:jB,x.s.d.length ≤ 1000000000000 → ∀ h ∈ hits ++ [x],h.s.d.length ≤ 1000000000000:=fun x hx h hm=>by
   rcases amj.mp hm with hm | hm
   ·exact hh h hm
   ·rw [amA] at hm;subst hm;exact hx
  unfold Km
  cases h1:tl (eH a.1 now) now q with
  | some x=>exact ⟨app x (acJ W.hd h1),amn _⟩
  | none =>
   cases h2:al nm (eH a.1 now) now q with
   | none =>
    dsimp only
    unfold fin
    split
    ·rename_i hf
     refine ⟨hh,?_⟩
     show (Ne.gF a.2 now q).1.s.d.length ≤ _
     have h9:∀ b y,Ne.nof a.2.m now b = some y → y.s.d.length ≤ 1000000000000:=fun b y hy=>by
      have:=W.hd2 y (acz hy).1
      omega
     unfold Ne.gF
     split
     ·rename_i y hy;exact h9 _ _ hy
     ·unfold Ne.Ro
      split
      ·rename_i y hy;exact h9 _ _ hy
      ·exact amn _
    ·exact ⟨hh,amn _⟩
   | some p =>
    obtain ⟨x,ZZ8⟩:=p
    have hx:x.s.d.length ≤ 1000000000000:=by
     unfold al at h2
     split at h2
     ·cases h2
     obtain ⟨z,g1,g2⟩:=zbm h2
     obtain ⟨v,g3,g4⟩:=zmm g2
     cases g4
     exact acJ W.hd g1
    dsimp only
    split
    ·exact ⟨app x hx,amn _⟩
    ·exact Ws W f _ _ _ (app x hx)
theorem YP {a:Sv × Ne.Nv} {now:Int} {q:Qn} (W:FW a):(∀ h ∈ (Bz nm (eH a.1 now) (Ne.gF a.2 now) now q).hits,h.s.d.length ≤ 1000000000000) ∧ (Bz nm (eH a.1 now) (Ne.gF a.2 now) now q).iI.s.d.length ≤ 1000000000000:=Ws W 9 _ _ _ (by simp)
end
section
attribute [local go_sem_proc] Nat.reduceAdd Nat.reduceMul Nat.reduceEqDiff Nat.reduceBEq Nat.reduceMod Nat.reduceDiv reduceCtorEq
attribute [local go_sem_proc ↓] reduceIte
open Go Ev
variable {ext : Env} {F n:Nat} {θ:Th} {nm:Int → ByteArray → List ByteArray} {gt:ByteArray → Int → Int → Int × Bool}
def skp (θ:Th) (gt:ByteArray → Int → Int → Int × Bool) (a:Sr × Ne.Rn) (p:Pt):Sr × Ne.Rn:=if 0 < p.r then ((vC θ a.1 p.now p.s p.r).1,a.2) else (a.1,(Ne.nW θ gt a.2 p.now p.k (decide (p.r < 0)) p.s).1)
def ES (θ:Th) (gt:ByteArray → Int → Int → Int × Bool) (l:List Pt):Sr × Ne.Rn:=l.foldl (skp θ gt) (⟨50,[],0⟩,⟨50,[],0⟩)
theorem Gv {l:List Pt} {p:Pt} {i:Nat} (h:l[i]? = some p):ES θ gt (l.take (i + 1)) = skp θ gt (ES θ gt (l.take i)) p:=by
 unfold ES;rw [al7,h,anb];rfl
structure FR (a:Sv × Ne.Nv) (b:Sr × Ne.Rn):Prop where
 s:Rl a.1 b.1
 n:Ne.Rl a.2 b.2
 rs:b.1.room = 50
 rn:b.2.room = 50
theorem fr0 : FR (s50,m50) (⟨50,[],0⟩,⟨50,[],0⟩):=⟨⟨rfl,rfl,rfl,amU,amU,fun _=>rfl,by simp⟩,⟨rfl,rfl,rfl,amU,amU,fun _=>rfl,by simp⟩,rfl,rfl⟩
theorem FR.Px (hg:∀ s a z,0 ≤ (gt s a z).1) {a:Sv × Ne.Nv} {b:Sr × Ne.Rn} (h:FR a b) (p:Pt):FR (Px θ gt a p) (skp θ gt b p):=by
 unfold Kc.Px skp
 have hs:=h.rs
 have hn:=h.rn
 split
 ·obtain ⟨-,e2⟩:=Tg (θ:=θ) h.s (by omega) p.now p.s p.r
  refine ⟨e2,h.n,?_,h.rn⟩
  show (vC θ b.1 p.now p.s p.r).1.room = 50
  rw [← e2.room,show (mZ θ a.1 p.now p.s p.r).1.room = a.1.room from by unfold mZ;dsimp only;split <;> rfl,h.s.room,hs]
 ·obtain ⟨-,e2⟩:=Ne.Tp (θ:=θ) hg h.n (by omega) p.now p.k (decide (p.r < 0)) p.s
  refine ⟨h.s,e2,h.rs,?_⟩
  show (Ne.nW θ gt b.2 p.now p.k (decide (p.r < 0)) p.s).1.room = 50
  rw [show (Ne.nW θ gt b.2 p.now p.k (decide (p.r < 0)) p.s).1.room = b.2.room from by unfold Ne.nW;split;rfl;split <;> rfl,hn]
theorem frI (hg:∀ s a z,0 ≤ (gt s a z).1) (l:List Pt):∀ i,i ≤ l.length → FR (lK θ gt (l.take i)) (ES θ gt (l.take i))
 | 0,_=>fr0
 | i + 1,h=>by
  have hi:l[i]? = some l[i]:=alT (by omega)
  rw [z8 hi,Gv hi]
  exact (frI hg l i (by omega)).Px hg _
theorem frA (hg:∀ s a z,0 ≤ (gt s a z).1) (l:List Pt):FR (lK θ gt l) (ES θ gt l):=by
 have:=frI (θ:=θ) hg l l.length (alC _)
 rwa [al3] at this
theorem acK {s:Sv} {k:Sr} (h:Rl s k):k.l.length = s.o.length:=by rw [h.ord];simp [ks]
theorem acL {s:Ne.Nv} {k:Ne.Rn} (h:Ne.Rl s k):k.l.length = s.o.length:=by rw [h.ord];simp [Ne.ks]
theorem PN {x:It}:∀ {l:List It},(ks l).Nodup → x ∈ l → old l x.k = some x
 | [],_,hx=>by cases hx
 | y :: l,hn,hx=>by
  have hc:=amw.mp hn
  rw [jJ]
  rcases alZ.mp hx with rfl | hx
  ·rw [alx rfl]
  ·rw [aly (fun e=>hc.1 (by rw [e];exact anh hx))]
   exact PN hc.2 hx
theorem KA {x:Ne.Nt}:∀ {l:List Ne.Nt},(Ne.ks l).Nodup → x ∈ l → Ne.old l x.k = some x
 | [],_,hx=>by cases hx
 | y :: l,hn,hx=>by
  have hc:=amw.mp hn
  rw [Ne.jJ]
  rcases alZ.mp hx with rfl | hx
  ·rw [alx rfl]
  ·rw [aly (fun e=>hc.1 (by rw [e];exact anh hx))]
   exact KA hc.2 hx
theorem Wt {s:Sv} {k:Sr} (h:Rl s k) {x:It} (hx:x ∈ k.l):x ∈ s.m:=(ku ((h.old x.k).trans (PN h.kM hx))).2
theorem acM {s:Ne.Nv} {k:Ne.Rn} (h:Ne.Rl s k) {x:Ne.Nt} (hx:x ∈ k.l):x ∈ s.m:=(Ne.ku ((h.old x.k).trans (KA h.kM hx))).2
theorem TB (T:θ.Ok ext) (O:Ne.zV gt ext) (hF:200000000000001 ≤ F) (l:List Pt) (hl:l.length ≤ 1000) (hf:wZ l = true):G ext F (n + 6) 13 [vl (l.map rP)] = some ([(ES θ gt l).1.v,(ES θ gt l).2.v],[vl (l.map rP)]):=by
 refine cZ (cf:=c13) rfl ?_
 have hn:=fun n=>Ta (ext:=ext) (F:=F) (n:=n) 50
 have hm:=fun n=>Ne.O1 (ext:=ext) (F:=F) (n:=n) 50
 rw [aly (by decide)] at hn
 rw [aly (by decide)] at hm
 simp only [Sr.v,Yy,Ne.Rn.v,alE] at hn hm
 dsimp only [c13,av,dB,bE,bM,aW,bZ,dS,eu,dH,aH,dn,dh,bU,bn];simp only [hn,hm,go_sem]
 refine gZ l.length (fun i=>⟨[(0,PV.c (CV.one (PL.f (FV.sl (List.map rP l))))),(2,PV.c (CV.one (PL.ptr 60000 0))),(3,PV.c (CV.one (PL.ptr 80000 0))),(4,PV.c (CV.one (PL.ptr 100000 0))),(5,PV.c (CV.one (PL.ptr 120000 0))),(6,PV.c (CV.one (PL.f (FV.int IntKind.i64 i))))],[(60000,Ob.gM [PL.f (FV.int .i64 0),PL.dz,PL.f (FV.int .i64 0)]),(80000,Ob.gM [PL.f (FV.int .i64 0),PL.dz,PL.f (FV.int .i64 0)]),(100000,Ob.gM [PL.f (FV.int .i64 (ES θ gt (l.take i)).1.room),PL.f (FV.sl ((ES θ gt (l.take i)).1.l.map rI)),PL.f (FV.int .i64 (ES θ gt (l.take i)).1.ch)]),(120000,Ob.gM [PL.f (FV.int .i64 (ES θ gt (l.take i)).2.room),PL.f (FV.sl ((ES θ gt (l.take i)).2.l.map Ne.rN)),PL.f (FV.int .i64 (ES θ gt (l.take i)).2.ch)])]⟩) (fun i=>True) (by omega) rfl trivial (fun i hi hP=>?_) (fun hP=>?_)
 ·obtain ⟨x,hx,hlt,ht,h0⟩:=at_ hi
  have hn:=nx hi (alU hl (by decide))
  have hI:=fi (θ:=θ) (gt:=gt) l i (by omega)
  have hR:=frI (θ:=θ) O.nn l i (by omega)
  rw [Gv hx]
  generalize lK θ gt (l.take i) = a at hI hR
  generalize ES θ gt (l.take i) = b at hR ⊢
  obtain ⟨s,m⟩:=b
  have hz:=vJ hf (amH hx)
  have hso:=hI.s.o
  have hsc:=hI.s.c
  have hno:=hI.n.o
  have hnc:=hI.n.c
  have e1:=acK hR.s
  have e2:=acL hR.n
  have e3:=hR.s.ch
  have e4:=hR.n.ch
  simp only at e1 e2 e3 e4
  unfold skp
  by_cases hr:0 < x.r
  ·rw [alx hr]
   have hr':decide (0 < x.r) = true:=alz hr
   have p1:=fun n=>Tc (F:=F) (n:=n) T s x.now x.s x.r (by omega) hF (by omega) hz.2.1 hz.2.2.1 hz.2.2.2
   simp only [Sr.v,Yy,Se.v,mY] at p1
   simp only [alA,alG,hlt,hx,ht,h0,hn,rP,hr',p1,go_sem]
  ·rw [aly hr]
   have hr':decide (0 < x.r) = false:=alB hr
   have p1:=fun n=>Ne.Pf (F:=F) (n:=n) T O m x.now x.k (decide (x.r < 0)) x.s (by omega) hF (by omega) hz.1 hz.2.1 hz.2.2.1 hz.2.2.2
   simp only [Ne.Rn.v,Se.v,mY] at p1
   simp only [alA,alG,hlt,hx,ht,h0,hn,rP,hr',p1,go_sem]
 ·have hd:=@end_ _ l
  rw [al3]
  simp only [alA,hd,go_sem]
theorem TD {s:Sv} {k:Sr} (h:Rl s k) (now:Int):eH s now = dW k now:=funext fun b=>OY h now b
theorem TF {s:Ne.Nv} {k:Ne.Rn} (h:Ne.Rl s k) (now:Int):Ne.gF s now = Ne.iE k now:=funext fun b=>Ne.Pm h now b
theorem yH (T:θ.Ok ext) (O:Ne.zV gt ext) (C:pO ext) (Q:Gb θ ext) (M:yF nm ext) (L:PD θ nm gt) (hF:200000000000001 ≤ F) (l:List Pt) (now:Int) (q:Qn) (hl:l.length ≤ 200000000000000) (hd:∀ x ∈ l,x.s.d.length ≤ 200000000000000):G ext F (n + 9) 3 [vl (l.map rP),vi now,q.v] = some ([vb true],[vl (l.map rP),vi now,q.v]):=by
 refine cZ (cf:=c3) rfl ?_
 have hs:=fun n=>I5 (ext:=ext) (F:=F) (n:=n) l 40 hl hd hF
 have hv:=fun n=>L6 (F:=F) (n:=n) T O C Q M L hF
 by_cases h1:wZ l = true ∧ (l.length:Int) ≤ 40
 case neg =>
  rw [aly h1] at hs
  dsimp only [c3,av,dB,bE,bM,aW,bZ,dS,eu,dH,aH,dn,dh,bU,bn];simp only [hs,hv,go_sem]
 rw [alx h1] at hs
 have z10:decide ((1:Int) = 0) = false:=rfl
 by_cases h3:q.q.size ≤ 300
 case neg =>
  have h3':decide ((300:Int) < (q.q.size:Int)) = true:=alz (by omega)
  dsimp only [c3,av,dB,bE,bM,aW,bZ,dS,eu,dH,aH,dn,dh,bU,bn];simp only [hs,z10,hv,h3',go_sem]
 have h3':decide ((300:Int) < (q.q.size:Int)) = false:=alB (by omega)
 have fA:=fiA (θ:=θ) (gt:=gt) l
 have W:=fA.w h1.1
 have R:=frA (θ:=θ) O.nn l
 have hso:=fA.s.o
 have hno:=fA.n.o
 have es:=acK R.s
 have en:=acL R.n
 have f:=fun n=>nG (F:=F) (n:=n) T O C Q hF l (by omega) h1.1
 have k:=fun n=>TB (F:=F) (n:=n) T O hF l (by omega) h1.1
 have g:=fun n=>sG (F:=F) (n:=n) M C hF (lK θ gt l).1 (lK θ gt l).2 now q W.hd W.hu W.hy W.hd2 W.hu2
 have g':=fun n=>I7 (F:=F) (n:=n) M hF (ES θ gt l).1 (ES θ gt l).2 now q (by omega) (fun x hx=>W.hu x (Wt R.s hx)) (fun x hx=>W.hy x (Wt R.s hx)) (by omega) (fun x hx=>W.hu2 x (acM R.n hx))
 rw [← TD R.s,← TF R.n] at g'
 have hA:=acI (nm:=nm) (lK θ gt l).1 (Ne.gF (lK θ gt l).2 now) now q
 have hAd:=YP (nm:=nm) (q:=q) (now:=now) W
 generalize Bz nm (eH (lK θ gt l).1 now) (Ne.gF (lK θ gt l).2 now) now q = A at g g' hA hAd
 have hAl:=hA.len
 generalize (lK θ gt l).1 = S at f g
 generalize (lK θ gt l).2 = N at f g
 generalize (ES θ gt l).1 = KS at k g'
 generalize (ES θ gt l).2 = KN at k g'
 have t1:=fun n=>L8 (ext:=ext) (F:=F) (n:=n) A (by omega) hF
 have t2:=fun n=>PE (ext:=ext) (F:=F) (n:=n) A (by omega) hAd.1 hAd.2 hF
 have k1:=fun n=>Gq (ext:=ext) (F:=F) (n:=n) A (by omega) hF
 have k2:=fun n=>LV (ext:=ext) (F:=F) (n:=n) A (by omega) hF
 have k3:=fun n=>OI (ext:=ext) (F:=F) (n:=n) (A.hits.map jB.k) (A.hits.map jB.k) (by simp;omega) hF
 have l1:=fun n=>Gs (ext:=ext) (F:=F) (n:=n) A (by omega) hF
 have l2:=fun n=>LX (ext:=ext) (F:=F) (n:=n) A (by omega) hF
 rw [alz rfl] at k3
 simp only [Sr.v,Yy,Ne.Rn.v] at k g'
 dsimp only [c3,av,dB,bE,bM,aW,bZ,dS,eu,dH,aH,dn,dh,bU,bn];simp only [hs,z10,h3',f,k,g,g',t1,t2,k1,k2,k3,l1,l2,anc,hv,go_sem]
 done
end
end Go.Proofs.YtfokaoeinpnagaaGreat.Kc
namespace Go.Proofs.YtfokaoeinpnagaaGreat.Ev
open Go
section
variable {Γ : Env} {F s c1 c2:Nat} {ca cb cc:CC} {D:St → Option St} {cf:CF} {gN:List AV} {σ:St}
@[go_sem ↓] theorem aij {k:List AV × List AV → Prop} {u:Tok k}:W k u (Ph Γ F ca cb s D cf gN) ↔ gN.length = cf.np ∧ W (fun e=>W (fun p=>p.1 = .jP ∧ W (fun t=>W (fun q=>(∀ id,q.1 ≠ .ext id) ∧ W (fun t=>W (fun b=>W (fun l=>W (fun r=>k (r.1,b.1)) ⟨⟩ (nR cf.ro b.2 l)) ⟨⟩ (slots b.2 cf.res)) ⟨⟩ (kW t e.1 gN)) ⟨⟩ (D q.2)) ⟨⟩ (ev Γ F cb t)) ⟨⟩ (some ⟨put p.2.tm s (.c (.one .any)),p.2.ob⟩)) ⟨⟩ (ev Γ F ca e.2)) ⟨⟩ (enter cf.bo 0 [] ⟨[],[]⟩ gN):=by
 simp only [Ph,eT,dR,bF,bO,ne_eq,aml]
 refine amW alM (dN fun e=>dN fun p=>?_)
 obtain ⟨o,σ'⟩:=p
 cases o with
 | jP =>
  simp only [true_and,bF]
  refine dN fun q=>?_
  obtain ⟨o,σ'⟩:=q
  cases o with
  | ext i=>simp [jX]
  | jP=>simp only [reduceCtorEq,anD,implies_true,true_and,bF,dG]
  | ret=>simp only [reduceCtorEq,anD,implies_true,true_and,bF,dG]
 | ext i=>simp [jX]
 | ret=>simp [jX]
def ds0 (ob:List (Nat × Ob)):Option PV → Option PV → Option St
 | some x,some y=>some ⟨[(0,x),(1,y)],ob⟩
 | _,_=>none
@[go_sem] theorem acN {ob:List (Nat × Ob)} {x y:PV}:ds0 ob (some x) (some y) = some ⟨[(0,x),(1,y)],ob⟩:=rfl
@[go_sem ↓] theorem aj2 {k:St → Prop} {u:Tok k}:W k u (Dcl Γ F cc c1 c2 σ) ↔ W (fun t=>W (fun p=>(∀ id,p.1 ≠ .ext id) ∧ W (fun z=>k ⟨[(c1,z)],p.2.ob⟩) ⟨⟩ (get p.2.tm 0)) ⟨⟩ (ev Γ F cc t)) ⟨⟩ (ds0 σ.ob (get σ.tm c1) (get σ.tm c2)):=by
 unfold Dcl ds0
 cases h1:get σ.tm c1 with
 | none=>simp only [eT,jX]
 | some x =>
  cases h2:get σ.tm c2 with
  | none=>simp only [eT,jX,bO]
  | some y =>
   simp only [eT,bO,bF]
   refine dN fun p=>?_
   obtain ⟨o,σ'⟩:=p
   cases o with
   | ext i=>simp [jX]
   | jP=>simp only [ne_eq,reduceCtorEq,anD,implies_true,true_and,dG]
   | ret=>simp only [ne_eq,reduceCtorEq,anD,implies_true,true_and,dG]
end
end Go.Proofs.YtfokaoeinpnagaaGreat.Ev
namespace Go.Proofs.YtfokaoeinpnagaaGreat.Kc
attribute [local go_sem_proc] Nat.reduceAdd Nat.reduceMul Nat.reduceEqDiff Nat.reduceBEq Nat.reduceMod Nat.reduceDiv reduceCtorEq
attribute [local go_sem_proc ↓] reduceIte
open Go Ev
variable {ext : Env} {F n:Nat} {θ:Th}
def pA : CC:=(.seq (.reg [⟨(some 4),none,(.box 27 (.t 0))⟩,⟨(some 6),none,(.box 42 (.t 2))⟩,⟨(some 8),none,(.alloc 118 [(.f (.int .i64 0))])⟩] [1,3,4,6,8]) (.qc [⟨⟨(some 14),none,(.load 5 true (.t 6))⟩,[200000]⟩,⟨⟨(some 15),none,(.mv (.t 1))⟩,[200000]⟩,⟨⟨(some 16),none,(.fa 4 (.t 6))⟩,[200000]⟩,⟨⟨(some 17),none,(.load 1 false (.t 16))⟩,[200000]⟩,⟨⟨(some 18),none,(.call false 82 [(.t 15),(.t 17)])⟩,[200000]⟩,⟨⟨(some 19),none,(.mv (.t 3))⟩,[200000]⟩,⟨⟨(some 20),none,(.build [(.f (.str ⟨#[]⟩)),(.f (.int .i64 0)),(.f (.int .i64 0)),.dz,(.f (.int .i64 0)),(.f (.int .i64 0)),(.f (.int .i64 0))] [⟨0,⟨5,(.t 14)⟩⟩,⟨5,⟨1,(.t 18)⟩⟩,⟨6,⟨1,(.t 19)⟩⟩])⟩,[200000]⟩,⟨⟨(some 9),none,(.alloc 106 [(.f (.str ⟨#[]⟩)),(.f (.int .i64 0)),(.f (.int .i64 0)),.dz,(.f (.int .i64 0)),(.f (.int .i64 0)),(.f (.int .i64 0))])⟩,[]⟩] [] [] [⟨none,none,(.store 7 (.t 9) (.t 20))⟩] [1,4,6,8,9]))
def pB : CC:=(.seq (.seq (.reg [⟨(some 22),none,(.load 1 false (.t 4))⟩,⟨(some 23),none,(.mv (.t 1))⟩,⟨(some 24),none,(.load 7 true (.t 9))⟩,⟨(some 25),none,(.call false 84 [(.t 22),(.t 23),(.t 24)])⟩,⟨none,none,(.store 1 (.t 8) (.t 25))⟩] [4,6,8,9]) (.seq (.reg [⟨(some 26),none,(.load 1 false (.t 8))⟩,⟨(some 27),none,(.cmp .ne (.t 26) (.k (.one (.f (.int .i64 0)))))⟩] [4,6,8,9,27]) (.cond (.t 27) (.seq (.reg [⟨(some 28),none,(.load 1 false (.t 8))⟩,⟨none,none,(.store 1 (.t 8) (.t 28))⟩] [4,8]) .ret) .skip))) (.seq (.qc [⟨⟨(some 29),none,(.load 1 false (.t 4))⟩,[]⟩,⟨⟨(some 30),none,(.nC (.t 29))⟩,[]⟩,⟨⟨(some 31),none,(.fa 1 (.t 30))⟩,[]⟩,⟨⟨(some 32),none,(.load 1 false (.t 31))⟩,[]⟩,⟨⟨(some 33),none,(.fa 0 (.t 6))⟩,[]⟩,⟨⟨(some 34),none,(.load 3 true (.t 33))⟩,[]⟩,⟨⟨(some 35),none,(.load 7 true (.t 9))⟩,[]⟩,⟨⟨(some 36),none,(.call false 79 [(.t 35)])⟩,[]⟩] [] [] [⟨none,none,(.y8 (.agg [.str,(.int .i64),(.int .i64)]) (.t 32) (.t 34) (.t 36))⟩] [4,6,8]) (.seq (.qc [⟨⟨(some 38),none,(.load 1 false (.t 4))⟩,[]⟩,⟨⟨(some 39),none,(.nC (.t 38))⟩,[]⟩,⟨⟨(some 40),none,(.fa 2 (.t 39))⟩,[]⟩,⟨⟨(some 41),none,(.load 1 false (.t 40))⟩,[]⟩,⟨⟨(some 42),none,(.fa 0 (.t 6))⟩,[]⟩,⟨⟨(some 43),none,(.load 3 true (.t 42))⟩,[]⟩,⟨⟨(some 44),none,(.call false 86 [(.t 41),(.t 43)])⟩,[]⟩,⟨⟨(some 45),none,(.load 1 false (.t 4))⟩,[]⟩,⟨⟨(some 46),none,(.nC (.t 45))⟩,[]⟩,⟨⟨(some 47),none,(.fa 0 (.t 46))⟩,[]⟩,⟨⟨(some 48),none,(.load 1 false (.t 47))⟩,[]⟩,⟨⟨(some 49),none,(.call false 85 [(.t 44),(.t 48)])⟩,[]⟩,⟨⟨(some 37),none,(.mv (.t 49))⟩,[]⟩,⟨⟨(some 50),none,(.ext (.t 37) 0)⟩,[]⟩,⟨⟨(some 51),none,(.ext (.t 37) 1)⟩,[]⟩,⟨⟨(some 10),none,(.mv (.t 50))⟩,[]⟩] [] [] [⟨(some 11),none,(.mv (.t 51))⟩] [4,8,10,11]) (.seq (.seq (.reg [⟨(some 52),none,(.mv (.t 11))⟩,⟨(some 53),none,(.gW (.t 52))⟩,⟨(some 54),none,(.mv (.k (.one (.f (.int .i64 0)))))⟩] [4,8,10,52,53,54]) (.block 0 (.loop [4,8,10,52,53,54] [20201,20205,20208,100000,180000,530002,530004,530006,530008,530010,530012,530014,530016,530202,530204,530206,530208,530210,530212,530214,530216,530402,530404,530406,530408,530410,530412,530414,530416,530602,530604,530606,530608,530610,530612,530614,530616,530802,530804,530806,530808,530810,530812,530814,530816,531002,531004,531006,531008,531010,531012,531014,531016,1000200,1002200] [] (.seq (.reg [⟨(some 55),none,(.cmp .lt (.t 54) (.t 53))⟩] [4,8,10,52,53,54,55]) (.seq (.cond (.t 55) .skip (.exit 0)) (.seq (.block 1 (.seq (.reg [⟨(some 56),none,(.ia 3 (.t 52) (.t 54))⟩,⟨(some 57),none,(.load 3 true (.t 56))⟩,⟨(some 13),none,(.alloc 24 [(.f (.str ⟨#[]⟩)),(.f (.int .i64 0)),(.f (.int .i64 0))])⟩,⟨none,none,(.store 3 (.t 13) (.t 57))⟩] [4,8,10,13,52,53,54]) (.qc [⟨⟨(some 58),none,(.load 1 false (.t 4))⟩,[]⟩,⟨⟨(some 59),none,(.nC (.t 58))⟩,[]⟩,⟨⟨(some 60),none,(.fa 1 (.t 59))⟩,[]⟩,⟨⟨(some 61),none,(.load 1 false (.t 60))⟩,[]⟩,⟨⟨(some 62),none,(.load 3 true (.t 13))⟩,[]⟩] [] [] [⟨none,none,(.del (.agg [.str,(.int .i64),(.int .i64)]) (.t 61) (.t 62))⟩] [4,8,10,52,53,54]))) (.reg [⟨(some 63),none,(.ar .add (.t 54) (.k (.one (.f (.int .i64 1)))))⟩,⟨(some 54),none,(.mv (.t 63))⟩] [4,8,10,52,53,54]))))))) (.seq (.reg [⟨(some 64),none,(.load 1 false (.t 4))⟩,⟨(some 65),none,(.mv (.t 10))⟩,⟨(some 66),none,(.nC (.t 64))⟩,⟨(some 67),none,(.fa 2 (.t 66))⟩,⟨none,none,(.store 1 (.t 67) (.t 65))⟩] [4,8]) (.seq (.reg [⟨none,none,(.store 1 (.t 8) (.k (.one (.f (.int .i64 0)))))⟩] [4,8]) .ret))))))
def PO : CF:=⟨4,[(.cell 8 1 false)],[],[],.skip⟩
def cDf : CF:=⟨2,[],[],[],(.seq (.reg [⟨(some 2),none,(.load 1 false (.t 0))⟩,⟨(some 3),none,(.cmp .eq (.t 2) (.k (.one (.f (.int .i64 0)))))⟩] [0,1,3]) (.cond (.t 3) (.reg [⟨(some 4),none,(.load 1 false (.t 1))⟩,⟨(some 5),none,(.nC (.t 4))⟩,⟨(some 6),none,(.fa 3 (.t 5))⟩,⟨(some 7),none,(.load 1 false (.t 6))⟩,⟨(some 8),none,(.ar .add (.t 7) (.k (.one (.f (.int .i64 1)))))⟩,⟨(some 9),none,(.nC (.t 4))⟩,⟨(some 10),none,(.fa 3 (.t 9))⟩,⟨none,none,(.store 1 (.t 10) (.t 8))⟩] [0]) .skip))⟩
noncomputable abbrev xU (ext:Env) (F n:Nat):List AV → Option (List AV × List AV):=Ph (G ext F n) F pA pB 21 (Dcl (G ext F n) F cDf.body 8 4) PO
theorem PS (now:Int) (x:Se) (r:Int):xU ext F (n + 9) [.one .iW,vi now,x.v,vi r] = some ([vi 1],[.one .iW,vi now,x.v,vi r]):=by
 refine Ou ?_
 have hu:=fun n=>zQ (ext:=ext) (F:=F) (n:=n) now x.ttl
 have hm:=fun n=>OX (ext:=ext) (F:=F) (n:=n) now (x.it (cu now x.ttl) r)
 simp only [xU,pA,pB,PO,cDf,hu,hm,Int.reduceEq,go_sem]
theorem PU (T:θ.Ok ext) (C:pO ext) (s:Sv) (now:Int) (x:Se) (r:Int) (hF:200000000000001 ≤ F) (h1:0 ≤ s.room ∧ s.room ≤ 1000000) (h2:0 ≤ s.ch ∧ s.ch ≤ 1000000000000) (h3:s.o.length ≤ 100000) (h4:x.q.size ≤ 1000000) (h5:x.d.length ≤ 1000000) (h6:∀ y ∈ x.d,y.size ≤ 1000000):xU ext F (n + 9) [s.v,vi now,x.v,vi r] = some ([vi (mZ θ s now x r).2],[(mZ θ s now x r).1.v,vi now,x.v,vi r]):=by
 refine Ou ?_
 have hu:=fun n=>zQ (ext:=ext) (F:=F) (n:=n) now x.ttl
 have hm:=fun n=>YH (F:=F) (n:=n) T s now (x.it (cu now x.ttl) r) hF h4 h5 h6
 by_cases h0:vF θ s now (x.it (cu now x.ttl) r) = 0
 ·have hw:IntKind.i64.wrap (s.ch + 1) = s.ch + 1:=yE (by omega) (by omega)
  have hcl:=fun n=>Ga (ext:=ext) (F:=F) (n:=n) C (x.it (cu now x.ttl) r) h5
  have hq:=@vE s.o x.k
  have ht:=fun n=>F9 (ext:=ext) (F:=F) (n:=n) C s.o x.k (by omega) hF
  have hc:=fun n=>OV (ext:=ext) (F:=F) (n:=n) C (qP s.o x.k ++ [x.k]) s.room (by simp;omega) (by omega) hF
  have hup:=zT s.m (x.it (cu now x.ttl) r)
  simp only [kq,rI] at hup
  rw [h0] at hm
  have he:mZ θ s now x r = (⟨s.room,((qP s.o x.k ++ [x.k]).take ((qP s.o x.k ++ [x.k]).length - s.room.toNat)).foldl rid (upd s.m (x.it (cu now x.ttl) r)),(qP s.o x.k ++ [x.k]).drop ((qP s.o x.k ++ [x.k]).length - s.room.toNat),s.ch + 1⟩,0):=by
   unfold mZ
   simp only [ne_eq,h0,not_true_eq_false,alV]
  rw [he]
  generalize hqt:qP s.o x.k ++ [x.k] = t at ht hc ⊢
  generalize t.drop (t.length - s.room.toNat) = td at hc ⊢
  generalize htt:t.take (t.length - s.room.toNat) = tt at hc ⊢
  have htl:tt.length ≤ 1000000:=by rw [← htt,alP,← hqt,alX,List.length_singleton];omega
  generalize hM:upd s.m (x.it (cu now x.ttl) r) = M at hup ⊢
  simp only [xU,pA,pB,PO,cDf,hu,hm,Int.reduceEq,hcl,ht,hc,hup,hw,go_sem]
  refine gZ tt.length (fun i=>⟨[(4,PV.c (CV.one (PL.ptr 100000 0))),(8,PV.c (CV.one (PL.ptr 180000 0))),(10,PV.c (CV.one (PL.f (FV.sl (List.map rQ td))))),(52,PV.c (CV.one (PL.f (FV.sl (List.map rQ tt))))),(53,PV.c (CV.one (PL.f (FV.int IntKind.i64 ↑(List.map rQ tt).length)))),(54,PV.c (CV.one (PL.f (FV.int IntKind.i64 i))))],[(20201,Ob.gM [PL.f (FV.int IntKind.i64 s.room),PL.mp 530004,PL.f (FV.sl (List.map rQ s.o)),PL.f (FV.int IntKind.i64 s.ch)]),(100000,Ob.gM [PL.ptr 20201 0]),(180000,Ob.gM [PL.f (FV.int IntKind.i64 0)]),(530004,Ob.map ER (((tt.take i).foldl rid M).map ent))]⟩) (fun _=>True) (by omega) rfl trivial (fun i hi _=>?_) (fun _=>?_)
  ·obtain ⟨k,hx,hlt,hit,h00⟩:=at_ hi
   have hn':=nx hi (by omega)
   have hdl:=zS ((tt.take i).foldl rid M) k
   have hfo:(tt.take (i + 1)).foldl rid M = rid ((tt.take i).foldl rid M) k:=by rw [al7,hx,anb];rfl
   simp only [alA,alG,hlt,hx,hit,h00,hn',rQ,hdl,go_sem]
   rw [hfo]
  ·have hd:=@end_ _ tt
   simp only [alA,hd,hw,al3,Int.reduceEq,go_sem]
   done
 ·have he:mZ θ s now x r = (s,vF θ s now (x.it (cu now x.ttl) r)):=by
   unfold mZ
   simp only [ne_eq,h0,anD,ama]
  rw [he]
  simp only [xU,pA,pB,PO,cDf,hu,hm,Int.reduceEq,h0,go_sem]
end Go.Proofs.YtfokaoeinpnagaaGreat.Kc
namespace Go.Proofs.YtfokaoeinpnagaaGreat.Kc
section
attribute [local go_sem_proc] Nat.reduceAdd Nat.reduceMul Nat.reduceEqDiff Nat.reduceBEq Nat.reduceMod Nat.reduceDiv reduceCtorEq
attribute [local go_sem_proc ↓] reduceIte
open Go Go.RowKit Go.Proofs Ev
theorem eqs : ∀ t ∈ [3,9,24],mI Tryz.prog t:=by
 intro t ht
 simp only [alZ,List.not_mem_nil,or_false] at ht
 rcases ht with rfl | rfl | rfl <;> exact YQ (by kernel_rfl)
theorem mixed : Tryz.prog.follows .mixedOrders = true:=by kernel_rfl
theorem TK : jg Tryz.prog fun _ _=>none:=fun f gN rs uy h=>by cases h
theorem L9 : fE Tryz.prog fun _ _=>none:=fun f gN r h=>by cases h
def YR : CF:=⟨1,[(.t 2)],[],[],(.seq (.reg [⟨(some 2),none,(.mv (.k (.one .dz)))⟩] [0]) (.seq (.seq (.reg [⟨(some 3),none,(.mv (.t 0))⟩,⟨(some 4),none,(.Dh false (.t 3))⟩] [0,4]) (.cond (.t 4) (.seq (.reg [⟨(some 2),none,(.mv (.k (.one .dz)))⟩] [2]) .ret) .skip)) (.seq (.reg [⟨(some 5),none,(.tL 9 1 0 [] [])⟩,⟨(some 6),none,(.mv (.t 0))⟩,⟨(some 7),none,(.app 9 1 16 (.t 5) (.t 6))⟩,⟨(some 2),none,(.mv (.t 7))⟩] [2]) .ret)))⟩
def YS : CF:=⟨1,[(.t 2)],[some 3],[],(.seq (.reg [⟨(some 2),none,(.mv (.k (.one .dz)))⟩] [0]) (.seq (.seq (.reg [⟨(some 3),none,(.mv (.t 0))⟩,⟨(some 4),none,(.Dh false (.t 3))⟩] [0,4]) (.cond (.t 4) (.seq (.reg [⟨(some 2),none,(.mv (.k (.one .dz)))⟩] [2]) .ret) .skip)) (.seq (.reg [⟨(some 5),none,(.tL 24 3 0 [] [])⟩,⟨(some 6),none,(.mv (.t 0))⟩,⟨(some 7),none,(.app 24 3 32 (.t 5) (.t 6))⟩,⟨(some 2),none,(.mv (.t 7))⟩] [2]) .ret)))⟩
theorem TL {f:FuncId} {cf:CF} {Γ:Env} (h:jy Tryz.prog f cf) (h1:jg Tryz.prog Γ) (h2:fE Tryz.prog Γ) (F:Nat):Sat Tryz.prog f (M5 Γ F cf):=by
 obtain ⟨fn,c,X,hints,rest,e1,_,e2,e3,e4,e5,e6⟩:=h.ok
 exact Cn mixed e3 h1 h2 e1 e2 e4 e5 e6 F
theorem TM : jy Tryz.prog 72 YR:=⟨Tryz.f72,_,⟨[3,9,24],[],[],[125,134]⟩,[⟨[0],[],[]⟩,⟨[0,4],[],[]⟩,⟨[2],[],[]⟩,⟨[2],[],[]⟩],[],by kernel_rfl,by kernel_rfl,rfl,eqs,by kernel_rfl,by kernel_rfl,by decide⟩
theorem TN : jy Tryz.prog 115 YS:=⟨Tryz.f115,_,⟨[3,9,24],[],[],[125,134]⟩,[⟨[0],[],[]⟩,⟨[0,4],[],[]⟩,⟨[2],[],[]⟩,⟨[2],[],[]⟩],[],by kernel_rfl,by kernel_rfl,rfl,eqs,by kernel_rfl,by kernel_rfl,by decide⟩
theorem TP (r:List FV) (l:List (List FV)) (h:l.length < 1000000) (hl:(r :: l).all (fun r=>r.length == 1) = true):M5 (fun _ _=>none) 10 YR [vl (r :: l)] = some ([vl (r :: l)],[vl (r :: l)]):=by
 refine Ou ?_
 rw [List.all_cons,alN] at hl
 simp only [YR,hl.1,hl.2,List.all_cons,go_sem]
 omega
theorem TQ (r:List FV) (l:List (List FV)) (h:l.length < 1000000) (hl:(r :: l).all (fun r=>r.length == 3) = true):M5 (fun _ _=>none) 10 YS [vl (r :: l)] = some ([.one (.own 3 (r :: l))],[vl (r :: l)]):=by
 refine Ou ?_
 rw [List.all_cons,alN] at hl
 simp only [YS,hl.1,hl.2,List.all_cons,go_sem]
 omega
theorem yU {t e:TypeId} (hu:Tryz.prog.underlying t = some (.slice e)) (p:Option Addr) (c:Nat) (w:World):(binOp .eql t (.slice p 0 c) (.slice none 0 0)).run Tryz.prog w = .ok (.bool p.isNone) w:=by
 have:=run_equal_slice_nil w t e p 0 c hu
 simp only [binOp,Sem.run_bind,this,Result.andThen_ok,Sem.run_pure]
theorem Gy {t ty e:TypeId} {i:TypeInfo} (hu:Tryz.prog.underlying t = some (.slice e)) (hi:Tryz.prog.info? e = some i) (a b:Addr) (c:Nat) (w:World):(Builtin.append_ #[t,t] ty #[.slice (some b) 0 0,.slice (some a) 0 c]).run Tryz.prog w = .ok (.slice (some b) 0 0) w:=by
 have h1:∀ w,(Builtin.lenOf (.slice (some a) 0 c)).run Tryz.prog w = .ok 0 w:=fun _=>rfl
 have h2:=fun w=>run_firstCells_some (P:=Tryz.prog) w i.size 0 a 0 c [] (by simp) (by simp)
 simp [Builtin.append_,run_underlying hu,sizeOf,typeInfo,hi,storeCells,h1,h2]
theorem PW (c:Nat) (w:World):Calls Tryz.prog 72 #[.slice none 0 c] w fun e w'=>e = .returned (.slice none 0 0) ∧ w' = w:=by
 have heq:=yU (t:=40) (e:=9) (by kernel_rfl) none c
 go_enter Tryz.func72,Tryz.ntmps72
 go_wp2
 go_ret
 exact ⟨rfl,rfl⟩
theorem PX (a:Addr) (c:Nat) (w:World):Calls Tryz.prog 72 #[.slice (some a) 0 c] w fun e w'=>e = .returned (.slice (some ⟨w.heap.size,0,none⟩) 0 0) ∧ w' = w.alloc (.cells #[] 9):=by
 have heq:=yU (t:=40) (e:=9) (by kernel_rfl) (some a) c
 obtain ⟨i,hi⟩:=am6.mp (show (Tryz.prog.info? 9).isSome = true by kernel_rfl)
 have hap:=fun b w=>Gy (t:=40) (ty:=40) (e:=9) (by kernel_rfl) hi a b c w
 go_enter Tryz.func72,Tryz.ntmps72
 go_wp2
 go_ret
 exact ⟨rfl,rfl⟩
theorem PY (c:Nat) (w:World):Calls Tryz.prog 115 #[.slice none 0 c] w fun e w'=>e = .returned (.slice none 0 0) ∧ w' = w:=by
 have heq:=yU (t:=56) (e:=24) (by kernel_rfl) none c
 go_enter Tryz.func115,Tryz.ntmps115
 go_wp2
 go_ret
 exact ⟨rfl,rfl⟩
theorem PZ (a:Addr) (c:Nat) (w:World):Calls Tryz.prog 115 #[.slice (some a) 0 c] w fun e w'=>e = .returned (.slice (some ⟨w.heap.size,0,none⟩) 0 0) ∧ w' = w.alloc (.cells #[] 24):=by
 have heq:=yU (t:=56) (e:=24) (by kernel_rfl) (some a) c
 obtain ⟨i,hi⟩:=am6.mp (show (Tryz.prog.info? 24).isSome = true by kernel_rfl)
 have hap:=fun b w=>Gy (t:=56) (ty:=56) (e:=24) (by kernel_rfl) hi a b c w
 go_enter Tryz.func115,Tryz.ntmps115
 go_wp2
 go_ret
 exact ⟨rfl,rfl⟩
def TR (sz:Nat) (own:Bool) (gN:List AV):Option (List AV × List AV):=match gN with
 | [.one (.f (.sl rows))]=>if rows.length ≤ 1000000 ∧ rows.all (fun r=>r.length == sz) = true then some ([.one (if own then .own sz rows else .f (.sl rows))],gN) else none
 | _=>none
theorem Ja (w:World) (o:Obj):w.heap.size ≤ (w.alloc o).heap.size ∧ (∀ b,b < w.heap.size → (w.alloc o).heap[b]? = w.heap[b]?) ∧ (w.alloc o).heap[w.heap.size]? = some o ∧ (w.alloc o).heap.size = w.heap.size + 1:=by
 obtain ⟨h1,h2,h3⟩:=nM w o
 exact ⟨by omega,h2,h1,h3⟩
theorem KD {f:FuncId} {cf:CF} {sz e:Nat} {own:Bool} (h0:0 < sz) (he:jy Tryz.prog f cf) (hrun:∀ (r:List FV) (l:List (List FV)),l.length < 1000000 → (r :: l).all (fun r=>r.length == sz) = true → M5 (fun _ _=>none) 10 cf [vl (r :: l)] = some ([.one (if own then .own sz (r :: l) else .f (.sl (r :: l)))],[vl (r :: l)]))
  (hn:∀ (c:Nat) (w:World),Calls Tryz.prog f #[.slice none 0 c] w fun e w'=>e = .returned (.slice none 0 0) ∧ w' = w)
  (hs:∀ (a:Addr) (c:Nat) (w:World),Calls Tryz.prog f #[.slice (some a) 0 c] w fun e' w'=>e' = .returned (.slice (some ⟨w.heap.size,0,none⟩) 0 0) ∧ w' = w.alloc (.cells #[] e)):Sat Tryz.prog f (TR sz own):=by
 intro gN rs uy hg
 unfold TR at hg
 split at hg
 ·rename_i rows
  split at hg
  ·rename_i hc
   cases hg
   cases rows with
   | cons r l =>
    exact TL he TK L9 10 _ _ _ (hrun r l (by have:=hc.1;simp at this;omega) hc.2)
   | nil =>
    intro Fz w vals bs ha hnd hap hfz
    match vals,ha with
    | [v],⟨b1,b2,h1,h2,e0⟩ =>
    obtain ⟨hv,rfl⟩:=h1
    obtain rfl:b2 = []:=h2
    subst e0
    simp only [fU] at hv
    obtain ⟨A,c,rfl,hle,hbig,_⟩:=hv
    have hrep:∀ (w':World) (v:Value),(∃ A,v = .slice A 0 0) → fU Fz w' (.sl []) v:=fun w' v ⟨A,hA⟩=>by
     simp only [fU];exact ⟨A,0,by rw [hA];rfl,alC _,by simp,.inl trivial⟩
    have hbk:∀ (w':World),gQ Fz w' [vl []] [.slice A ([]:List (List FV)).length c] []:=fun w' =>
     ⟨[],[],⟨by simp only [fU];exact ⟨A,c,rfl,hle,hbig,.inl trivial⟩,rfl⟩,rfl,rfl⟩
    cases A with
    | none =>
     refine (hn c w).mono fun e' w' ⟨e1,e2⟩=>?_
     subst e2
     refine ⟨Fz,[.slice none 0 0],[],[],e1,fun _ h=>h,fun b hb=>⟨hfz b hb,.inl hb⟩,alC _,fun _ _ _=>rfl,⟨rfl,rfl⟩,hbk w',?_,by simp,fun b hb=>by simp at hb⟩
     cases own with
     | true=>exact ⟨[],[],⟨h0,0,[],none,0,rfl,World.ownsRow_nil w' _ _ _,rfl,rfl⟩,rfl,rfl⟩
     | false=>exact ⟨[],[],⟨hrep w' _ ⟨none,rfl⟩,rfl⟩,rfl,rfl⟩
    | some a =>
     refine (hs a c w).mono fun e' w' ⟨e1,e2⟩=>?_
     subst e2
     obtain ⟨k1,k2,k3,k4⟩:=Ja w (.cells #[] e)
     cases own with
     | true =>
      refine ⟨Fz,[.slice (some ⟨w.heap.size,0,none⟩) 0 0],[],[w.heap.size],e1,fun _ h=>h,fun b hb=>⟨amk (hfz b hb) k1,.inl hb⟩,k1,fun b hb _=>k2 b hb,⟨rfl,rfl⟩,hbk _,?_,by simp,fun b hb=>?_⟩
      ·refine ⟨[w.heap.size],[],⟨h0,e,[],_,0,rfl,⟨by simp,.inr ⟨w.heap.size,0,#[],rfl,amn _,k3,alC _,by simp [maxLen],by simp,by simp⟩⟩,rfl,rfl⟩,rfl,rfl⟩
      ·simp at hb
       subst hb
       exact ⟨fun hf=>by have:=hfz _ hf;omega,by omega,.inr (alC _)⟩
     | false =>
      exact ⟨Fz,[.slice (some ⟨w.heap.size,0,none⟩) 0 0],[],[],e1,fun _ h=>h,fun b hb=>⟨amk (hfz b hb) k1,.inl hb⟩,k1,fun b hb _=>k2 b hb,⟨rfl,rfl⟩,hbk _,⟨[],[],⟨hrep _ _ ⟨_,rfl⟩,rfl⟩,rfl,rfl⟩,by simp,fun b hb=>by simp at hb⟩
  ·cases hg
 ·cases hg
theorem TS : Sat Tryz.prog 72 (TR 1 false):=KD (by decide) TM TP PW PX
theorem TT : Sat Tryz.prog 115 (TR 3 true):=KD (by decide) TN TQ PY PZ
end
section
open Go Go.Proofs Ev
theorem e48 : jy Tryz.prog 48 Rj:=⟨Tryz.f48,_,⟨[3,9,24],[],[],[125,134]⟩,[⟨[0],[],[]⟩,⟨[0,8],[],[]⟩,⟨[2],[],[]⟩,⟨[2],[],[]⟩],[],by kernel_rfl,by kernel_rfl,rfl,eqs,by kernel_rfl,by kernel_rfl,by decide⟩
theorem e52 : jy Tryz.prog 52 c52:=⟨Tryz.f52,_,⟨[3,9,24],[],[],[125,134]⟩,[⟨[0,2],[],[]⟩,⟨[0,2,8],[],[]⟩,⟨[2],[],[]⟩,⟨[2],[],[]⟩],[],by kernel_rfl,by kernel_rfl,rfl,eqs,by kernel_rfl,by kernel_rfl,by decide⟩
theorem e54 : jy Tryz.prog 54 c54:=⟨Tryz.f54,_,⟨[3,9,24],[],[],[125,134]⟩,[⟨[1,3,4,6,8],[],[]⟩,⟨[1,3,4,6,8,33],[],[]⟩,⟨[8,9],[],[]⟩,⟨[1,3,4,6,8,10],[],[]⟩,⟨[1,3,4,6,8,10,42],[],[]⟩,⟨[8,9],[],[]⟩,⟨[1,3,4,6,8,10,11],[],[]⟩,⟨[3,4,6,8,10,11,68],[],[]⟩,⟨[8,9],[],[]⟩,⟨[3,4,6,8,10,12],[],[]⟩,⟨[4,8,12],[],[]⟩,⟨[4,8,12,85],[],[]⟩,⟨[4,8,12],[],[]⟩,⟨[4,8],[],[]⟩,⟨[4,8],[],[]⟩,⟨[8,9],[],[]⟩],[],by kernel_rfl,by kernel_rfl,rfl,eqs,by kernel_rfl,by kernel_rfl,by decide⟩
theorem e73 : jy Tryz.prog 73 c73:=⟨Tryz.f73,_,⟨[3,9,24],[],[],[125,134]⟩,[⟨[1,3,5,6],[],[]⟩,⟨[1,3,6,8],[],[]⟩,⟨[3,6,8,25],[],[]⟩,⟨[6,7],[],[]⟩,⟨[6,7],[],[]⟩],[],by kernel_rfl,by kernel_rfl,rfl,eqs,by kernel_rfl,by kernel_rfl,by decide⟩
theorem e43 : jy Tryz.prog 43 Yu:=⟨Tryz.f43,_,⟨[3,9,24],[],[],[125,134]⟩,[⟨[0,1,5,6],[],[]⟩,⟨[0,1,5,6,11],[],[]⟩,⟨[6,7],[],[]⟩,⟨[1,6,8,9],[],[]⟩,⟨[6,8,30],[],[]⟩,⟨[6,7],[],[]⟩,⟨[6,7],[],[]⟩],[],by kernel_rfl,by kernel_rfl,rfl,eqs,by kernel_rfl,by kernel_rfl,by decide⟩
theorem e18 : jy Tryz.prog 18 c18:=⟨Tryz.f18,_,⟨[3,9,24],[],[],[125,134]⟩,[⟨[0,1],[],[]⟩,⟨[0,1,10],[],[]⟩,⟨[4],[],[]⟩,⟨[0,1,5],[],[]⟩,⟨[0,1,5],[20202,40202],[]⟩,⟨[0,1,5,14],[],[]⟩,⟨[0,1,5,25],[],[]⟩,⟨[4],[],[]⟩,⟨[0,1,5],[],[]⟩,⟨[4],[],[]⟩],[],by kernel_rfl,by kernel_rfl,rfl,eqs,by kernel_rfl,by kernel_rfl,by decide⟩
theorem aik : jy Tryz.prog 107 c107:=⟨Tryz.f107,_,⟨[3,9,24],[],[],[125,134]⟩,[⟨[2,3],[],[]⟩,⟨[4],[],[]⟩],[],by kernel_rfl,by kernel_rfl,rfl,eqs,by kernel_rfl,by kernel_rfl,by decide⟩
theorem e45 : jy Tryz.prog 45 Rk:=⟨Tryz.f45,_,⟨[3,9,24],[],[],[125,134]⟩,[⟨[1],[],[]⟩,⟨[1,3],[],[]⟩,⟨[1,3],[20802,40000],[]⟩,⟨[1,3,8],[],[]⟩,⟨[1,3,23],[],[]⟩,⟨[2],[],[]⟩,⟨[1,3],[],[]⟩,⟨[2],[],[]⟩],[],by kernel_rfl,by kernel_rfl,rfl,eqs,by kernel_rfl,by kernel_rfl,by decide⟩
theorem e91 : jy Tryz.prog 91 c91:=⟨Tryz.f91,_,⟨[3,9,24],[],[],[125,134]⟩,[⟨[0],[],[]⟩,⟨[2],[],[]⟩],[],by kernel_rfl,by kernel_rfl,rfl,eqs,by kernel_rfl,by kernel_rfl,by decide⟩
theorem e92 : jy Tryz.prog 92 c92:=⟨Tryz.f92,_,⟨[3,9,24],[],[],[125,134]⟩,[⟨[1],[],[]⟩,⟨[1,3],[],[]⟩,⟨[1,3],[20802,40000],[]⟩,⟨[1,3,9],[],[]⟩,⟨[1,3,4],[],[]⟩,⟨[1,3,39],[],[]⟩,⟨[2],[],[]⟩,⟨[1,3],[],[]⟩,⟨[2],[],[]⟩],[],by kernel_rfl,by kernel_rfl,rfl,eqs,by kernel_rfl,by kernel_rfl,by decide⟩
theorem e93 : jy Tryz.prog 93 c93:=⟨Tryz.f93,_,⟨[3,9,24],[],[],[125,134]⟩,[⟨[0,1],[],[]⟩,⟨[0,1,11],[],[]⟩,⟨[4],[],[]⟩,⟨[4],[],[]⟩],[],by kernel_rfl,by kernel_rfl,rfl,eqs,by kernel_rfl,by kernel_rfl,by decide⟩
theorem e94 : jy Tryz.prog 94 c94:=⟨Tryz.f94,_,⟨[3,9,24],[],[],[125,134]⟩,[⟨[0,1],[],[]⟩,⟨[4],[],[]⟩],[],by kernel_rfl,by kernel_rfl,rfl,eqs,by kernel_rfl,by kernel_rfl,by decide⟩
theorem e95 : jy Tryz.prog 95 c95:=⟨Tryz.f95,_,⟨[3,9,24],[],[],[125,134]⟩,[⟨[2,3],[],[]⟩,⟨[2,3,5],[],[]⟩,⟨[2,3,5],[20402,60000,80000],[]⟩,⟨[2,3,5,10],[],[]⟩,⟨[2,3,5,21],[],[]⟩,⟨[4],[],[]⟩,⟨[2,3,5],[],[]⟩,⟨[4],[],[]⟩],[],by kernel_rfl,by kernel_rfl,rfl,eqs,by kernel_rfl,by kernel_rfl,by decide⟩
theorem e96 : jy Tryz.prog 96 c96:=⟨Tryz.f96,_,⟨[3,9,24],[],[],[125,134]⟩,[⟨[0,1,2],[],[]⟩,⟨[0,1,2,12],[],[]⟩,⟨[6],[],[]⟩,⟨[6],[],[]⟩],[],by kernel_rfl,by kernel_rfl,rfl,eqs,by kernel_rfl,by kernel_rfl,by decide⟩
theorem e97 : jy Tryz.prog 97 c97:=⟨Tryz.f97,_,⟨[3,9,24],[],[],[125,134]⟩,[⟨[0,1],[],[]⟩,⟨[0,1,5],[],[]⟩,⟨[0,1,5,6],[],[]⟩,⟨[0,1,5,6],[20202,120000],[(5,7)]⟩,⟨[0,1,5,6,10],[],[]⟩,⟨[0,1,5,6,15],[],[]⟩,⟨[0,1,5,6],[],[]⟩,⟨[0,1,5,6],[],[]⟩,⟨[4],[],[]⟩],[],by kernel_rfl,by kernel_rfl,rfl,eqs,by kernel_rfl,by kernel_rfl,by decide⟩
theorem e82 : jy Tryz.prog 82 c82:=⟨Tryz.f82,_,⟨[3,9,24],[],[],[125,134]⟩,[⟨[0,1],[],[]⟩,⟨[0,1,11],[],[]⟩,⟨[4],[],[]⟩,⟨[4],[],[]⟩],[],by kernel_rfl,by kernel_rfl,rfl,eqs,by kernel_rfl,by kernel_rfl,by decide⟩
theorem e84 : jy Tryz.prog 84 Yv:=⟨Tryz.f84,_,⟨[3,9,24],[],[],[125,134]⟩,[⟨[0,1,5],[],[]⟩,⟨[0,1,5,31],[],[]⟩,⟨[6],[],[]⟩,⟨[0,1,5,36],[],[]⟩,⟨[6],[],[]⟩,⟨[1,5,7,8],[],[]⟩,⟨[60],[],[]⟩,⟨[6],[],[]⟩,⟨[6],[],[]⟩],[],by kernel_rfl,by kernel_rfl,rfl,eqs,by kernel_rfl,by kernel_rfl,by decide⟩
theorem e79 : jy Tryz.prog 79 c79:=⟨Tryz.f79,_,⟨[3,9,24],[],[],[125,134]⟩,[⟨[1,2],[],[]⟩,⟨[1,2],[],[]⟩,⟨[2],[],[]⟩],[],by kernel_rfl,by kernel_rfl,rfl,eqs,by kernel_rfl,by kernel_rfl,by decide⟩
theorem e85 : jy Tryz.prog 85 c85:=⟨Tryz.f85,_,⟨[3,9,24],[],[],[125,134]⟩,[⟨[0,1],[],[]⟩,⟨[0,6],[],[]⟩,⟨[4,5],[],[]⟩],[],by kernel_rfl,by kernel_rfl,rfl,eqs,by kernel_rfl,by kernel_rfl,by decide⟩
theorem e86 : jy Tryz.prog 86 c86:=⟨Tryz.f86,_,⟨[3,9,24],[7],[],[125,134]⟩,[⟨[0,3],[],[]⟩,⟨[4],[],[]⟩],[],by kernel_rfl,by kernel_rfl,rfl,eqs,by kernel_rfl,by kernel_rfl,by decide⟩
theorem e78 : jy Tryz.prog 78 c78:=⟨Tryz.f78,_,⟨[3,9,24],[],[],[125,134]⟩,[⟨[0,1],[],[]⟩,⟨[4],[],[]⟩],[],by kernel_rfl,by kernel_rfl,rfl,eqs,by kernel_rfl,by kernel_rfl,by decide⟩
theorem e116 : jy Tryz.prog 116 c116:=⟨Tryz.f116,_,⟨[3,9,24],[],[],[125,134]⟩,[⟨[0,3],[],[]⟩,⟨[4],[],[]⟩],[],by kernel_rfl,by kernel_rfl,rfl,eqs,by kernel_rfl,by kernel_rfl,by decide⟩
theorem e38 : jy Tryz.prog 38 FT:=⟨Tryz.f38,_,⟨[3,9,24],[],[],[125,134]⟩,[⟨[0,1],[],[]⟩,⟨[0,1,10],[],[]⟩,⟨[4],[],[]⟩,⟨[0,1,5],[],[]⟩,⟨[0,1,5],[20202,40202],[]⟩,⟨[0,1,5,14],[],[]⟩,⟨[0,1,5,25],[],[]⟩,⟨[4],[],[]⟩,⟨[0,1,5],[],[]⟩,⟨[4],[],[]⟩],[],by kernel_rfl,by kernel_rfl,rfl,eqs,by kernel_rfl,by kernel_rfl,by decide⟩
theorem ail : jy Tryz.prog 113 Sw:=⟨Tryz.f113,_,⟨[3,9,24],[],[],[125,134]⟩,[⟨[1],[],[]⟩,⟨[1,3],[],[]⟩,⟨[1,3,37],[],[]⟩,⟨[2],[],[]⟩,⟨[1,3,39,40,41],[],[]⟩,⟨[1,3,39,40,41],[20802,40000,80000],[]⟩,⟨[1,3,39,40,41,42],[],[]⟩,⟨[1,3,4,5,39,40,41],[],[]⟩,⟨[1,3,39,40,41,66],[],[]⟩,⟨[2],[],[]⟩,⟨[1,3,39,40,41],[],[]⟩,⟨[2],[],[]⟩],[],by kernel_rfl,by kernel_rfl,rfl,eqs,by kernel_rfl,by kernel_rfl,by decide⟩
theorem e99 : jy Tryz.prog 99 c99:=⟨Tryz.f99,_,⟨[3,9,24],[],[],[125,134]⟩,[⟨[1],[],[]⟩,⟨[2],[],[]⟩],[],by kernel_rfl,by kernel_rfl,rfl,eqs,by kernel_rfl,by kernel_rfl,by decide⟩
theorem e39 : jy Tryz.prog 39 Rm:=⟨Tryz.f39,_,⟨[3,9,24],[],[],[125,134]⟩,[⟨[0,1],[],[]⟩,⟨[0,1,5],[],[]⟩,⟨[0,1,5],[20202],[]⟩,⟨[0,1,5,9],[],[]⟩,⟨[0,1,5,17],[],[]⟩,⟨[4],[],[]⟩,⟨[0,1,5],[],[]⟩,⟨[4],[],[]⟩],[],by kernel_rfl,by kernel_rfl,rfl,eqs,by kernel_rfl,by kernel_rfl,by decide⟩
theorem ain : jy Tryz.prog 111 Sy:=⟨Tryz.f111,_,⟨[3,9,24],[],[],[125,134]⟩,[⟨[0,1],[],[]⟩,⟨[4],[],[]⟩],[],by kernel_rfl,by kernel_rfl,rfl,eqs,by kernel_rfl,by kernel_rfl,by decide⟩
theorem aio : jy Tryz.prog 114 Sz:=⟨Tryz.f114,_,⟨[3,9,24],[],[],[125,134]⟩,[⟨[0,1,2],[],[]⟩,⟨[6],[],[]⟩],[],by kernel_rfl,by kernel_rfl,rfl,eqs,by kernel_rfl,by kernel_rfl,by decide⟩
theorem aip : jy Tryz.prog 134 SA:=⟨Tryz.f134,_,⟨[3,9,24],[41],[38],[125,134]⟩,[⟨[0,1],[],[]⟩,⟨[0,1,5],[],[]⟩,⟨[0,1,5,12],[],[]⟩,⟨[4],[],[]⟩,⟨[0,1,5,6],[],[]⟩,⟨[0,1,5,6],[20202],[]⟩,⟨[0,1,5,6,19],[],[]⟩,⟨[0,1,5,6,7],[],[]⟩,⟨[0,1,5,6,7,29],[],[]⟩,⟨[0,1,5,6],[],[]⟩,⟨[0,1,5,6],[],[]⟩,⟨[0,1,5,6],[],[]⟩,⟨[0,5],[],[]⟩,⟨[4],[],[]⟩],[],by kernel_rfl,by kernel_rfl,rfl,eqs,by kernel_rfl,by kernel_rfl,by decide⟩
theorem aiq : jy Tryz.prog 135 SB:=⟨Tryz.f135,_,⟨[3,9,24],[],[],[125,134]⟩,[⟨[1,2],[],[]⟩,⟨[3],[],[]⟩],[],by kernel_rfl,by kernel_rfl,rfl,eqs,by kernel_rfl,by kernel_rfl,by decide⟩
theorem air : jy Tryz.prog 131 c131:=⟨Tryz.f131,_,⟨[3,9,24],[],[],[125,134]⟩,[⟨[0,1],[],[]⟩,⟨[4],[],[]⟩],[],by kernel_rfl,by kernel_rfl,rfl,eqs,by kernel_rfl,by kernel_rfl,by decide⟩
theorem ais : jy Tryz.prog 133 SC:=⟨Tryz.f133,_,⟨[3,9,24],[],[],[125,134]⟩,[⟨[0,1],[],[]⟩,⟨[4],[],[]⟩],[],by kernel_rfl,by kernel_rfl,rfl,eqs,by kernel_rfl,by kernel_rfl,by decide⟩
theorem ait : jy Tryz.prog 121 SE:=⟨Tryz.f121,_,⟨[3,9,24],[],[],[125,134]⟩,[⟨[0],[],[]⟩,⟨[2],[],[]⟩],[],by kernel_rfl,by kernel_rfl,rfl,eqs,by kernel_rfl,by kernel_rfl,by decide⟩
theorem aiu : jy Tryz.prog 122 SF:=⟨Tryz.f122,_,⟨[3,9,24],[],[],[125,134]⟩,[⟨[0,1],[],[]⟩,⟨[4],[],[]⟩],[],by kernel_rfl,by kernel_rfl,rfl,eqs,by kernel_rfl,by kernel_rfl,by decide⟩
theorem aiv : jy Tryz.prog 149 SG:=⟨Tryz.f149,_,⟨[3,9,24],[],[],[125,134]⟩,[⟨[0,1],[],[]⟩,⟨[0,1,7,8],[],[]⟩,⟨[0,1,7,8],[20202],[]⟩,⟨[0,1,7,8,9],[],[]⟩,⟨[0,1,5,7,8],[],[]⟩,⟨[0,1,5,7,8,16],[],[]⟩,⟨[4],[],[]⟩,⟨[0,1,7,8],[],[]⟩,⟨[4],[],[]⟩],[],by kernel_rfl,by kernel_rfl,rfl,eqs,by kernel_rfl,by kernel_rfl,by decide⟩
theorem aiw : jy Tryz.prog 148 c148:=⟨Tryz.f148,_,⟨[3,9,24],[],[],[125,134]⟩,[⟨[0,1],[],[]⟩,⟨[0,1,7,8],[],[]⟩,⟨[0,1,7,8],[20202],[]⟩,⟨[0,1,7,8,9],[],[]⟩,⟨[0,1,5,7,8],[],[]⟩,⟨[0,1,5,7,8,16],[],[]⟩,⟨[4],[],[]⟩,⟨[0,1,7,8],[],[]⟩,⟨[4],[],[]⟩],[],by kernel_rfl,by kernel_rfl,rfl,eqs,by kernel_rfl,by kernel_rfl,by decide⟩
theorem e49 : jy Tryz.prog 49 c49:=⟨Tryz.f49,_,⟨[3,9,24],[],[],[125,134]⟩,[⟨[0],[],[]⟩,⟨[0,8],[],[]⟩,⟨[2],[],[]⟩,⟨[2],[],[]⟩],[],by kernel_rfl,by kernel_rfl,rfl,eqs,by kernel_rfl,by kernel_rfl,by decide⟩
theorem e53 : jy Tryz.prog 53 c53:=⟨Tryz.f53,_,⟨[3,9,24],[],[],[125,134]⟩,[⟨[0,2],[],[]⟩,⟨[0,2,8],[],[]⟩,⟨[2],[],[]⟩,⟨[2],[],[]⟩],[],by kernel_rfl,by kernel_rfl,rfl,eqs,by kernel_rfl,by kernel_rfl,by decide⟩
theorem e87 : jy Tryz.prog 87 c87:=⟨Tryz.f87,_,⟨[3,9,24],[],[],[125,134]⟩,[⟨[1],[],[]⟩,⟨[1,15],[],[]⟩,⟨[2,3],[],[]⟩,⟨[1,4],[],[]⟩,⟨[1,5],[],[]⟩,⟨[2,3],[],[]⟩],[],by kernel_rfl,by kernel_rfl,rfl,eqs,by kernel_rfl,by kernel_rfl,by decide⟩
theorem e98 : jy Tryz.prog 98 c98:=⟨Tryz.f98,_,⟨[3,9,24],[],[],[125,134]⟩,[⟨[1],[],[]⟩,⟨[1,15],[],[]⟩,⟨[2,3],[],[]⟩,⟨[1,4],[],[]⟩,⟨[1,5],[],[]⟩,⟨[2,3],[],[]⟩],[],by kernel_rfl,by kernel_rfl,rfl,eqs,by kernel_rfl,by kernel_rfl,by decide⟩
theorem e55 : jy Tryz.prog 55 c55:=⟨Tryz.f55,_,⟨[3,9,24],[],[],[125,134]⟩,[⟨[1,3,5,7,9,10],[],[]⟩,⟨[1,3,5,7,9,10,12,13],[],[]⟩,⟨[1,3,5,7,9,10,12,42],[],[]⟩,⟨[10,11],[],[]⟩,⟨[1,3,5,7,9,10,14],[],[]⟩,⟨[3,5,7,9,10,14,50],[],[]⟩,⟨[10,11],[],[]⟩,⟨[3,5,7,9,10,14,52],[],[]⟩,⟨[3,5,7,9,10,14],[],[]⟩,⟨[3,5,7,9,10,14,15],[],[]⟩,⟨[5,10,15],[],[]⟩,⟨[5,10,15,70],[],[]⟩,⟨[5,10,15],[],[]⟩,⟨[5,10],[],[]⟩,⟨[5,10],[],[]⟩,⟨[10,11],[],[]⟩],[],by kernel_rfl,by kernel_rfl,rfl,eqs,by kernel_rfl,by kernel_rfl,by decide⟩
theorem e51 : jy Tryz.prog 51 c51:=⟨Tryz.f51,_,⟨[3,9,24],[],[],[125,134]⟩,[⟨[0,1,3,7,9],[],[]⟩,⟨[0,1,3,7,9,11,12],[],[]⟩,⟨[0,1,3,7,9,12,13],[],[]⟩,⟨[0,1,3,7,9,13,26],[],[]⟩,⟨[10],[],[]⟩,⟨[0,3,7,9,13,42],[],[]⟩,⟨[10],[],[]⟩,⟨[0,3,7,9,13,47],[],[]⟩,⟨[0,3,7,9,13],[],[]⟩,⟨[0,7],[],[]⟩,⟨[0,14,15],[],[]⟩,⟨[0,14,75,76,77],[],[]⟩,⟨[0,14,75,76,77],[20201,20205,20208,1460200,1462200],[]⟩,⟨[0,14,75,76,77,78],[],[]⟩,⟨[0,14,17,75,76,77],[],[]⟩,⟨[0,14,75,76,77],[],[]⟩,⟨[0,14,75,76,77],[],[]⟩,⟨[0],[],[]⟩,⟨[],[],[]⟩,⟨[10],[],[]⟩],[],by kernel_rfl,by kernel_rfl,rfl,eqs,by kernel_rfl,by kernel_rfl,by decide⟩
theorem e62 : jy Tryz.prog 62 c62:=⟨Tryz.f62,_,⟨[3,9,24],[],[],[125,134]⟩,[⟨[1,3,5,6],[],[]⟩,⟨[1,3,5,6,8,9],[],[]⟩,⟨[1,3,5,6,8,21],[],[]⟩,⟨[6,7],[],[]⟩,⟨[6,7],[],[]⟩],[],by kernel_rfl,by kernel_rfl,rfl,eqs,by kernel_rfl,by kernel_rfl,by decide⟩
theorem aix : jy Tryz.prog 103 LJ:=⟨Tryz.f103,_,⟨[3,9,24],[],[],[125,134]⟩,[⟨[0,1,5,6],[],[]⟩,⟨[0,1,5,6,13],[],[]⟩,⟨[6,7],[],[]⟩,⟨[0,1,6,18,19,20],[],[]⟩,⟨[0,1,6,18,19,20],[20201,20205,20208,140000,380000,841600],[]⟩,⟨[0,1,6,18,19,20,21],[],[]⟩,⟨[0,1,6,9,18,19,20],[],[]⟩,⟨[0,1,6,10,11,18,19,20],[],[]⟩,⟨[0,1,6,10,18,19,20,39],[],[]⟩,⟨[6,7],[],[]⟩,⟨[0,1,6,18,19,20],[],[]⟩,⟨[6,7],[],[]⟩],[],by kernel_rfl,by kernel_rfl,rfl,eqs,by kernel_rfl,by kernel_rfl,by decide⟩
theorem e100 : jy Tryz.prog 100 SH:=⟨Tryz.f100,_,⟨[3,9,24],[],[],[125,134]⟩,[⟨[0,3],[],[]⟩,⟨[0,3,5],[],[]⟩,⟨[0,3,5,6],[],[]⟩,⟨[0,3,5,6],[20202,80000,120000],[(5,10)]⟩,⟨[0,3,5,6,10],[],[]⟩,⟨[0,3,5,6,19],[],[]⟩,⟨[0,3,5,6],[],[]⟩,⟨[0,3,5,6],[],[]⟩,⟨[4],[],[]⟩],[],by kernel_rfl,by kernel_rfl,rfl,eqs,by kernel_rfl,by kernel_rfl,by decide⟩
theorem e88 : jy Tryz.prog 88 c88:=⟨Tryz.f88,_,⟨[3,9,24],[],[],[125,134]⟩,[⟨[1],[],[]⟩,⟨[2],[],[]⟩],[],by kernel_rfl,by kernel_rfl,rfl,eqs,by kernel_rfl,by kernel_rfl,by decide⟩
theorem e89 : jy Tryz.prog 89 c89:=⟨Tryz.f89,_,⟨[3,9,24],[],[],[125,134]⟩,[⟨[1,2],[],[]⟩,⟨[1,2],[],[]⟩,⟨[2],[],[]⟩],[],by kernel_rfl,by kernel_rfl,rfl,eqs,by kernel_rfl,by kernel_rfl,by decide⟩
theorem e90 : jy Tryz.prog 90 c90:=⟨Tryz.f90,_,⟨[3,9,24],[],[],[125,134]⟩,[⟨[1,2],[],[]⟩,⟨[1,2],[],[]⟩,⟨[2],[],[]⟩],[],by kernel_rfl,by kernel_rfl,rfl,eqs,by kernel_rfl,by kernel_rfl,by decide⟩
theorem aiy : jy Tryz.prog 106 SI:=⟨Tryz.f106,_,⟨[3,9,24],[],[],[125,134]⟩,[⟨[1,3,5,6],[],[]⟩,⟨[1,3,5,6,8],[],[]⟩,⟨[1,3,5,6,8],[20402,80000,120000,140000],[]⟩,⟨[1,3,5,6,8,13],[],[]⟩,⟨[1,3,5,6,8,33],[],[]⟩,⟨[6,7],[],[]⟩,⟨[1,3,5,6,8],[],[]⟩,⟨[6,7],[],[]⟩],[],by kernel_rfl,by kernel_rfl,rfl,eqs,by kernel_rfl,by kernel_rfl,by decide⟩
theorem e3 : jy Tryz.prog 3 c3:=⟨Tryz.f3,_,⟨[3,9,24],[],[],[125,134]⟩,[⟨[0,1,5],[],[]⟩,⟨[0,1,5,21],[],[]⟩,⟨[6],[],[]⟩,⟨[0,1,5,7,8],[],[]⟩,⟨[1,5,7,8,9,10],[],[]⟩,⟨[1,5,9,10,11],[],[]⟩,⟨[11,12],[],[]⟩,⟨[6],[],[]⟩],[],by kernel_rfl,by kernel_rfl,rfl,eqs,by kernel_rfl,by kernel_rfl,by decide⟩
theorem e10 : jy Tryz.prog 10 c10:=⟨Tryz.f10,_,⟨[3,9,24],[],[],[125,134]⟩,[⟨[0,1],[],[]⟩,⟨[0,1,5],[],[]⟩,⟨[0,1,5],[20202],[]⟩,⟨[0,1,5,9],[],[]⟩,⟨[0,1,5,28],[],[]⟩,⟨[4],[],[]⟩,⟨[0,1,5],[],[]⟩,⟨[32],[],[]⟩,⟨[4],[],[]⟩,⟨[4],[],[]⟩],[],by kernel_rfl,by kernel_rfl,rfl,eqs,by kernel_rfl,by kernel_rfl,by decide⟩
theorem e12 : jy Tryz.prog 12 c12:=⟨Tryz.f12,_,⟨[3,9,24],[],[],[125,134]⟩,[⟨[0],[],[]⟩,⟨[0,4],[],[]⟩,⟨[0,4,5],[],[]⟩,⟨[0,4,5,6],[],[]⟩,⟨[0,4,5,6],[20202,160200,160204,160206,180200,180204,180206],[]⟩,⟨[0,4,5,6,12],[],[]⟩,⟨[0,4,5,6,20],[],[]⟩,⟨[0,4,5,6],[],[]⟩,⟨[0,4,5,6],[],[]⟩,⟨[0,4,5,6],[],[]⟩,⟨[2,3],[],[]⟩],[],by kernel_rfl,by kernel_rfl,rfl,eqs,by kernel_rfl,by kernel_rfl,by decide⟩
theorem e13 : jy Tryz.prog 13 c13:=⟨Tryz.f13,_,⟨[3,9,24],[],[],[125,134]⟩,[⟨[0,2,3],[],[]⟩,⟨[0,2,3,4],[],[]⟩,⟨[0,2,3,4,5],[],[]⟩,⟨[0,2,3,4,5,6],[],[]⟩,⟨[0,2,3,4,5,6],[20202,60000,80000,100000,120000,240400,260400,860400,1400400],[]⟩,⟨[0,2,3,4,5,6,16],[],[]⟩,⟨[0,2,3,4,5,6,24],[],[]⟩,⟨[0,2,3,4,5,6,7],[],[]⟩,⟨[0,2,3,4,5,6],[],[]⟩,⟨[0,2,3,4,5,6,9],[],[]⟩,⟨[0,2,3,4,5,6],[],[]⟩,⟨[0,2,3,4,5,6],[],[]⟩,⟨[2,3],[],[]⟩],[],by kernel_rfl,by kernel_rfl,rfl,eqs,by kernel_rfl,by kernel_rfl,by decide⟩
theorem e17 : jy Tryz.prog 17 c17:=⟨Tryz.f17,_,⟨[3,9,24],[],[],[125,134]⟩,[⟨[1,2],[],[]⟩,⟨[1,2,3],[],[]⟩,⟨[1,2,3,4],[],[]⟩,⟨[1,2,3,4],[20202,21402,40000,60000,80000,560000],[]⟩,⟨[1,2,3,4,16],[],[]⟩,⟨[1,2,3,4],[],[]⟩,⟨[1,2,3,4],[],[]⟩,⟨[2],[],[]⟩],[],by kernel_rfl,by kernel_rfl,rfl,eqs,by kernel_rfl,by kernel_rfl,by decide⟩
theorem e46 : jy Tryz.prog 46 c46:=⟨Tryz.f46,_,⟨[3,9,24],[],[],[125,134]⟩,[⟨[0,1,4],[],[]⟩,⟨[4],[],[]⟩],[],by kernel_rfl,by kernel_rfl,rfl,eqs,by kernel_rfl,by kernel_rfl,by decide⟩
theorem e11 : jy Tryz.prog 11 c11:=⟨Tryz.f11,_,⟨[3,9,24],[],[],[125,134]⟩,[⟨[],[],[]⟩,⟨[1],[],[]⟩,⟨[2,3],[500200,500204,500206,502200,502204,502206],[]⟩,⟨[2,3,4],[],[]⟩,⟨[2,3,4,5],[],[]⟩,⟨[4,5,6],[],[]⟩,⟨[4,5,6,7,8],[],[]⟩,⟨[0],[],[]⟩],[],by kernel_rfl,by kernel_rfl,rfl,eqs,by kernel_rfl,by kernel_rfl,by decide⟩
theorem e47 : jy Tryz.prog 47 M9:=⟨Tryz.f47,_,⟨[3,9,24],[],[],[125,134]⟩,[⟨[1],[],[]⟩,⟨[1,14],[],[]⟩,⟨[2,3],[],[]⟩,⟨[4],[],[]⟩,⟨[4,22],[],[]⟩,⟨[2,3],[],[]⟩,⟨[2,3],[],[]⟩],[],by kernel_rfl,by kernel_rfl,rfl,eqs,by kernel_rfl,by kernel_rfl,by decide⟩
theorem e56 : jy Tryz.prog 56 V5:=⟨Tryz.f56,_,⟨[3,9,24],[],[],[125,134]⟩,[⟨[2,3,4],[],[]⟩,⟨[2,4,6,7],[],[]⟩,⟨[2,4,6,24],[],[]⟩,⟨[4,5],[],[]⟩,⟨[4,5],[],[]⟩],[],by kernel_rfl,by kernel_rfl,rfl,eqs,by kernel_rfl,by kernel_rfl,by decide⟩
theorem e57 : jy Tryz.prog 57 V6:=⟨Tryz.f57,_,⟨[3,9,24],[],[],[125,134]⟩,[⟨[2,3,4],[],[]⟩,⟨[2,3,4,13],[],[]⟩,⟨[4,5,6],[],[]⟩,⟨[2,3,4],[],[]⟩,⟨[4,7],[],[]⟩,⟨[4,7,9,10],[],[]⟩,⟨[4,5,6],[],[]⟩],[],by kernel_rfl,by kernel_rfl,rfl,eqs,by kernel_rfl,by kernel_rfl,by decide⟩
theorem e58 : jy Tryz.prog 58 Yw:=⟨Tryz.f58,_,⟨[3,9,24],[],[],[125,134]⟩,[⟨[3,4,5,6],[],[]⟩,⟨[3,4,6,7,8],[],[]⟩,⟨[3,4,6,7,19],[],[]⟩,⟨[4,6],[],[]⟩,⟨[6],[],[]⟩,⟨[3,4,6,7,24],[],[]⟩,⟨[3,4,6,7],[],[]⟩,⟨[3,4,6,7],[],[]⟩,⟨[4,6],[],[]⟩,⟨[6],[],[]⟩],[],by kernel_rfl,by kernel_rfl,rfl,eqs,by kernel_rfl,by kernel_rfl,by decide⟩
theorem e14 : jy Tryz.prog 14 c14:=⟨Tryz.f14,_,⟨[3,9,24],[],[],[125,134]⟩,[⟨[0,1,2,7,8],[],[]⟩,⟨[7,8,9],[],[]⟩,⟨[7,8,9,10],[],[]⟩,⟨[7,8,9,10,11],[],[]⟩,⟨[7,8,9,10,11],[20201,20205,20208,40201,40205,40208,160000,180000,200000,220000,440000,690002,690004,690006,690008,690010,690012,690014,690016,690202,690204,690206,690208,690210,690212,690214,690216,690402,690404,690406,690408,690410,690412,690414,690416,690602,690604,690606,690608,690610,690612,690614,690616,690802,690804,690806,690808,690810,690812,690814,690816,691002,691004,691006,691008,691010,691012,691014,691016,840000,960800,970002,970004,970006,970008,970010,970012,970014,970016,970202,970204,970206,970208,970210,970212,970214,970216,970402,970404,970406,970408,970410,970412,970414,970416,970602,970604,970606,970608,970610,970612,970614,970616,970802,970804,970806,970808,970810,970812,970814,970816,971002,971004,971006,971008,971010,971012,971014,971016,1140200,1141400,1150002,1150004,1150006,1150008,1150010,1150012,1150014,1150016,1150202,1150204,1150206,1150208,1150210,1150212,1150214,1150216,1150402,1150404,1150406,1150408,1150410,1150412,1150414,1150416,1150602,1150604,1150606,1150608,1150610,1150612,1150614,1150616,1150802,1150804,1150806,1150808,1150810,1150812,1150814,1150816,1151002,1151004,1151006,1151008,1151010,1151012,1151014,1151016,1240000],[]⟩,⟨[7,8,9,10,11],[],[]⟩,⟨[7,8,9,10,11],[],[]⟩,⟨[7,8,9,10,11,12,13],[],[]⟩,⟨[7,8,9,10,11,12,36],[],[]⟩,⟨[8,10],[],[]⟩,⟨[8],[],[]⟩,⟨[7,8,9,10,11,14,15,16],[],[]⟩,⟨[7,8,9,10,11,14,15,52],[],[]⟩,⟨[8],[],[]⟩,⟨[7,8,9,10,11,15],[],[]⟩,⟨[7,8,9,10,11,15,72],[],[]⟩,⟨[8,10],[],[]⟩,⟨[8],[],[]⟩,⟨[7,8,9,10,11],[],[]⟩],[],by kernel_rfl,by kernel_rfl,rfl,eqs,by kernel_rfl,by kernel_rfl,by decide⟩
theorem e19 : jy Tryz.prog 19 c19:=⟨Tryz.f19,_,⟨[3,9,24],[],[],[125,134]⟩,[⟨[1],[],[]⟩,⟨[1,3],[],[]⟩,⟨[3,7,8,9],[],[]⟩,⟨[3,7,8,9],[20202,21402,80000],[(3,3)]⟩,⟨[3,7,8,9,10],[],[]⟩,⟨[3,5,7,8,9],[],[]⟩,⟨[3,7,8,9],[],[]⟩,⟨[3,7,8,9],[],[]⟩,⟨[2],[],[]⟩],[],by kernel_rfl,by kernel_rfl,rfl,eqs,by kernel_rfl,by kernel_rfl,by decide⟩
theorem e21 : jy Tryz.prog 21 c21:=⟨Tryz.f21,_,⟨[3,9,24],[],[],[125,134]⟩,[⟨[1],[],[]⟩,⟨[1,3],[],[]⟩,⟨[1,3,10,11,12],[],[]⟩,⟨[1,3,10,11,12],[20202,21402,40000,80000,720000],[(3,1)]⟩,⟨[1,3,10,11,12,13],[],[]⟩,⟨[1,3,5,10,11,12],[],[]⟩,⟨[1,3,10,11,12],[],[]⟩,⟨[1,3,10,11,12],[],[]⟩,⟨[1,3,29],[],[]⟩,⟨[3],[],[]⟩,⟨[3,38],[],[]⟩,⟨[2],[],[]⟩,⟨[3,6],[],[]⟩,⟨[6,42,43,44],[],[]⟩,⟨[6,42,43,44],[80000,720000],[]⟩,⟨[6,42,43,44,45],[],[]⟩,⟨[6,8,42,43,44],[],[]⟩,⟨[6,42,43,44],[],[]⟩,⟨[6,42,43,44],[],[]⟩,⟨[2],[],[]⟩],[],by kernel_rfl,by kernel_rfl,rfl,eqs,by kernel_rfl,by kernel_rfl,by decide⟩
theorem e61 : jy Tryz.prog 61 Yx:=⟨Tryz.f61,_,⟨[3,9,24],[],[],[125,134]⟩,[⟨[1],[],[]⟩,⟨[1,14],[],[]⟩,⟨[2,3],[],[]⟩,⟨[4],[],[]⟩,⟨[4,22],[],[]⟩,⟨[2,3],[],[]⟩,⟨[2,3],[],[]⟩],[],by kernel_rfl,by kernel_rfl,rfl,eqs,by kernel_rfl,by kernel_rfl,by decide⟩
theorem e59 : jy Tryz.prog 59 c59:=⟨Tryz.f59,_,⟨[3,9,24],[],[],[125,134]⟩,[⟨[1,3,5,6],[],[]⟩,⟨[6,8,9],[],[]⟩,⟨[6,7],[],[]⟩],[],by kernel_rfl,by kernel_rfl,rfl,eqs,by kernel_rfl,by kernel_rfl,by decide⟩
theorem e15 : jy Tryz.prog 15 c15:=⟨Tryz.f15,_,⟨[3,9,24],[],[],[125,134]⟩,[⟨[2,4,5,7,8],[],[]⟩,⟨[2,4,5,7,8,9],[],[]⟩,⟨[2,4,5,7,8,9,10],[],[]⟩,⟨[2,4,5,7,8,9,10,11],[],[]⟩,⟨[2,4,5,7,8,9,10,11],[20402,40402,100000,120000,160000,180000,200000,220000,520000,1100000,1960000,2481600],[(10,1)]⟩,⟨[2,4,5,7,8,9,10,11],[],[]⟩,⟨[2,4,5,7,8,9,10,11,12,13],[],[]⟩,⟨[2,4,5,7,8,9,10,11,12,42],[],[]⟩,⟨[2,8,9,12,14],[],[]⟩,⟨[8,9,14],[],[]⟩,⟨[8,9],[],[]⟩,⟨[8],[],[]⟩,⟨[2,4,5,7,8,9,10,11,15,16],[],[]⟩,⟨[2,4,5,7,8,9,10,11,15,16,17,18],[],[]⟩,⟨[2,4,5,7,8,9,10,11,15,17,82],[],[]⟩,⟨[2,4,5,7,8,9,10,15,17,19],[],[]⟩,⟨[2,4,5,7,8,9,10,15,17,19,20],[],[]⟩,⟨[2,4,5,7,8,9,10,17,19,20],[],[]⟩,⟨[2,4,5,7,8,9,10,17,19],[],[]⟩,⟨[2,4,5,7,8,9,10,17,106],[],[]⟩,⟨[8,9],[],[]⟩,⟨[8],[],[]⟩,⟨[2,4,5,7,8,9,10,17],[],[]⟩,⟨[2,4,5,7,8,9,10,11],[],[]⟩,⟨[2,8,9,21,22],[],[]⟩,⟨[2,8,9,21,126],[],[]⟩,⟨[2,8,9,21],[],[]⟩,⟨[2,8,9,21,129],[],[]⟩,⟨[2,8,9,21],[],[]⟩,⟨[8,9],[],[]⟩,⟨[8],[],[]⟩,⟨[8,9],[],[]⟩,⟨[8],[],[]⟩],[],by kernel_rfl,by kernel_rfl,rfl,eqs,by kernel_rfl,by kernel_rfl,by decide⟩
theorem e20 : jy Tryz.prog 20 c20:=⟨Tryz.f20,_,⟨[3,9,24],[],[],[125,134]⟩,[⟨[1],[],[]⟩,⟨[1,3],[],[]⟩,⟨[1,3,4],[],[]⟩,⟨[1,3,4],[20202,21402,40000,80000],[(3,3)]⟩,⟨[1,3,4,9],[],[]⟩,⟨[1,3,4],[],[]⟩,⟨[1,3,4],[],[]⟩,⟨[2],[],[]⟩],[],by kernel_rfl,by kernel_rfl,rfl,eqs,by kernel_rfl,by kernel_rfl,by decide⟩
theorem e22 : jy Tryz.prog 22 EP:=⟨Tryz.f22,_,⟨[3,9,24],[],[],[125,134]⟩,[⟨[1],[],[]⟩,⟨[1,3],[],[]⟩,⟨[1,3,4],[],[]⟩,⟨[1,3,4],[20202,21402,40000,80000,740000],[(3,1)]⟩,⟨[1,3,4,11],[],[]⟩,⟨[1,3,4],[],[]⟩,⟨[1,3,4],[],[]⟩,⟨[1,3,30],[],[]⟩,⟨[3],[],[]⟩,⟨[3,5],[],[]⟩,⟨[3,5,6],[],[]⟩,⟨[3,5,6],[80000,740000],[]⟩,⟨[3,5,6,40],[],[]⟩,⟨[3,5,6,52],[],[]⟩,⟨[3,5,6],[],[]⟩,⟨[3,5,6],[],[]⟩,⟨[2],[],[]⟩],[],by kernel_rfl,by kernel_rfl,rfl,eqs,by kernel_rfl,by kernel_rfl,by decide⟩
theorem e63 : jy Tryz.prog 63 c63:=⟨Tryz.f63,_,⟨[3,9,24],[],[],[125,134]⟩,[⟨[2,3],[],[]⟩,⟨[4],[],[]⟩],[],by kernel_rfl,by kernel_rfl,rfl,eqs,by kernel_rfl,by kernel_rfl,by decide⟩
theorem e16 : jy Tryz.prog 16 c16:=⟨Tryz.f16,_,⟨[3,9,24],[],[],[125,134]⟩,[⟨[2,3],[],[]⟩,⟨[2,3,34],[],[]⟩,⟨[4],[],[]⟩,⟨[2,3,5],[],[]⟩,⟨[2,3,5],[20202,21402,40202,41402,60000,80000],[]⟩,⟨[2,3,5,39],[],[]⟩,⟨[2,3,5,53],[],[]⟩,⟨[4],[],[]⟩,⟨[2,3,5],[],[]⟩,⟨[4],[],[]⟩],[],by kernel_rfl,by kernel_rfl,rfl,eqs,by kernel_rfl,by kernel_rfl,by decide⟩
theorem aiz : jy Tryz.prog 102 OA:=⟨Tryz.f102,_,⟨[3,9,24],[],[],[125,134]⟩,[⟨[0,1],[],[]⟩,⟨[0,1,8],[],[]⟩,⟨[4],[],[]⟩,⟨[4],[],[]⟩],[],by kernel_rfl,by kernel_rfl,rfl,eqs,by kernel_rfl,by kernel_rfl,by decide⟩
theorem aiA : jy Tryz.prog 101 SL:=⟨Tryz.f101,_,⟨[3,9,24],[],[],[125,134]⟩,[⟨[0],[],[]⟩,⟨[2],[],[]⟩],[],by kernel_rfl,by kernel_rfl,rfl,eqs,by kernel_rfl,by kernel_rfl,by decide⟩
theorem aiB : jy Tryz.prog 104 SN:=⟨Tryz.f104,_,⟨[3,9,24],[],[],[125,134]⟩,[⟨[0],[],[]⟩,⟨[2],[],[]⟩],[],by kernel_rfl,by kernel_rfl,rfl,eqs,by kernel_rfl,by kernel_rfl,by decide⟩
theorem e60 : jy Tryz.prog 60 c60:=⟨Tryz.f60,_,⟨[3,9,24],[],[],[125,134]⟩,[⟨[0,1],[],[]⟩,⟨[0,1,8],[],[]⟩,⟨[4],[],[]⟩,⟨[4],[],[]⟩],[],by kernel_rfl,by kernel_rfl,rfl,eqs,by kernel_rfl,by kernel_rfl,by decide⟩
theorem ents : ∀ p ∈ zN,jy Tryz.prog p.1 p.2:=alF.2 ⟨e48,alF.2 ⟨e52,alF.2 ⟨e54,alF.2 ⟨e73,alF.2 ⟨e43,alF.2 ⟨e18,alF.2 ⟨aik,alF.2 ⟨e45,alF.2 ⟨e91,alF.2 ⟨e92,alF.2 ⟨e93,alF.2 ⟨e94,alF.2 ⟨e95,alF.2 ⟨e96,alF.2 ⟨e97,alF.2 ⟨e82,alF.2 ⟨e84,alF.2 ⟨e79,alF.2 ⟨e85,alF.2 ⟨e86,alF.2 ⟨e78,alF.2 ⟨e116,alF.2 ⟨e38,alF.2 ⟨ail,alF.2 ⟨e99,alF.2 ⟨e39,alF.2 ⟨ain,alF.2 ⟨aio,alF.2 ⟨aip,alF.2 ⟨aiq,alF.2 ⟨air,alF.2 ⟨ais,alF.2 ⟨ait,alF.2 ⟨aiu,alF.2 ⟨aiv,alF.2 ⟨aiw,alF.2 ⟨e49,alF.2 ⟨e53,alF.2 ⟨e87,alF.2 ⟨e98,alF.2 ⟨e55,alF.2 ⟨e51,alF.2 ⟨e62,alF.2 ⟨aix,alF.2 ⟨e100,alF.2 ⟨e88,alF.2 ⟨e89,alF.2 ⟨e90,alF.2 ⟨aiy,alF.2 ⟨e3,alF.2 ⟨e10,alF.2 ⟨e12,alF.2 ⟨e13,alF.2 ⟨e17,alF.2 ⟨e46,alF.2 ⟨e11,alF.2 ⟨e47,alF.2 ⟨e56,alF.2 ⟨e57,alF.2 ⟨e58,alF.2 ⟨e14,alF.2 ⟨e19,alF.2 ⟨e21,alF.2 ⟨e61,alF.2 ⟨e59,alF.2 ⟨e15,alF.2 ⟨e20,alF.2 ⟨e22,alF.2 ⟨e63,alF.2 ⟨e16,alF.2 ⟨aiz,alF.2 ⟨aiA,alF.2 ⟨aiB,alF.2 ⟨e60,fun _ h=>nomatch h⟩⟩⟩⟩⟩⟩⟩⟩⟩⟩⟩⟩⟩⟩⟩⟩⟩⟩⟩⟩⟩⟩⟩⟩⟩⟩⟩⟩⟩⟩⟩⟩⟩⟩⟩⟩⟩⟩⟩⟩⟩⟩⟩⟩⟩⟩⟩⟩⟩⟩⟩⟩⟩⟩⟩⟩⟩⟩⟩⟩⟩⟩⟩⟩⟩⟩⟩⟩⟩⟩⟩⟩⟩⟩
end
section
open Go Go.Proofs Ev
theorem TU {ext:Env} (h1:jg Tryz.prog ext) (h2:fE Tryz.prog ext) (F n:Nat):Sat Tryz.prog 50 (xU ext F n):=by
 obtain ⟨g1,g2⟩:=Ov (zN:=zN) (F:=F) mixed ents h1 h2 n
 have hf:Tryz.prog.funcs[50]? = some Tryz.f50:=by kernel_rfl
 have hg:Tryz.prog.funcs[83]? = some Tryz.f83:=by kernel_rfl
 have hD:=YL (X:=⟨[3,9,24],[],[],[125,134]⟩) (c1:=8) (c2:=4) (h1:=[⟨[0,1,3],[],[]⟩,⟨[0],[],[]⟩]) (h2:=[]) (cc:=cDf.body) mixed eqs g1 g2 hg rfl (by kernel_rfl) rfl (by decide) F
 exact IX (X:=⟨[3,9,24],[],[],[125,134]⟩) (ha:=[⟨[1,3,4,6,8],[],[]⟩,⟨[1,4,6,8,9],[],[]⟩]) (hb':=[⟨[4,6,8,9],[],[]⟩,⟨[4,6,8,9,27],[],[]⟩,⟨[4,8],[],[]⟩,⟨[4,6,8],[],[]⟩,⟨[4,8,10,11],[],[]⟩,⟨[4,8,10,52,53,54],[],[]⟩,⟨[4,8,10,52,53,54],[20201,20205,20208,100000,180000,530002,530004,530006,530008,530010,530012,530014,530016,530202,530204,530206,530208,530210,530212,530214,530216,530402,530404,530406,530408,530410,530412,530414,530416,530602,530604,530606,530608,530610,530612,530614,530616,530802,530804,530806,530808,530810,530812,530814,530816,531002,531004,531006,531008,531010,531012,531014,531016,1000200,1002200],[]⟩,⟨[4,8,10,52,53,54,55],[],[]⟩,⟨[4,8,10,13,52,53,54],[],[]⟩,⟨[4,8,10,52,53,54],[],[]⟩,⟨[4,8,10,52,53,54],[],[]⟩,⟨[4,8],[],[]⟩,⟨[4,8],[],[]⟩]) (ra:=[]) (rb:=[]) (ca:=pA) (cb:=pB) (cf:=PO) mixed eqs g1 g2 hf rfl hg (by kernel_rfl) (by kernel_rfl) (by kernel_rfl) (by kernel_rfl) (by kernel_rfl) (by decide) (by decide) (by decide) (by decide) hD F
end
section
open Go Go.RowKit Ev
open Go.Proofs.YtfokaoeinpnagaaGreatW.bI in
theorem AY {Fz:Nat → Prop} {w:World}:∀ {r:List ByteArray} {inner:List Value},(inner.length = r.length * 1 ∧ ∀ j p,r[j]? = some p → (inner.drop (j * 1)).take 1 = [.string p]) → fF Fz w 1 (r.map dx) inner
 | [],inner,h=>by
  show inner = []
  exact am5 (by simpa using h.1)
 | x :: r,inner,h=>by
  have h0:=h.2 0 x rfl
  rw [amK,amG] at h0
  refine ⟨rfl,by rw [h0];exact ⟨rfl,trivial⟩,AY ⟨by have:=h.1;simp at this ⊢;omega,fun j p hj=>?_⟩⟩
  have:=h.2 (j + 1) p (by simpa using hj)
  rw [List.drop_drop,show 1 + j * 1 = (j + 1) * 1 from by omega]
  exact this
def gNm (g:Int → ByteArray → List ByteArray) (gN:List AV):Option (List AV × List AV):=match gN with
 | [.one (.f (.int .i64 k)),.one (.f (.str q))]=>if q.size ≤ 1000000 then some ([vl ((g k q).map dx)],gN) else none
 | _=>none
open Go.Proofs.YtfokaoeinpnagaaGreatW.bI in
theorem Lc {f:FuncId} {g:Int → ByteArray → List ByteArray} (h:∀ k q w,q.size ≤ 1000000 → Calls Tryz.prog f #[.int .i64 k,.string q] w fun e w'=>∃ v:Value,e = .returned v ∧ Kd.R Kd.string 9 w' w.heap.size (fun _=>True) v (g k q) ∧ Below w.heap.size w w'):Sat Tryz.prog f (gNm g):=by
 intro gN rs uy hg Fz w vals bs ha hnd hap hfz
 unfold gNm at hg
 split at hg
 ·rename_i k q
  split at hg
  ·rename_i hq
   cases hg
   obtain ⟨e1,e2⟩:=zW (l:=[.int .i64 k,.str q]) ha
   subst e1;subst e2
   refine (h k q w hq).mono fun e w' ⟨v,he,hv,hb⟩=>?_
   subst he
   obtain ⟨-,inner,ho,hr⟩:=hv
   have hr':inner.length = (g k q).length * 1 ∧ ∀ j p,(g k q)[j]? = some p → (inner.drop (j * 1)).take 1 = [.string p]:=hr
   have hbl:∀ b ∈ Ev.qK v,w.heap.size ≤ b ∧ b < w'.heap.size:=fun b hb'=>by
    rcases ho.2 with ⟨rfl,_⟩ | ⟨y,cap,cur,rfl,hy,hh, -⟩
    ·exact absurd hb' (by simp [Ev.qK,Ev.blk])
    ·have e1:b = y:=by simpa [Ev.qK,Ev.blk] using hb'
     subst e1
     exact ⟨hy,(amI.mp hh).1⟩
   have hsl:∃ A c,v = .slice A ((g k q).map dx).length c:=by
    rw [alA]
    rcases ho.2 with ⟨rfl,hn⟩ | ⟨y,cap,cur,rfl,_⟩
    ·exact ⟨none,0,by rw [hn]⟩
    ·exact ⟨_,_,rfl⟩
   obtain ⟨A,c,hv⟩:=hsl
   have hro:jV Fz w' 1 ((g k q).map dx) v (Ev.qK v):=⟨by decide,9,inner,A,c,hv,by rw [alA];exact ⟨ho.1,ho.2.imp id (fun ⟨y,cap,cur,h1,_,h3⟩=>⟨y,cap,cur,h1,amn _,h3⟩)⟩,AY hr',rfl⟩
   refine ⟨fun b=>Fz b ∨ (w.heap.size ≤ b ∧ b < w'.heap.size),[v],[],[],rfl,fun b h=>.inl h,fun b hb'=>?_,hb.size,fun b hb' _=>hb.block b hb',⟨hb.os,hb.output⟩,vI (l:=[.int .i64 k,.str q]),?_,by simp,fun b hb'=>by simp at hb'⟩
   ·rcases hb' with h1 | h1
    ·exact ⟨amk (hfz b h1) hb.size,.inl h1⟩
    ·exact ⟨h1.2,.inr (.inr h1.1)⟩
   ·exact ⟨[],[],⟨hro.fz (fun b h=>.inl h) (fun b hb'=>.inr (hbl b hb')),rfl⟩,rfl,rfl⟩
  ·cases hg
 ·cases hg
end
section
open Go Go.RowKit Ev
abbrev AG := List AV → Option (List AV × List AV)
def WS (g:ByteArray → SV):AG:=fun gN=>match gN with
 | [.one (.f (.str q))]=>if q.size ≤ 1000000 then some (IW [g q],IW [.str q]) else none
 | _=>none
def WT (g:Int → ByteArray → SV):AG:=fun gN=>match gN with
 | [.one (.f (.int .i64 k)),.one (.f (.str q))]=>if q.size ≤ 1000000 then some (IW [g k q],IW [.int .i64 k,.str q]) else none
 | _=>none
theorem yY {f:FuncId} {g:ByteArray → SV} (h:∀ q w,q.size ≤ 1000000 → Calls Tryz.prog f #[.string q] w fun e w'=>e = .returned (encS (g q)) ∧ Below w.heap.size w w'):Sat Tryz.prog f (WS g):=by
 refine Sat.yx fun gN r he=>?_
 unfold WS at he
 split at he
 ·split at he
  ·cases he;rename_i q hq;exact ⟨[.str q],[g q],rfl,rfl,fun w=>h q w hq⟩
  ·cases he
 ·cases he
theorem yZ {f:FuncId} {g:Int → ByteArray → SV} (h:∀ k q w,q.size ≤ 1000000 → Calls Tryz.prog f #[.int .i64 k,.string q] w fun e w'=>e = .returned (encS (g k q)) ∧ Below w.heap.size w w'):Sat Tryz.prog f (WT g):=by
 refine Sat.yx fun gN r he=>?_
 unfold WT at he
 split at he
 ·split at he
  ·cases he;rename_i k q hq;exact ⟨[.int .i64 k,.str q],[g k q],rfl,rfl,fun w=>h k q w hq⟩
  ·cases he
 ·cases he
def gS3 (g:ByteArray → Int → Int → Int × Bool):AG:=fun gN=>match gN with
 | [.one (.f (.str q)),.one (.f (.int .i64 a)),.one (.f (.int .i64 z))]=>if q.size ≤ 1000000 then some (IW [.int .i64 (g q a z).1,.bool (g q a z).2],IW [.str q,.int .i64 a,.int .i64 z]) else none
 | _=>none
theorem Ld {f:FuncId} {g:ByteArray → Int → Int → Int × Bool} (h:∀ q a z w,q.size ≤ 1000000 → Calls Tryz.prog f #[.string q,.int .i64 a,.int .i64 z] w fun e w'=>e = .returned (.tuple #[.int .i64 (g q a z).1,.bool (g q a z).2]) ∧ Below w.heap.size w w'):Sat Tryz.prog f (gS3 g):=by
 refine Sat.yx fun gN r he=>?_
 unfold gS3 at he
 split at he
 ·split at he
  ·cases he;rename_i q a z hq;exact ⟨[.str q,.int .i64 a,.int .i64 z],[.int .i64 (g q a z).1,.bool (g q a z).2],rfl,rfl,fun w=>h q a z w hq⟩
  ·cases he
 ·cases he
def Hu (s:ByteArray) (a z:Int):Int × Bool:=if ZQ.lC s a z then (ZQ.iU z.toNat s a,true) else (0,false)
def Zw (q:ByteArray):ByteArray:=if B.kK q = true then B.qM q else ⟨#[]⟩
def Db : Th:=⟨B.kK,Zw,ZQ.yT,ZQ.lw⟩
def nm₀ (k:Int) (q:ByteArray):List ByteArray:=(ZQ.prt k q).2.2.1
def leafs : List (FuncId × AG):=[
 (109,WS fun q=>.bool (B.kK q)),(68,WS fun q=>.str (Zw q)),
 (42,WS fun q=>.bool (B.kK q)),(41,WS fun q=>.str (Zw q)),
 (128,WT fun k q=>.bool (ZQ.yT k q)),(132,WT fun k q=>.str (ZQ.lw k q)),
 (118,WT fun k q=>.bool (ZQ.yT k q)),(119,WT fun k q=>.str (ZQ.lw k q)),
 (72,TR 1 false),(115,TR 3 true),
 (117,gS3 Hu),(120,gS3 Hu),(81,gNm nm₀),(105,gNm nm₀)]
theorem Hw : ∀ p ∈ leafs,Sat Tryz.prog p.1 p.2:=by
 have hk:∀ q:ByteArray,q.size ≤ 1000000 → q.size ≤ 1000000000:=fun q h=>by omega
 intro p hp
 simp only [leafs,alZ,List.not_mem_nil,or_false] at hp
 rcases hp with rfl | rfl | rfl | rfl | rfl | rfl | rfl | rfl | rfl | rfl | rfl | rfl | rfl | rfl
 ·exact yY fun q w hq=>ZQ.jE.calls 600 q _ w (ZQ.GX 600 (alC _) q (hk q hq))
 ·exact yY fun q w hq=>ZQ.ou.calls 600 q _ w (ZQ.yt 600 (alC _) q (hk q hq))
 ·exact yY fun q w hq=>ZQ.dV.calls 600 q _ w (ZQ.vZ 600 (alC _) q (hk q hq))
 ·exact yY fun q w hq=>ZQ.gy.calls 600 q _ w (ZQ.AX 600 (alC _) q (hk q hq))
 ·exact yZ fun k q w hq=>ZQ.jH.calls _ k q _ w (ZQ.C8 (ZQ.K0 + 20) (by omega) k q)
 ·exact yZ fun k q w hq=>ZQ.fI.calls _ k q _ w (ZQ.Vf (ZQ.K0 + 20) (by omega) k q)
 ·exact yZ fun k q w hq=>ZQ.bY.calls _ k q _ w (ZQ.pz (ZQ.K0 + 20) (by omega) k q)
 ·exact yZ fun k q w hq=>ZQ.bN.calls _ k q _ w (ZQ.Jv (ZQ.K0 + 20) (by omega) k q)
 ·exact TS
 ·exact TT
 ·refine Ld fun q a z w hq=>?_
  have h:=ZQ.get_eq 9 (alC _) q a z (by omega)
  exact (ZQ.bC.calls 9 q a z _ _ w h).mono fun e w' hh=>⟨hh.1,hh.2.below⟩
 ·refine Ld fun q a z w hq=>?_
  have h:=ZQ.uG 9 (alC _) q a z hq
  exact (ZQ.ay.calls 9 q a z _ _ w h).mono fun e w' hh=>⟨hh.1,hh.2.below⟩
 ·exact Lc fun k q w hq=>ZQ.oD.calls _ k q _ w (ZQ.Q9 (ZQ.K0 + 20) (by omega) k q)
 ·exact Lc fun k q w hq=>ZQ.bq.calls _ k q _ w (ZQ.wH (ZQ.K0 + 20) (by omega) k q)
theorem AZ : ∀ p ∈ leafs,∃ fn,Tryz.prog.funcs[p.1]? = some fn ∧ (fn.name == "runtime.NumGoroutine") = false ∧ fn.body.isSome = true:=by
 intro p hp
 simp only [leafs,alZ,List.not_mem_nil,or_false] at hp
 rcases hp with rfl | rfl | rfl | rfl | rfl | rfl | rfl | rfl | rfl | rfl | rfl | rfl | rfl | rfl
 ·exact ⟨Tryz.f109,by kernel_rfl,by kernel_rfl,by kernel_rfl⟩
 ·exact ⟨Tryz.f68,by kernel_rfl,by kernel_rfl,by kernel_rfl⟩
 ·exact ⟨Tryz.f42,by kernel_rfl,by kernel_rfl,by kernel_rfl⟩
 ·exact ⟨Tryz.f41,by kernel_rfl,by kernel_rfl,by kernel_rfl⟩
 ·exact ⟨Tryz.f128,by kernel_rfl,by kernel_rfl,by kernel_rfl⟩
 ·exact ⟨Tryz.f132,by kernel_rfl,by kernel_rfl,by kernel_rfl⟩
 ·exact ⟨Tryz.f118,by kernel_rfl,by kernel_rfl,by kernel_rfl⟩
 ·exact ⟨Tryz.f119,by kernel_rfl,by kernel_rfl,by kernel_rfl⟩
 ·exact ⟨Tryz.f72,by kernel_rfl,by kernel_rfl,by kernel_rfl⟩
 ·exact ⟨Tryz.f115,by kernel_rfl,by kernel_rfl,by kernel_rfl⟩
 ·exact ⟨Tryz.f117,by kernel_rfl,by kernel_rfl,by kernel_rfl⟩
 ·exact ⟨Tryz.f120,by kernel_rfl,by kernel_rfl,by kernel_rfl⟩
 ·exact ⟨Tryz.f81,by kernel_rfl,by kernel_rfl,by kernel_rfl⟩
 ·exact ⟨Tryz.f105,by kernel_rfl,by kernel_rfl,by kernel_rfl⟩
def Jw : Env:=pV leafs
theorem Vh : jg Tryz.prog Jw:=zX Hw
theorem MS : fE Tryz.prog Jw:=uz AZ
noncomputable def ins : List (FuncId × AG):=(50,xU Jw 200000000000001 9) :: leafs
theorem Zx : ∀ p ∈ ins,Sat Tryz.prog p.1 p.2:=by
 intro p hp
 rcases alZ.mp hp with rfl | hp
 ·exact TU Vh MS _ _
 ·exact Hw p hp
theorem Ra : ∀ p ∈ ins,∃ fn,Tryz.prog.funcs[p.1]? = some fn ∧ (fn.name == "runtime.NumGoroutine") = false ∧ fn.body.isSome = true:=by
 intro p hp
 rcases alZ.mp hp with rfl | hp
 ·exact ⟨Tryz.f50,by kernel_rfl,by kernel_rfl,by kernel_rfl⟩
 ·exact AZ p hp
noncomputable def ext1 : Env:=pV ins
theorem Vi : jg Tryz.prog ext1:=zX Zx
theorem MU : fE Tryz.prog ext1:=uz Ra
theorem aei : Db.Ok Jw:=by
 constructor <;> intros <;> simp_all [Jw,leafs,pV,WS,WT,IW,YK,Db,vs,vb,vi]
theorem Zy : Db.Ok ext1:=by
 constructor <;> intros <;> simp_all [ext1,ins,leafs,pV,WS,WT,IW,YK,Db,vs,vb,vi]
theorem Le {α:Type} (sz:Nat) (own:Bool) (l:List α) (f:α → List FV) (hf:∀ x,(f x).length = sz) (h:l.length ≤ 1000000):TR sz own [vl (l.map f)] = some ([.one (if own then .own sz (l.map f) else .f (.sl (l.map f)))],[vl (l.map f)]):=by
 have h1:((l.map f).all fun r=>r.length == sz) = true:=by
  rw [alY];intro r hr;obtain ⟨x, -,rfl⟩:=al6.mp hr;exact alW.mpr (hf x)
 show (if (l.map f).length ≤ 1000000 ∧ _ then _ else _) = _
 rw [alx ⟨by rw [alA];exact h,h1⟩]
theorem aej (l:List ByteArray) (h:l.length ≤ 1000000):TR 1 false [vl (l.map dx)] = some ([vl (l.map dx)],[vl (l.map dx)]):=Le 1 false l dx (fun _=>rfl) h
theorem aek (l:List Qn) (h:l.length ≤ 1000000):TR 3 true [vl (l.map rQ)] = some ([.one (.own 3 (l.map rQ))],[vl (l.map rQ)]):=Le 3 true l rQ (fun _=>rfl) h
theorem ael : pO Jw:=⟨fun l h=>aek l h,fun l h=>aej l h⟩
theorem Zz : pO ext1:=⟨fun l h=>aek l h,fun l h=>aej l h⟩
theorem Hy (gN:List AV):ext1 50 gN = xU Jw 200000000000001 (0 + 9) gN:=by
 unfold ext1 ins pV;rw [alx rfl]
theorem Vj : Gb Db ext1 where
 p0 now x r:=by rw [Hy];exact PS now x r
 p1 s now x r h1 h2 h3 _ h4 h5 h6:=by rw [Hy];exact PU aei ael s now x r (alC _) h1 h2 h3 h4 h5 h6
theorem ZA : Ne.zV Hu ext1:=by
 refine ⟨fun s a z h=>?_,fun s a z h=>?_,fun s a z=>?_⟩
 ·simp [ext1,ins,leafs,pV,gS3,IW,YK,h,vs,vb,vi]
 ·simp [ext1,ins,leafs,pV,gS3,IW,YK,h,vs,vb,vi]
 ·unfold Hu
  split
  ·exact (ZQ.qD _ _ _).1
  ·exact amb _
theorem ZB : yF nm₀ ext1:=by
 constructor
 all_goals
  intro k q h
  simp [ext1,ins,leafs,pV,gNm,h,vs,vi]
end
section
open Go Ev
variable {nm : Int → ByteArray → List ByteArray} {θ:Th} {gt:ByteArray → Int → Int → Int × Bool}
abbrev fr : ByteArray:=⟨#[5,97,108,105,97,115,5,97,108,105,97,115,0]⟩
end
section
open Go Go.RowKit Ev
theorem Vk : PD Db nm₀ Hu:=by constructor <;> decide +kernel
end
section
open Go Ev
theorem opQ : Lf Tryz.prog 24 rQ (fun _=>True) :=
 y5 (fun p:ByteArray × Int × Int=>⟨p.1,p.2.1,p.2.2⟩) (by exact fun _=>rfl) (by exact fun _ _=>trivial) (uI Tryz.underlying24 (by kernel_rfl) (mE (sz:=1) (sz':=2) (Lg Tryz.underlying9) (by kernel_rfl) (mE (sz:=1) (sz':=1) (wI Tryz.underlying3) (by kernel_rfl) (xJ (wI Tryz.underlying3) (by kernel_rfl)))))
theorem opD : Lf Tryz.prog 40 (fun d:List ByteArray=>[.sl (d.map dx)]) (fun d=>d.length ≤ 140737488351232) :=
 y5 (fun d:List ByteArray=>d) (by exact fun _=>rfl) (by exact fun _ h=>h.1) (Df 1 Tryz.underlying40 (by kernel_rfl) (by decide) (fun _=>rfl) (by kernel_rfl) (Lg Tryz.underlying9))
theorem opS : Lf Tryz.prog 42 rS (fun x=>x.d.length ≤ 140737488351232) :=
 y5 (fun p:Qn × List ByteArray × Int=>⟨p.1.q,p.1.t,p.1.c,p.2.1,p.2.2⟩) (by exact fun _=>rfl) (by exact fun _ h=>h.2.1) (uI Tryz.underlying42 (by kernel_rfl) (mE (sz:=3) (sz':=2) opQ (by kernel_rfl) (mE (sz:=1) (sz':=1) opD (by kernel_rfl) (xJ (wI Tryz.underlying3) (by kernel_rfl)))))
theorem opP : Lf Tryz.prog 113 rP (fun x=>x.s.d.length ≤ 140737488351232) :=
 y5 (fun p:Int × Se × Int × Qn=>⟨p.1,p.2.1,p.2.2.1,p.2.2.2⟩) (by exact fun _=>rfl) (by exact fun _ h=>h.2.1) (uI Tryz.underlying113 (by kernel_rfl) (mE (sz:=1) (sz':=9) (wI Tryz.underlying3) (by kernel_rfl) (mE (sz:=5) (sz':=4) opS (by kernel_rfl) (mE (sz:=1) (sz':=3) (wI Tryz.underlying3) (by kernel_rfl) (xJ opQ (by kernel_rfl))))))
theorem ai6 : Lf Tryz.prog 22 (fun l:List Pt=>[.sl (l.map rP)]) (fun l=>l.length ≤ 140737488351232 ∧ ∀ x ∈ l,x.s.d.length ≤ 140737488351232) :=
 Df 10 Tryz.underlying22 (by kernel_rfl) (by decide) (fun _=>rfl) (by kernel_rfl) opP
end
end Go.Proofs.YtfokaoeinpnagaaGreat.Kc
